/- The small functions of the statements of layer 12. -/
import Derived.Test.YtekbonciafbjiaaLedg8
namespace Go.Proofs.Ytekbonciafbjiaa
open Go.RowKit F64
set_option linter.unusedSimpArgs false
set_option linter.unusedVariables false
attribute [local go_sem] run_store_float

set_option maxHeartbeats 1000000 in
set_option maxRecDepth 100000 in
theorem ask_Request (c s k : Int) (key : ByteArray) (n id : Int) (w : World) : Calls Try.prog 12 #[.agg #[.int .i64 c, .int .i64 s, .int .i64 k, .string key, .int .u64 n, .int .i64 id]] w fun e w' =>
    e = .returned (.agg #[.int .i64 c, .int .i64 s, .int .i64 k, .string key, .float .f64 n.toNat, .int .i64 id]) ∧ Ext Non w w' := by
  go_enter Try.func12, Try.ntmps12
  go_wp2_with fail
  go_region
  all_goals go_wp2
  all_goals refine bodyPost_ret (by simp [results, Try.results12, go_sem]; try rfl) rfl ?_
  all_goals exact ⟨rfl, (((Ext.refl _ _).alloc _).alloc _).drew⟩
theorem Ints.tail_eq {xs ys : List Int} {i : Nat} (hl : xs.length = ys.length) (h : xs.take i = ys.take i) (hi : i < xs.length) (e : xs[i] = ys[i]'(by omega)) : xs.take (i + 1) = ys.take (i + 1) := by
  rw [List.take_succ_eq_append_getElem hi, List.take_succ_eq_append_getElem (by omega), h, e]
theorem ref_SameInts (a1 : Option Addr) (c1 : Nat) (xs : List Int) (a2 : Option Addr) (c2 : Nat) (ys : List Int) (w : World) (h1 : Ints w a1 c1 xs) (h2 : Ints w a2 c2 ys) : Calls Try.prog 46 #[.slice a1 xs.length c1, .slice a2 ys.length c2] w fun e w' =>
    e = .returned (.bool (decide (xs = ys))) ∧ Ext Non w w' := by
  have H1 := Go.Lib.hid h1
  have H2 := Go.Lib.hid h2
  have hm := h1.small
  have hm2 := h1.le
  clear h1 h2
  by_cases hl : xs.length = ys.length
  · have HL := Go.Lib.hid hl
    rw [← hl]
    have hbe : ((xs.length : Int) == (xs.length : Int)) = true := by simp
    clear hl
    go_enter Try.func46, Try.ntmps46
    go_wp2
    go_loopw [5] (fun iv wr => ∃ (i : Nat), i ≤ xs.length ∧ iv = .int .i64 i ∧ Ext Non w wr ∧ xs.take i = ys.take i) (fun iv _ => xs.length - (intOf iv).toNat)
    case atStart => exact ⟨0, Nat.zero_le _, rfl, Ext.refl _ _, rfl⟩
    case round =>
      obtain ⟨i, hi, rfl, x, ht⟩ := hrel
      have HT := Go.Lib.hid ht; clear ht
      have X := Go.Lib.hid x; clear x
      by_cases hlt : i < xs.length
      · obtain ⟨b, o, e1, hc, _⟩ := (H1.out.extN X.out).at_ i hlt
        obtain ⟨b', o', e2, hc', _⟩ := (H2.out.extN X.out).at_ i (by have := HL.out; omega)
        subst e1; subst e2
        generalize hx : xs[i] = p at hc
        generalize hy : ys[i]'(by have := HL.out; omega) = q at hc'
        have HX := Go.Lib.hid hx; have HY := Go.Lib.hid hy; clear hx hy
        by_cases hpq : p = q
        · have hb : (p == q) = true := by rw [beq_iff_eq]; exact hpq
          have HP := Go.Lib.hid hpq; clear hpq
          go_wp2_with fail
          go_region
          go_wp2
          go_roundw
          case rel => exact ⟨i + 1, hlt, by go_num, X.out.drew, Ints.tail_eq HL.out HT.out hlt (by rw [HX.out, HY.out]; exact HP.out)⟩
          case measure => simp [intOf]; omega
        · have hb : (p == q) = false := by rw [beq_eq_false_iff_ne]; exact hpq
          have HP := Go.Lib.hid hpq; clear hpq
          go_wp2_with fail
          go_region
          go_wp2
          go_returns
          refine ⟨?_, X.out.drew⟩
          have : decide (xs = ys) = false := decide_eq_false (fun e => HP.out (by rw [← HX.out, ← HY.out]; simp only [e]))
          rw [this]
          rfl
      · go_wp2
        go_returns
        refine ⟨?_, X.out⟩
        have : decide (xs = ys) = true := decide_eq_true (by
          have := HT.out
          rw [List.take_of_length_le (by omega), List.take_of_length_le (by have := HL.out; omega)] at this
          exact this)
        rw [this]
        rfl
  · have HL := Go.Lib.hid hl
    have hb : ((xs.length : Int) == (ys.length : Int)) = false := by rw [beq_eq_false_iff_ne]; omega
    have hb2 : (xs.length == ys.length) = false := by rw [beq_eq_false_iff_ne]; exact hl
    have HF := Go.Lib.hid (show decide (xs = ys) = false from decide_eq_false (fun e => hl (by rw [e])))
    go_enter Try.func46, Try.ntmps46
    go_wp2
    go_returns
    exact ⟨by rw [HF.out]; rfl, Ext.refl _ _⟩
end Go.Proofs.Ytekbonciafbjiaa
