/- The laws of layer 17, walked. -/
import Derived.Test.YtpinccdapjfkpaaPatience
import Derived.ProofKit
import Derived.Deep.SlicePairs
namespace Go.Proofs.Ytpinccdapjfkpaa
open Go.RowKit Go.ChangeShapes Go.WideShapes
set_option linter.unusedSimpArgs false
set_option linter.unusedVariables false

theorem law17_lives (w : World) : Calls Try.prog 25 #[] w fun e w' => e = .returned (.bool true) ∧ Ext Non w w' := by
  have f1 : clipI 13 = 13 := by decide
  have f2 : clipI 12 = 12 := by decide
  have f3 : waitI 0 = 8 := by decide
  have f4 : startE false 0 5 (waitI 0) = 13 := by decide
  go_enter Try.func25, Try.ntmps25
  go_wp2_with fail
  refine (pat_New _).mono ?_
  rintro e w1 ⟨rfl, x1, T1⟩
  have b1 : w.heap.size < w1.heap.size := T1.lt
  have T1 := Go.Lib.hid T1
  go_wp2_with fail
  refine (pat_Start w.heap.size 0 false 0 5 w1 T1.out (by decide)).mono ?_
  rintro e w2 ⟨rfl, x2, T2⟩
  rw [f4] at T2
  have T2 := Go.Lib.hid T2
  go_wp2_with (first | (go_at_call 30; refine (pat_Due _ _ _ _ _ _ (by first | exact T2.out | exact T2.out.drewN _)).mono ?_; rintro e w' ⟨rfl, k, rfl⟩) | (go_at_call 32; refine (pat_Running _ _ _ _ _ (by first | exact T2.out | exact T2.out.drewN _)).mono ?_; rintro e w' ⟨rfl, rfl⟩) | (go_at_call 28; refine (pat_Wait _ 0 _ _ _ (by first | exact T2.out | exact T2.out.drewN _) (by decide)).mono ?_; rintro e w' ⟨rfl, rfl⟩))
  go_ret
  refine ⟨rfl, Ext.drewN (x1.step x2 ?_) _⟩
  intro i hi h; unfold One at h; omega

def stepF (K : Nat) (f : Nat) : Nat := if K = 2 then failF f else if K = 3 then 0 else f
def stepR (K : Nat) (r : Bool) : Bool := if K = 0 then true else if K = 1 then false else r
def stepE (K : Nat) (r : Bool) (e now : Int) (f : Nat) : Int := if K = 0 then startE r e now (waitI f) else e
theorem stepF_le (K f : Nat) (h : f ≤ 6) : stepF K f ≤ 6 := by
  unfold stepF
  have := fail_le f h
  split
  · exact this
  · split <;> omega

/-- The kind of a step, modulo 5, as the walk spells it. -/
theorem kind5 (k : Int) : ∃ K : Nat, K < 5 ∧ wrap64 ((IntKind.u64.wrap k).tmod 5) = (K : Int) := by
  have h0 : 0 ≤ IntKind.u64.wrap k := by rw [IntKind.wrap_u64]; omega
  refine ⟨((IntKind.u64.wrap k) % 5).toNat, by omega, ?_⟩
  rw [Int.tmod_eq_emod_of_nonneg h0]
  unfold wrap64
  omega

theorem law17_call (b f : Nat) (r : Bool) (e k now : Int) (K : Nat) (hK5 : K < 5) (hK : wrap64 ((IntKind.u64.wrap k).tmod 5) = K) (w : World) (h : T3 w b f r e) (hf : f ≤ 6) : Calls Try.prog 36 #[.pointer (some ⟨b, 0, none⟩), .agg #[.int .i64 k, .int .i64 now]] w fun e' w' =>
    e' = .returned (.tuple #[]) ∧ Ext (One b) w w' ∧ T3 w' b (stepF K f : Nat) (stepR K r) (stepE K r e now f) := by
  have hb := h.lt
  have x0 : Ext (One b) w (w.alloc (.cells #[.int .i64 k, .int .i64 now] 50)) := (Ext.refl _ _).alloc _
  have T : Hid (T3 (w.alloc (.cells #[.int .i64 k, .int .i64 now] 50)) b f r e) := Go.Lib.hid (h.ext ((Ext.refl Non _).alloc _) id)
  have hh : K = 0 ∨ K = 1 ∨ K = 2 ∨ K = 3 ∨ K = 4 := by omega
  clear h hK5
  rcases hh with rfl | rfl | rfl | rfl | rfl
  · go_enter Try.func36, Try.ntmps36
    go_wp2_with fail
    refine (pat_Start b f r e now _ T.out hf).mono ?_
    rintro e1 w1 ⟨rfl, x1, T1⟩
    have T1 := Go.Lib.hid T1
    go_wp2
    go_returns
    exact ⟨rfl, x0.trans x1, T1.out⟩
  · go_enter Try.func36, Try.ntmps36
    go_wp2_with fail
    refine (pat_Stop b f r e _ T.out).mono ?_
    rintro e1 w1 ⟨rfl, x1, T1⟩
    have T1 := Go.Lib.hid T1
    go_wp2
    go_returns
    exact ⟨rfl, x0.trans x1, T1.out⟩
  · go_enter Try.func36, Try.ntmps36
    go_wp2_with fail
    refine (pat_Fail b f r e _ T.out hf).mono ?_
    rintro e1 w1 ⟨rfl, x1, T1⟩
    have T1 := Go.Lib.hid T1
    go_wp2
    go_returns
    exact ⟨rfl, x0.trans x1, T1.out⟩
  · go_enter Try.func36, Try.ntmps36
    go_wp2_with fail
    refine (pat_Calm b f r e _ T.out).mono ?_
    rintro e1 w1 ⟨rfl, x1, T1⟩
    have T1 := Go.Lib.hid T1
    go_wp2
    go_returns
    exact ⟨rfl, x0.trans x1, T1.out⟩
  · go_enter Try.func36, Try.ntmps36
    go_wp2_with fail
    go_returns
    exact ⟨rfl, x0, T.out⟩
/-- The step on a timer that isn't there. -/
theorem law17_call_nil (k now : Int) (K : Nat) (hK5 : K < 5) (hK : wrap64 ((IntKind.u64.wrap k).tmod 5) = K) (w : World) : Calls Try.prog 36 #[.pointer none, .agg #[.int .i64 k, .int .i64 now]] w fun e' w' =>
    e' = .returned (.tuple #[]) ∧ Ext Non w w' := by
  have hh : K = 0 ∨ K = 1 ∨ K = 2 ∨ K = 3 ∨ K = 4 := by omega
  clear hK5
  rcases hh with rfl | rfl | rfl | rfl | rfl
  all_goals
    go_enter Try.func36, Try.ntmps36
    go_wp2
    go_returns
    exact ⟨rfl, by repeat (first | exact Ext.refl _ _ | refine Ext.drew ?_ | refine Ext.alloc ?_ _)⟩

/-! ### A row of steps that came in -/
/-- The cells of a row of steps. -/
structure OpsAt (w : World) (b o len : Nat) (k n : Nat → Int) : Prop where
  kind : ∀ i, i < len → w.cell? ⟨b, o + i * 2, none⟩ = some (.int .i64 (k i))
  now : ∀ i, i < len → w.cell? ⟨b, o + i * 2 + 1, none⟩ = some (.int .i64 (n i))
theorem open_ops {H : Type} {enc : TypeId × Value → H} {W : World} {v : Value} {d : DataW H} {p : List MemPlace} {base : Nat}
    (h : DataW.Trod enc Try.prog W 0 (fun _ => true) true 45 v d p) (ok : Value.okWide Try.prog W .any base 45 v) :
    (∃ a cap, v = .slice a 0 cap) ∨ ∃ b o len cap k n, v = .slice (some ⟨b, o, none⟩) len cap ∧ 0 < len ∧ len ≤ maxLen ∧ OpsAt W b o len k n ∧ b < W.heap.size := by
  obtain ⟨a, len, cap, rfl⟩ := okWide_slice Try.underlying45 ok
  obtain ⟨fuel, hf⟩ := h
  rcases Go.Deep.open_slice_pairs Try.underlying45 Try.underlying50 (by kernel_rfl) rfl rfl (by kernel_rfl) (by kernel_rfl) hf with ⟨hcs, _⟩ | ⟨x, len', cap', m, fu, V0, V1, D0, D1, P0, P1, hcs, _, hl, hm, hmm, _, hx⟩
  · simp [Value.cells] at hcs
    obtain ⟨rfl, rfl, rfl⟩ := hcs
    exact .inl ⟨_, _, rfl⟩
  · simp [Value.cells] at hcs
    obtain ⟨rfl, rfl, rfl⟩ := hcs
    have hmm' : m = cap := by simpa using hmm
    subst hmm'
    by_cases h0 : len = 0
    · subst h0
      exact .inl ⟨_, _, rfl⟩
    · right
      have c0 := (hx 0 (by omega)).1
      obtain ⟨b, o, sp⟩ := x
      have hsp : sp = none := by simpa [Addr.add] using World.cell?_spot c0
      subst hsp
      have gk : ∀ i, ∃ q : Int, i < len → V0 i = .int .i64 q := by
        intro i
        by_cases hi : i < len
        · obtain ⟨q, e1, _, _⟩ := DataW.trod_int Try.underlying3 (hx i (by omega)).2.2.1
          exact ⟨q, fun _ => by simpa using e1⟩
        · exact ⟨0, fun h => absurd h hi⟩
      have gn : ∀ i, ∃ q : Int, i < len → V1 i = .int .i64 q := by
        intro i
        by_cases hi : i < len
        · obtain ⟨q, e1, _, _⟩ := DataW.trod_int Try.underlying3 (hx i (by omega)).2.2.2
          exact ⟨q, fun _ => by simpa using e1⟩
        · exact ⟨0, fun h => absurd h hi⟩
      refine ⟨b, o, len, m, fun i => Classical.choose (gk i), fun i => Classical.choose (gn i), rfl, by omega, by omega, ⟨fun i hi => ?_, fun i hi => ?_⟩, by simpa [Addr.add] using lt_of_cell c0⟩
      · have := (hx i (by omega)).1
        rw [Classical.choose_spec (gk i) hi, add_plain] at this
        exact this
      · have := (hx i (by omega)).2.1
        rw [Classical.choose_spec (gn i) hi, add_plain] at this
        exact this

theorem waits_empty (a : Option Addr) (cap : Nat) (w : World) : Calls Try.prog 10 #[.slice a 0 cap] w fun e w' => e = .returned (.bool true) ∧ Ext Non w w' := by
  go_enter Try.func10, Try.ntmps10
  go_wp2_with fail
  refine (law17_lives _).mono ?_
  rintro e w0 ⟨rfl, x0⟩
  go_wp2_with fail
  refine (pat_New _).mono ?_
  rintro e w1 ⟨rfl, x1, T1⟩
  go_wp2_with fail
  go_rounds 1
  go_returns
  exact ⟨rfl, x0.trans x1⟩

set_option maxHeartbeats 1000000 in
theorem waits_row (b o len cap : Nat) (k n : Nat → Int) (hm : len ≤ maxLen) (w : World) (hb : b < w.heap.size) (H : OpsAt w b o len k n) : Calls Try.prog 10 #[.slice (some ⟨b, o, none⟩) len cap] w fun e w' => e = .returned (.bool true) ∧ Ext Non w w' := by
  unfold maxLen at hm
  have HH := Go.Lib.hid H; clear H
  go_enter Try.func10, Try.ntmps10
  go_wp2_with fail
  refine (law17_lives _).mono ?_
  rintro e w0 ⟨rfl, x0⟩
  go_wp2_with fail
  refine (pat_New _).mono ?_
  rintro e w1 ⟨rfl, x1, T1⟩
  have x01 := x0.trans x1
  have hs := x0.size
  obtain ⟨B, hB⟩ : ∃ B, B = w0.heap.size := ⟨_, rfl⟩
  rw [← hB] at T1 hs ⊢
  clear x0 x1 hB
  go_wp2_with fail
  go_loopw [4] (fun iv wr => ∃ (i f : Nat) (r : Bool) (e : Int), i ≤ len ∧ iv = .int .i64 i ∧ f ≤ 6 ∧ Ext Non w wr ∧ T3 wr B f r e) (fun iv _ => len - (intOf iv).toNat)
  case atStart => exact ⟨0, 0, false, 0, Nat.zero_le _, rfl, by decide, x01, T1⟩
  case round =>
    obtain ⟨i, f, r, e, hi, rfl, hf, x, T⟩ := hrel
    clear T1 x01
    have TT := Go.Lib.hid T; clear T
    by_cases hlt : i < len
    · have ck : wr.cell? ⟨b, o + i * 2, none⟩ = some (.int .i64 (k i)) := (x.cell (by exact hb) id).trans (HH.out.kind i hlt)
      have cn : wr.cell? ⟨b, o + i * 2 + 1, none⟩ = some (.int .i64 (n i)) := (x.cell (by exact hb) id).trans (HH.out.now i hlt)
      obtain ⟨K, hK5, hK⟩ := kind5 (k i)
      have wo := wait_bd f hf
      have hh : K = 0 ∨ K = 1 ∨ K = 2 ∨ K = 3 ∨ K = 4 := by omega
      rcases hh with rfl | rfl | rfl | rfl | rfl
      · have hf' : f ≤ 6 := hf
        go_wp2_with (first | (go_at_call 28; refine (pat_Wait _ _ _ _ _ TT.out hf).mono ?_; rintro e w' ⟨rfl, rfl⟩))
        refine (law17_call B f r e _ _ 0 hK5 hK _ TT.out hf).mono ?_
        rintro e2' w2 ⟨rfl, x2, T2⟩
        have TT2 : Hid (T3 w2 B ((f : Nat) : Int) _ _) := Go.Lib.hid T2; clear T2
        have ck2 : w2.cell? ⟨b, o + i * 2, none⟩ = some (.int .i64 (k i)) := (x2.cell (lt_of_cell ck) (by unfold One; simp; omega)).trans ck
        clear ck cn
        go_wp2_with (first | (go_at_call 28; refine (pat_Wait _ _ _ _ _ TT2.out hf').mono ?_; rintro e w' ⟨rfl, rfl⟩))
        go_roundw
        case rel => exact ⟨i + 1, f, _, _, hlt, by go_num, hf', x.step x2 (fun q hq hS => by unfold One at hS; omega), TT2.out⟩
        case measure => simp [intOf]; omega
      · have hf' : f ≤ 6 := hf
        go_wp2_with (first | (go_at_call 28; refine (pat_Wait _ _ _ _ _ TT.out hf).mono ?_; rintro e w' ⟨rfl, rfl⟩))
        refine (law17_call B f r e _ _ 1 hK5 hK _ TT.out hf).mono ?_
        rintro e2' w2 ⟨rfl, x2, T2⟩
        have TT2 : Hid (T3 w2 B ((f : Nat) : Int) _ _) := Go.Lib.hid T2; clear T2
        have ck2 : w2.cell? ⟨b, o + i * 2, none⟩ = some (.int .i64 (k i)) := (x2.cell (lt_of_cell ck) (by unfold One; simp; omega)).trans ck
        clear ck cn
        go_wp2_with (first | (go_at_call 28; refine (pat_Wait _ _ _ _ _ TT2.out hf').mono ?_; rintro e w' ⟨rfl, rfl⟩))
        go_roundw
        case rel => exact ⟨i + 1, f, _, _, hlt, by go_num, hf', x.step x2 (fun q hq hS => by unfold One at hS; omega), TT2.out⟩
        case measure => simp [intOf]; omega
      · have hf' : failF f ≤ 6 := fail_le f hf
        have wf := wait_fail f hf
        by_cases h512 : 512 < 2 * waitI f
        · have e2 : waitI (failF f) = 512 := by rw [wf]; omega
          clear wf
          go_wp2_with (first | (go_at_call 28; refine (pat_Wait _ _ _ _ _ TT.out hf).mono ?_; rintro e w' ⟨rfl, rfl⟩))
          refine (law17_call B f r e _ _ 2 hK5 hK _ TT.out hf).mono ?_
          rintro e2' w2 ⟨rfl, x2, T2⟩
          have TT2 : Hid (T3 w2 B ((failF f : Nat) : Int) _ _) := Go.Lib.hid T2; clear T2
          have ck2 : w2.cell? ⟨b, o + i * 2, none⟩ = some (.int .i64 (k i)) := (x2.cell (lt_of_cell ck) (by unfold One; simp; omega)).trans ck
          clear ck cn
          go_wp2_with (first | (go_at_call 28; refine (pat_Wait _ _ _ _ _ TT2.out hf').mono ?_; rintro e w' ⟨rfl, rfl⟩))
          go_roundw
          case rel => exact ⟨i + 1, failF f, _, _, hlt, by go_num, hf', x.step x2 (fun q hq hS => by unfold One at hS; omega), TT2.out⟩
          case measure => simp [intOf]; omega
        · have e2 : waitI (failF f) = 2 * waitI f := by rw [wf]; omega
          clear wf
          go_wp2_with (first | (go_at_call 28; refine (pat_Wait _ _ _ _ _ TT.out hf).mono ?_; rintro e w' ⟨rfl, rfl⟩))
          refine (law17_call B f r e _ _ 2 hK5 hK _ TT.out hf).mono ?_
          rintro e2' w2 ⟨rfl, x2, T2⟩
          have TT2 : Hid (T3 w2 B ((failF f : Nat) : Int) _ _) := Go.Lib.hid T2; clear T2
          have ck2 : w2.cell? ⟨b, o + i * 2, none⟩ = some (.int .i64 (k i)) := (x2.cell (lt_of_cell ck) (by unfold One; simp; omega)).trans ck
          clear ck cn
          go_wp2_with (first | (go_at_call 28; refine (pat_Wait _ _ _ _ _ TT2.out hf').mono ?_; rintro e w' ⟨rfl, rfl⟩))
          go_roundw
          case rel => exact ⟨i + 1, failF f, _, _, hlt, by go_num, hf', x.step x2 (fun q hq hS => by unfold One at hS; omega), TT2.out⟩
          case measure => simp [intOf]; omega
      · have hf' : 0 ≤ 6 := by decide
        have e2 : waitI 0 = 8 := by decide
        go_wp2_with (first | (go_at_call 28; refine (pat_Wait _ _ _ _ _ TT.out hf).mono ?_; rintro e w' ⟨rfl, rfl⟩))
        refine (law17_call B f r e _ _ 3 hK5 hK _ TT.out hf).mono ?_
        rintro e2' w2 ⟨rfl, x2, T2⟩
        have TT2 : Hid (T3 w2 B ((0 : Nat) : Int) _ _) := Go.Lib.hid T2; clear T2
        have ck2 : w2.cell? ⟨b, o + i * 2, none⟩ = some (.int .i64 (k i)) := (x2.cell (lt_of_cell ck) (by unfold One; simp; omega)).trans ck
        clear ck cn
        go_wp2_with (first | (go_at_call 28; refine (pat_Wait _ _ _ _ _ TT2.out hf').mono ?_; rintro e w' ⟨rfl, rfl⟩))
        go_roundw
        case rel => exact ⟨i + 1, 0, _, _, hlt, by go_num, hf', x.step x2 (fun q hq hS => by unfold One at hS; omega), TT2.out⟩
        case measure => simp [intOf]; omega
      · have hf' : f ≤ 6 := hf
        go_wp2_with (first | (go_at_call 28; refine (pat_Wait _ _ _ _ _ TT.out hf).mono ?_; rintro e w' ⟨rfl, rfl⟩))
        refine (law17_call B f r e _ _ 4 hK5 hK _ TT.out hf).mono ?_
        rintro e2' w2 ⟨rfl, x2, T2⟩
        have TT2 : Hid (T3 w2 B ((f : Nat) : Int) _ _) := Go.Lib.hid T2; clear T2
        have ck2 : w2.cell? ⟨b, o + i * 2, none⟩ = some (.int .i64 (k i)) := (x2.cell (lt_of_cell ck) (by unfold One; simp; omega)).trans ck
        clear ck cn
        go_wp2_with (first | (go_at_call 28; refine (pat_Wait _ _ _ _ _ TT2.out hf').mono ?_; rintro e w' ⟨rfl, rfl⟩))
        go_roundw
        case rel => exact ⟨i + 1, f, _, _, hlt, by go_num, hf', x.step x2 (fun q hq hS => by unfold One at hS; omega), TT2.out⟩
        case measure => simp [intOf]; omega
    · go_wp2
      go_returns
      exact ⟨rfl, x⟩

theorem plays_empty (a : Option Addr) (cap : Nat) (w : World) : Calls Try.prog 9 #[.slice a 0 cap] w fun e w' => e = .returned (.bool true) ∧ Ext Non w w' := by
  go_enter Try.func9, Try.ntmps9
  go_wp2_with fail
  refine (law17_lives _).mono ?_
  rintro e w0 ⟨rfl, x0⟩
  go_wp2_with fail
  refine (pat_New _).mono ?_
  rintro e w1 ⟨rfl, x1, T1⟩
  go_wp2_with fail
  refine (ref17_New _).mono ?_
  rintro e w2 ⟨rfl, x2⟩
  go_wp2_with fail
  go_rounds 1
  go_returns
  exact ⟨rfl, ((x0.trans x1).trans x2).alloc _⟩

set_option maxHeartbeats 2000000 in
theorem plays_row (b o len cap : Nat) (k n : Nat → Int) (hm : len ≤ maxLen) (w : World) (hb : b < w.heap.size) (H : OpsAt w b o len k n) : Calls Try.prog 9 #[.slice (some ⟨b, o, none⟩) len cap] w fun e w' => e = .returned (.bool true) ∧ Ext Non w w' := by
  unfold maxLen at hm
  have HH := Go.Lib.hid H; clear H
  go_enter Try.func9, Try.ntmps9
  go_wp2_with fail
  refine (law17_lives _).mono ?_
  rintro e w0 ⟨rfl, x0⟩
  go_wp2_with fail
  refine (pat_New _).mono ?_
  rintro e w1 ⟨rfl, x1, T1⟩
  have T1 := Go.Lib.hid T1
  go_wp2_with fail
  refine (ref17_New _).mono ?_
  rintro e w1' ⟨rfl, x1'⟩
  go_wp2_with fail
  have T1' := (T1.out.ext x1' id).ext (S := Non) ((Ext.refl _ _).alloc (.cells #[.int .i64 8, .bool false, .int .i64 0] 47)) id
  have M1 : T3 (w1'.alloc (.cells #[.int .i64 8, .bool false, .int .i64 0] 47)) w1'.heap.size 8 false 0 := by constructor <;> simp [go_sem]
  have x01 : Ext Non w (w1'.alloc (.cells #[.int .i64 8, .bool false, .int .i64 0] 47)) := ((x0.trans x1).trans x1').alloc _
  have hs := x0.size
  have hs1 := T1.out.lt
  have hs2 := x1'.size
  clear T1
  obtain ⟨B, hB⟩ : ∃ B, B = w0.heap.size := ⟨_, rfl⟩
  obtain ⟨C, hC⟩ : ∃ C, C = w1'.heap.size := ⟨_, rfl⟩
  rw [← hB] at T1' hs hs1
  rw [← hC] at M1 hs2
  rw [← hB, ← hC]
  have hBC : B < C := by omega
  clear x0 x1 x1' hB hC hs1 hs2
  go_loopw [5] (fun iv wr => ∃ (i f : Nat) (r : Bool) (e : Int), i ≤ len ∧ iv = .int .i64 i ∧ f ≤ 6 ∧ Ext Non w wr ∧ T3 wr B f r e ∧ T3 wr C (waitI f) r e) (fun iv _ => len - (intOf iv).toNat)
  case atStart => exact ⟨0, 0, false, 0, Nat.zero_le _, rfl, by decide, x01, T1', M1⟩
  case round =>
    obtain ⟨i, f, r, e, hi, rfl, hf, x, T, M⟩ := hrel
    clear T1' M1 x01
    have lB := T.lt
    have lC := M.lt
    have TT := Go.Lib.hid T; clear T
    have MM := Go.Lib.hid M; clear M
    by_cases hlt : i < len
    · have ck : wr.cell? ⟨b, o + i * 2, none⟩ = some (.int .i64 (k i)) := (x.cell (by exact hb) id).trans (HH.out.kind i hlt)
      have cn : wr.cell? ⟨b, o + i * 2 + 1, none⟩ = some (.int .i64 (n i)) := (x.cell (by exact hb) id).trans (HH.out.now i hlt)
      obtain ⟨K, hK5, hK⟩ := kind5 (k i)
      have wo := wait_bd f hf
      have hh : K = 0 ∨ K = 1 ∨ K = 2 ∨ K = 3 ∨ K = 4 := by omega
      rcases hh with rfl | rfl | rfl | rfl | rfl
      · have hf' : f ≤ 6 := hf
        go_wp2_with fail
        refine (law17_call B f r e _ _ 0 hK5 hK _ (TT.out.ext (S := Non) ((Ext.refl _ _).alloc _) id) hf).mono ?_
        rintro e2' w2 ⟨rfl, x2, T2⟩
        have TT2 : Hid (T3 w2 B ((f : Nat) : Int) (true) (startE r e (n i) (waitI f))) := Go.Lib.hid T2; clear T2
        have sz : wr.heap.size + 1 ≤ w2.heap.size := by have := x2.size; simpa using this
        have o0 : w2.cell? ⟨wr.heap.size, 0, none⟩ = some (.int .i64 (k i)) := (x2.cell (by simp) (by unfold One; simp; omega)).trans (by simp [go_sem])
        have o1 : w2.cell? ⟨wr.heap.size, 1, none⟩ = some (.int .i64 (n i)) := (x2.cell (by simp) (by unfold One; simp; omega)).trans (by simp [go_sem])
        have MM2 : Hid (T3 w2 C (waitI f) r e) := Go.Lib.hid ((MM.out.ext (S := Non) ((Ext.refl _ _).alloc (.cells #[.int .i64 (k i), .int .i64 (n i)] 50)) id).ext x2 (by unfold One; omega))
        clear ck cn
        go_wp2_with fail
        refine (ref17_Start C (waitI f) r e (n i) _ MM2.out wo.1 wo.2).mono ?_
        rintro e3' w3 ⟨rfl, x3, M3⟩
        have TT3 : Hid (T3 w3 B ((f : Nat) : Int) (true) (startE r e (n i) (waitI f))) := Go.Lib.hid (TT2.out.ext x3 (by unfold One; omega))
        have o0' : w3.cell? ⟨wr.heap.size, 0, none⟩ = some (.int .i64 (k i)) := (x3.cell (by simp; omega) (by unfold One; simp; omega)).trans o0
        have o1' : w3.cell? ⟨wr.heap.size, 1, none⟩ = some (.int .i64 (n i)) := (x3.cell (by simp; omega) (by unfold One; simp; omega)).trans o1
        have x23 : Ext (fun q => q = B ∨ q = C) wr w3 := ((((Ext.refl _ wr).alloc (.cells #[.int .i64 (k i), .int .i64 (n i)] 50)).trans (x2.mono fun q _ h => .inl h))).trans (x3.mono fun q _ h => .inr h)
        have M3c := M3
        obtain ⟨m0, m1, m2, -, -, -⟩ := M3c
        have MM3 : Hid (T3 w3 C (waitI (f)) (true) (startE r e (n i) (waitI f))) := Go.Lib.hid M3; clear M3 o0 o1 MM2 TT2
        go_wp2_with fail
        go_quiet (first | (go_at_call 30; exact Calls.quiet_of (pat_Due _ _ _ _ _ _ (TT3.out.drewN _))) | (go_at_call 41; exact Calls.quiet_of (ref17_Due _ _ _ _ _ _ (MM3.out.drewN _))) | (go_at_call 32; exact quiet_eq (pat_Running _ _ _ _ _ (TT3.out.drewN _))) | (go_at_call 28; exact quiet_eq (pat_Wait _ _ _ _ _ (TT3.out.drewN _) hf')))
        go_wp2
        go_roundw
        case rel => exact ⟨i + 1, f, _, _, hlt, by go_num, hf', Ext.drewN (x.step x23 (fun q hq hS => by omega)) _, TT3.out.drewN _, MM3.out.drewN _⟩
        case measure => simp [intOf]; omega
      · have hf' : f ≤ 6 := hf
        go_wp2_with fail
        refine (law17_call B f r e _ _ 1 hK5 hK _ (TT.out.ext (S := Non) ((Ext.refl _ _).alloc _) id) hf).mono ?_
        rintro e2' w2 ⟨rfl, x2, T2⟩
        have TT2 : Hid (T3 w2 B ((f : Nat) : Int) (false) (e)) := Go.Lib.hid T2; clear T2
        have sz : wr.heap.size + 1 ≤ w2.heap.size := by have := x2.size; simpa using this
        have o0 : w2.cell? ⟨wr.heap.size, 0, none⟩ = some (.int .i64 (k i)) := (x2.cell (by simp) (by unfold One; simp; omega)).trans (by simp [go_sem])
        have o1 : w2.cell? ⟨wr.heap.size, 1, none⟩ = some (.int .i64 (n i)) := (x2.cell (by simp) (by unfold One; simp; omega)).trans (by simp [go_sem])
        have MM2 : Hid (T3 w2 C (waitI f) r e) := Go.Lib.hid ((MM.out.ext (S := Non) ((Ext.refl _ _).alloc (.cells #[.int .i64 (k i), .int .i64 (n i)] 50)) id).ext x2 (by unfold One; omega))
        clear ck cn
        go_wp2_with fail
        refine (ref17_Stop C (waitI f) r e _ MM2.out).mono ?_
        rintro e3' w3 ⟨rfl, x3, M3⟩
        have TT3 : Hid (T3 w3 B ((f : Nat) : Int) (false) (e)) := Go.Lib.hid (TT2.out.ext x3 (by unfold One; omega))
        have o0' : w3.cell? ⟨wr.heap.size, 0, none⟩ = some (.int .i64 (k i)) := (x3.cell (by simp; omega) (by unfold One; simp; omega)).trans o0
        have o1' : w3.cell? ⟨wr.heap.size, 1, none⟩ = some (.int .i64 (n i)) := (x3.cell (by simp; omega) (by unfold One; simp; omega)).trans o1
        have x23 : Ext (fun q => q = B ∨ q = C) wr w3 := ((((Ext.refl _ wr).alloc (.cells #[.int .i64 (k i), .int .i64 (n i)] 50)).trans (x2.mono fun q _ h => .inl h))).trans (x3.mono fun q _ h => .inr h)
        have M3c := M3
        obtain ⟨m0, m1, m2, -, -, -⟩ := M3c
        have MM3 : Hid (T3 w3 C (waitI (f)) (false) (e)) := Go.Lib.hid M3; clear M3 o0 o1 MM2 TT2
        go_wp2_with fail
        go_quiet (first | (go_at_call 30; exact Calls.quiet_of (pat_Due _ _ _ _ _ _ (TT3.out.drewN _))) | (go_at_call 41; exact Calls.quiet_of (ref17_Due _ _ _ _ _ _ (MM3.out.drewN _))) | (go_at_call 32; exact quiet_eq (pat_Running _ _ _ _ _ (TT3.out.drewN _))) | (go_at_call 28; exact quiet_eq (pat_Wait _ _ _ _ _ (TT3.out.drewN _) hf')))
        go_wp2
        go_roundw
        case rel => exact ⟨i + 1, f, _, _, hlt, by go_num, hf', Ext.drewN (x.step x23 (fun q hq hS => by omega)) _, TT3.out.drewN _, MM3.out.drewN _⟩
        case measure => simp [intOf]; omega
      · have hf' : failF f ≤ 6 := fail_le f hf
        have e2 : dblI (waitI f) = waitI (failF f) := by rw [wait_fail f hf]; rfl
        have e2 := Go.Lib.hid e2
        go_wp2_with fail
        refine (law17_call B f r e _ _ 2 hK5 hK _ (TT.out.ext (S := Non) ((Ext.refl _ _).alloc _) id) hf).mono ?_
        rintro e2' w2 ⟨rfl, x2, T2⟩
        have TT2 : Hid (T3 w2 B ((failF f : Nat) : Int) (r) (e)) := Go.Lib.hid T2; clear T2
        have sz : wr.heap.size + 1 ≤ w2.heap.size := by have := x2.size; simpa using this
        have o0 : w2.cell? ⟨wr.heap.size, 0, none⟩ = some (.int .i64 (k i)) := (x2.cell (by simp) (by unfold One; simp; omega)).trans (by simp [go_sem])
        have o1 : w2.cell? ⟨wr.heap.size, 1, none⟩ = some (.int .i64 (n i)) := (x2.cell (by simp) (by unfold One; simp; omega)).trans (by simp [go_sem])
        have MM2 : Hid (T3 w2 C (waitI f) r e) := Go.Lib.hid ((MM.out.ext (S := Non) ((Ext.refl _ _).alloc (.cells #[.int .i64 (k i), .int .i64 (n i)] 50)) id).ext x2 (by unfold One; omega))
        clear ck cn
        go_wp2_with fail
        refine (ref17_Fail C (waitI f) r e _ MM2.out wo.1 wo.2).mono ?_
        rintro e3' w3 ⟨rfl, x3, M3⟩
        have TT3 : Hid (T3 w3 B ((failF f : Nat) : Int) (r) (e)) := Go.Lib.hid (TT2.out.ext x3 (by unfold One; omega))
        have o0' : w3.cell? ⟨wr.heap.size, 0, none⟩ = some (.int .i64 (k i)) := (x3.cell (by simp; omega) (by unfold One; simp; omega)).trans o0
        have o1' : w3.cell? ⟨wr.heap.size, 1, none⟩ = some (.int .i64 (n i)) := (x3.cell (by simp; omega) (by unfold One; simp; omega)).trans o1
        have x23 : Ext (fun q => q = B ∨ q = C) wr w3 := ((((Ext.refl _ wr).alloc (.cells #[.int .i64 (k i), .int .i64 (n i)] 50)).trans (x2.mono fun q _ h => .inl h))).trans (x3.mono fun q _ h => .inr h)
        rw [e2.out] at M3
        have M3c := M3
        obtain ⟨m0, m1, m2, -, -, -⟩ := M3c
        have MM3 : Hid (T3 w3 C (waitI (failF f)) (r) (e)) := Go.Lib.hid M3; clear M3 o0 o1 MM2 TT2
        go_wp2_with fail
        go_quiet (first | (go_at_call 30; exact Calls.quiet_of (pat_Due _ _ _ _ _ _ (TT3.out.drewN _))) | (go_at_call 41; exact Calls.quiet_of (ref17_Due _ _ _ _ _ _ (MM3.out.drewN _))) | (go_at_call 32; exact quiet_eq (pat_Running _ _ _ _ _ (TT3.out.drewN _))) | (go_at_call 28; exact quiet_eq (pat_Wait _ _ _ _ _ (TT3.out.drewN _) hf')))
        go_wp2
        go_roundw
        case rel => exact ⟨i + 1, failF f, _, _, hlt, by go_num, hf', Ext.drewN (x.step x23 (fun q hq hS => by omega)) _, TT3.out.drewN _, MM3.out.drewN _⟩
        case measure => simp [intOf]; omega
      · have hf' : 0 ≤ 6 := by decide
        have e2 : waitI 0 = 8 := by decide
        go_wp2_with fail
        refine (law17_call B f r e _ _ 3 hK5 hK _ (TT.out.ext (S := Non) ((Ext.refl _ _).alloc _) id) hf).mono ?_
        rintro e2' w2 ⟨rfl, x2, T2⟩
        have TT2 : Hid (T3 w2 B ((0 : Nat) : Int) (r) (e)) := Go.Lib.hid T2; clear T2
        have sz : wr.heap.size + 1 ≤ w2.heap.size := by have := x2.size; simpa using this
        have o0 : w2.cell? ⟨wr.heap.size, 0, none⟩ = some (.int .i64 (k i)) := (x2.cell (by simp) (by unfold One; simp; omega)).trans (by simp [go_sem])
        have o1 : w2.cell? ⟨wr.heap.size, 1, none⟩ = some (.int .i64 (n i)) := (x2.cell (by simp) (by unfold One; simp; omega)).trans (by simp [go_sem])
        have MM2 : Hid (T3 w2 C (waitI f) r e) := Go.Lib.hid ((MM.out.ext (S := Non) ((Ext.refl _ _).alloc (.cells #[.int .i64 (k i), .int .i64 (n i)] 50)) id).ext x2 (by unfold One; omega))
        clear ck cn
        go_wp2_with fail
        refine (ref17_Calm C (waitI f) r e _ MM2.out).mono ?_
        rintro e3' w3 ⟨rfl, x3, M3⟩
        have TT3 : Hid (T3 w3 B ((0 : Nat) : Int) (r) (e)) := Go.Lib.hid (TT2.out.ext x3 (by unfold One; omega))
        have o0' : w3.cell? ⟨wr.heap.size, 0, none⟩ = some (.int .i64 (k i)) := (x3.cell (by simp; omega) (by unfold One; simp; omega)).trans o0
        have o1' : w3.cell? ⟨wr.heap.size, 1, none⟩ = some (.int .i64 (n i)) := (x3.cell (by simp; omega) (by unfold One; simp; omega)).trans o1
        have x23 : Ext (fun q => q = B ∨ q = C) wr w3 := ((((Ext.refl _ wr).alloc (.cells #[.int .i64 (k i), .int .i64 (n i)] 50)).trans (x2.mono fun q _ h => .inl h))).trans (x3.mono fun q _ h => .inr h)
        have M3c := M3
        obtain ⟨m0, m1, m2, -, -, -⟩ := M3c
        have MM3 : Hid (T3 w3 C (waitI (0)) (r) (e)) := Go.Lib.hid M3; clear M3 o0 o1 MM2 TT2
        go_wp2_with fail
        go_quiet (first | (go_at_call 30; exact Calls.quiet_of (pat_Due _ _ _ _ _ _ (TT3.out.drewN _))) | (go_at_call 41; exact Calls.quiet_of (ref17_Due _ _ _ _ _ _ (MM3.out.drewN _))) | (go_at_call 32; exact quiet_eq (pat_Running _ _ _ _ _ (TT3.out.drewN _))) | (go_at_call 28; exact quiet_eq (pat_Wait _ _ _ _ _ (TT3.out.drewN _) hf')))
        go_wp2
        go_roundw
        case rel => exact ⟨i + 1, 0, _, _, hlt, by go_num, hf', Ext.drewN (x.step x23 (fun q hq hS => by omega)) _, TT3.out.drewN _, MM3.out.drewN _⟩
        case measure => simp [intOf]; omega
      · have hf' : f ≤ 6 := hf
        go_wp2_with fail
        refine (law17_call B f r e _ _ 4 hK5 hK _ (TT.out.ext (S := Non) ((Ext.refl _ _).alloc _) id) hf).mono ?_
        rintro e2' w2 ⟨rfl, x2, T2⟩
        have TT2 : Hid (T3 w2 B ((f : Nat) : Int) (r) (e)) := Go.Lib.hid T2; clear T2
        have sz : wr.heap.size + 1 ≤ w2.heap.size := by have := x2.size; simpa using this
        have o0 : w2.cell? ⟨wr.heap.size, 0, none⟩ = some (.int .i64 (k i)) := (x2.cell (by simp) (by unfold One; simp; omega)).trans (by simp [go_sem])
        have o1 : w2.cell? ⟨wr.heap.size, 1, none⟩ = some (.int .i64 (n i)) := (x2.cell (by simp) (by unfold One; simp; omega)).trans (by simp [go_sem])
        have MM2 : Hid (T3 w2 C (waitI f) r e) := Go.Lib.hid ((MM.out.ext (S := Non) ((Ext.refl _ _).alloc (.cells #[.int .i64 (k i), .int .i64 (n i)] 50)) id).ext x2 (by unfold One; omega))
        clear ck cn
        have x23 : Ext (fun q => q = B ∨ q = C) wr w2 := (((Ext.refl _ wr).alloc (.cells #[.int .i64 (k i), .int .i64 (n i)] 50)).trans (x2.mono fun q _ h => .inl h))
        have M3c := MM2.out
        obtain ⟨m0, m1, m2, -, -, -⟩ := M3c
        have TT3 := TT2
        have MM3 := MM2
        go_wp2_with fail
        go_quiet (first | (go_at_call 30; exact Calls.quiet_of (pat_Due _ _ _ _ _ _ (TT3.out.drewN _))) | (go_at_call 41; exact Calls.quiet_of (ref17_Due _ _ _ _ _ _ (MM3.out.drewN _))) | (go_at_call 32; exact quiet_eq (pat_Running _ _ _ _ _ (TT3.out.drewN _))) | (go_at_call 28; exact quiet_eq (pat_Wait _ _ _ _ _ (TT3.out.drewN _) hf')))
        go_wp2
        go_roundw
        case rel => exact ⟨i + 1, f, _, _, hlt, by go_num, hf', Ext.drewN (x.step x23 (fun q hq hS => by omega)) _, TT3.out.drewN _, MM3.out.drewN _⟩
        case measure => simp [intOf]; omega
    · go_wp2
      go_returns
      exact ⟨rfl, x⟩
end Go.Proofs.Ytpinccdapjfkpaa
