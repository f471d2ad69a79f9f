/- Joined texts: Ask. What each proves stands at its head; no conditions beside those in its theorems. -/
import Derived.Test.YtakbkpklfihfiaaPjAR
import Derived.Test.YtakbkpklfihfiaaPjAW
/- Contracts of the law of layer 11: a request of an Ask. -/
namespace Go.Proofs.Ytakbkpklfihfiaa
open Go.RowKit Go.Lib F64
set_option linter.unusedSimpArgs false
set_option linter.unusedVariables false
attribute [local go_sem] run_store_float
attribute [local go_sem low] EW.cellN EW.frozN alloc_cell_or alloc_froz_or EW.cellF EW.frozF EW.cell1 EW.froz1
attribute [local go_sem] relAt relUpon
theorem info_req6 : (Try.prog.info? 49).map (·.size) = some 6 := by kernel_rfl
set_option maxHeartbeats 1000000 in
set_option maxRecDepth 100000 in
theorem law11_Request (c s k : Int) (key : ByteArray) (b id : Int) (w : World) :
    Calls Try.prog 23 #[.agg #[.int .i64 c, .int .i64 s, .int .i64 k, .string key, .int .u64 b, .int .i64 id]] w fun e w' =>
    e = .returned (.agg #[.int .i64 c, .int .i64 s, .int .i64 k, .string key, .float .f64 b.toNat, .int .i64 id]) ∧ Ext Non w w' := by
  go_enter Try.func23, Try.ntmps23
  go_upto_region 1 with fail
  apply wp_region_rel_tail 15 (relR [Mo.is _, Mo.is _, Mo.is _, Mo.is _, Mo.is _, Mo.is _, Mo.is _, Mo.is _, Mo.is _, Mo.is _, Mo.is _, Mo.is _, Mo.is _, Mo.is _, Mo.is _]) (by kernel_rfl) (by kernel_rfl) (by kernel_rfl) (by kernel_rfl) (by kernel_rfl) (by decide) (by kernel_rfl) (relR_mono _) (StepD.all ?st1) ?q1
  case st1 =>
    refine ⟨?_, ?_, ?_, ?_, ?_, ?_, ?_, ?_, ?_, ?_, ?_, ?_, ?_, ?_, ?_, trivial⟩
    · intro a' w' hx hs hd
      obtain ⟨y, rfl⟩ := hx.ew
      have e1 : a'.tmps[1]?.getD undef = _ := hs 1 rfl
      simp only [List.getElem?_toArray, List.getElem?_cons_succ, List.getElem?_cons_zero, Option.getD_some, Array.getElem?_eq_some_iff] at e1
      refine .inl ⟨rfl, ?_⟩
      clear hs hd hx
      go_simp
      exact ⟨Ext.refl _ _, rfl⟩
    · intro a' w' hx hs hd
      obtain ⟨y, rfl⟩ := hx.ew
      have e3 : a'.tmps[3]?.getD undef = _ := hd 0 3 rfl rfl
      refine .inl ⟨rfl, ?_⟩
      clear hs hd hx
      go_simp
      exact ⟨Ext.refl _ _, rfl⟩
    · intro a' w' hx hs hd
      obtain ⟨y, rfl⟩ := hx.ew
      have e1 : a'.tmps[1]?.getD undef = _ := hs 1 rfl
      simp only [List.getElem?_toArray, List.getElem?_cons_succ, List.getElem?_cons_zero, Option.getD_some, Array.getElem?_eq_some_iff] at e1
      refine .inl ⟨rfl, ?_⟩
      clear hs hd hx
      go_simp
      exact ⟨Ext.refl _ _, rfl⟩
    · intro a' w' hx hs hd
      obtain ⟨y, rfl⟩ := hx.ew
      have e5 : a'.tmps[5]?.getD undef = _ := hd 2 5 rfl rfl
      refine .inl ⟨rfl, ?_⟩
      clear hs hd hx
      go_simp
      exact ⟨Ext.refl _ _, rfl⟩
    · intro a' w' hx hs hd
      obtain ⟨y, rfl⟩ := hx.ew
      have e1 : a'.tmps[1]?.getD undef = _ := hs 1 rfl
      simp only [List.getElem?_toArray, List.getElem?_cons_succ, List.getElem?_cons_zero, Option.getD_some, Array.getElem?_eq_some_iff] at e1
      refine .inl ⟨rfl, ?_⟩
      clear hs hd hx
      go_simp
      exact ⟨Ext.refl _ _, rfl⟩
    · intro a' w' hx hs hd
      obtain ⟨y, rfl⟩ := hx.ew
      have e7 : a'.tmps[7]?.getD undef = _ := hd 4 7 rfl rfl
      refine .inl ⟨rfl, ?_⟩
      clear hs hd hx
      go_simp
      exact ⟨Ext.refl _ _, rfl⟩
    · intro a' w' hx hs hd
      obtain ⟨y, rfl⟩ := hx.ew
      have e1 : a'.tmps[1]?.getD undef = _ := hs 1 rfl
      simp only [List.getElem?_toArray, List.getElem?_cons_succ, List.getElem?_cons_zero, Option.getD_some, Array.getElem?_eq_some_iff] at e1
      refine .inl ⟨rfl, ?_⟩
      clear hs hd hx
      go_simp
      exact ⟨Ext.refl _ _, rfl⟩
    · intro a' w' hx hs hd
      obtain ⟨y, rfl⟩ := hx.ew
      have e9 : a'.tmps[9]?.getD undef = _ := hd 6 9 rfl rfl
      refine .inl ⟨rfl, ?_⟩
      clear hs hd hx
      go_simp
      exact ⟨Ext.refl _ _, rfl⟩
    · intro a' w' hx hs hd
      obtain ⟨y, rfl⟩ := hx.ew
      have e1 : a'.tmps[1]?.getD undef = _ := hs 1 rfl
      simp only [List.getElem?_toArray, List.getElem?_cons_succ, List.getElem?_cons_zero, Option.getD_some, Array.getElem?_eq_some_iff] at e1
      refine .inl ⟨rfl, ?_⟩
      clear hs hd hx
      go_simp
      exact ⟨Ext.refl _ _, rfl⟩
    · intro a' w' hx hs hd
      obtain ⟨y, rfl⟩ := hx.ew
      have e11 : a'.tmps[11]?.getD undef = _ := hd 8 11 rfl rfl
      refine .inl ⟨rfl, ?_⟩
      clear hs hd hx
      go_simp
      exact ⟨Ext.refl _ _, rfl⟩
    · intro a' w' hx hs hd
      obtain ⟨y, rfl⟩ := hx.ew
      have e12 : a'.tmps[12]?.getD undef = _ := hd 9 12 rfl rfl
      refine .inl ⟨rfl, ?_⟩
      clear hs hd hx
      go_simp
      exact ⟨Ext.refl _ _, rfl⟩
    · intro a' w' hx hs hd
      obtain ⟨y, rfl⟩ := hx.ew
      have e1 : a'.tmps[1]?.getD undef = _ := hs 1 rfl
      simp only [List.getElem?_toArray, List.getElem?_cons_succ, List.getElem?_cons_zero, Option.getD_some, Array.getElem?_eq_some_iff] at e1
      refine .inl ⟨rfl, ?_⟩
      clear hs hd hx
      go_simp
      exact ⟨Ext.refl _ _, rfl⟩
    · intro a' w' hx hs hd
      obtain ⟨y, rfl⟩ := hx.ew
      have e14 : a'.tmps[14]?.getD undef = _ := hd 11 14 rfl rfl
      refine .inl ⟨rfl, ?_⟩
      clear hs hd hx
      go_simp
      exact ⟨Ext.refl _ _, rfl⟩
    · intro a' w' hx hs hd
      obtain ⟨y, rfl⟩ := hx.ew
      have e8 : a'.tmps[8]?.getD undef = _ := hd 5 8 rfl rfl
      have e10 : a'.tmps[10]?.getD undef = _ := hd 7 10 rfl rfl
      have e13 : a'.tmps[13]?.getD undef = _ := hd 10 13 rfl rfl
      have e15 : a'.tmps[15]?.getD undef = _ := hd 12 15 rfl rfl
      refine .inl ⟨rfl, ?_⟩
      clear hs hd hx
      go_simp
      exact ⟨Ext.refl _ _, rfl⟩
    · intro a' w' hx hs hd
      obtain ⟨y, rfl⟩ := hx.ew
      have e4 : a'.tmps[4]?.getD undef = _ := hd 1 4 rfl rfl
      have e6 : a'.tmps[6]?.getD undef = _ := hd 3 6 rfl rfl
      have e16 : a'.tmps[16]?.getD undef = _ := hd 13 16 rfl rfl
      refine .inl ⟨rfl, ?_⟩
      clear hs hd hx
      go_simp
      exact ⟨Ext.refl _ _, rfl⟩
  case' q1 =>
    intro vs w' hx hRR
    obtain ⟨xq, rfl⟩ := hx.ew
    have q0 : vs 0 = _ := hRR 0 (by decide)
    have q1 : vs 1 = _ := hRR 1 (by decide)
    have q2 : vs 2 = _ := hRR 2 (by decide)
    have q3 : vs 3 = _ := hRR 3 (by decide)
    have q4 : vs 4 = _ := hRR 4 (by decide)
    have q5 : vs 5 = _ := hRR 5 (by decide)
    have q6 : vs 6 = _ := hRR 6 (by decide)
    have q7 : vs 7 = _ := hRR 7 (by decide)
    have q8 : vs 8 = _ := hRR 8 (by decide)
    have q9 : vs 9 = _ := hRR 9 (by decide)
    have q10 : vs 10 = _ := hRR 10 (by decide)
    have q11 : vs 11 = _ := hRR 11 (by decide)
    have q12 : vs 12 = _ := hRR 12 (by decide)
    have q13 : vs 13 = _ := hRR 13 (by decide)
    have q14 : vs 14 = _ := hRR 14 (by decide)
    clear hRR hx
    simp only [putAll, List.take_succ_cons, List.take_zero, List.drop_succ_cons, List.drop_zero, Act.put, List.setIfInBounds_toArray, List.set_cons_zero, List.set_cons_succ, Nat.reduceAdd, Nat.zero_add]
    simp only [q0, q1, q2, q3, q4, q5, q6, q7, q8, q9, q10, q11, q12, q13, q14]
    clear q0 q1 q2 q3 q4 q5 q6 q7 q8 q9 q10 q11 q12 q13 q14 vs
  go_wp2_with (refine wpList_store_box rfl 49 _ _ rfl (w.heap.size + 1) _ [.int .i64 c, .int .i64 s, .int .i64 k, .string key, .float .f64 b.toNat, .int .i64 id] _ rfl rfl (Bx.extN (Bx.newAt _ _ _ _ (by simp)) xq.ext) rfl info_req6 (by simp [Value.oneCell']) (fun W hB => ?_); have BZ := Go.Lib.hid hB; clear hB)
  have r0 : W.on.cell? ⟨w.heap.size + 1, 0, none⟩ = some (.int .i64 c) := BZ.out.cell rfl
  have r1 : W.on.cell? ⟨w.heap.size + 1, 1, none⟩ = some (.int .i64 s) := BZ.out.cell rfl
  have r2 : W.on.cell? ⟨w.heap.size + 1, 2, none⟩ = some (.int .i64 k) := BZ.out.cell rfl
  have r3 : W.on.cell? ⟨w.heap.size + 1, 3, none⟩ = some (.string key) := BZ.out.cell rfl
  have r4 : W.on.cell? ⟨w.heap.size + 1, 4, none⟩ = some (.float .f64 b.toNat) := BZ.out.cell rfl
  have r5 : W.on.cell? ⟨w.heap.size + 1, 5, none⟩ = some (.int .i64 id) := BZ.out.cell rfl
  go_wp2
  trace_state
  exact bodyPost_ret (v := .agg #[.int .i64 c, .int .i64 s, .int .i64 k, .string key, .float .f64 b.toNat, .int .i64 id]) (by simp [results, Try.results23, go_sem, r0, r1, r2, r3, r4, r5]) rfl ⟨rfl, by (repeat (first | with_reducible (first | exact Ext.refl _ _ | assumption | refine Ext.upN ?_ | refine Ext.alloc ?_ _ | refine Ext.drew ?_ | refine Ext.drewN ?_ _ | refine Ext.up1N (by first | omega | simp) ?_) | refine Ext.alloc ?_ _ | refine Ext.setCell ?_ (.inr (by first | omega | simp)) _))⟩
section
open Go.ChangeShapes Go.WideShapes
variable {H : Type} {enc : TypeId × Value → H} {W : World} {base n : Nat} {spare : Nat → Bool} {held : Bool}
theorem read_u64 {cs : List Value} {x : DataW H × List MemPlace} (h : DataW.trod enc Try.prog W base spare held n 55 cs = some x) : ∃ k : Int, cs = [.int .u64 k] ∧ 0 ≤ k ∧ k ≤ 18446744073709551615 := by
  obtain ⟨k, e, _, w⟩ := DataW.trod_int Try.underlying55 h
  refine ⟨k, e, ?_⟩
  simp only [Lit.wf, Bool.and_eq_true, decide_eq_true_eq] at w
  exact w
theorem c_u64 : (Try.prog).cellsOf 55 = 1 := by kernel_rfl
theorem c_ask : (Try.prog).cellsOf 57 = 6 := by kernel_rfl
theorem read_ask {cs : List Value} {x : DataW H × List MemPlace} (h : DataW.trod enc Try.prog W base spare held n 57 cs = some x) :
    ∃ (c s k : Int) (key : ByteArray) (b id : Int), cs = [.int .i64 c, .int .i64 s, .int .i64 k, .string key, .int .u64 b, .int .i64 id] ∧ ReqOk ⟨c, s, ⟨k, key, b.toNat, id⟩⟩ := by
  obtain ⟨hl, hf⟩ := read_struct Try.underlying57 h
  have hl : cs.length = 6 := hl.trans c_ask
  match cs, hl with
  | [v0, v1, v2, v3, v4, v5], _ =>
    obtain ⟨_, _, h0⟩ := hf 0 _ 3 0 1 rfl rfl rfl c_int
    obtain ⟨_, _, h1⟩ := hf 1 _ 3 1 1 rfl rfl rfl c_int
    obtain ⟨_, _, h2⟩ := hf 2 _ 3 2 1 rfl rfl rfl c_int
    obtain ⟨_, _, h3⟩ := hf 3 _ 9 3 1 rfl rfl rfl c_string
    obtain ⟨_, _, h4⟩ := hf 4 _ 55 4 1 rfl rfl rfl c_u64
    obtain ⟨_, _, h5⟩ := hf 5 _ 3 5 1 rfl rfl rfl c_int
    obtain ⟨k0, e0, w0⟩ := read_int h0
    obtain ⟨k1, e1, w1⟩ := read_int h1
    obtain ⟨k2, e2, w2⟩ := read_int h2
    obtain ⟨k3, e3, w3⟩ := read_str h3
    obtain ⟨k4, e4, w4⟩ := read_u64 h4
    obtain ⟨k5, e5, w5⟩ := read_int h5
    simp at e0 e1 e2 e3 e4 e5
    subst e0; subst e1; subst e2; subst e3; subst e4; subst e5
    exact ⟨k0, k1, k2, k3, k4, k5, rfl, ⟨w0, w1, w2, w5, by show k4.toNat < _; omega, w3⟩⟩
end
end Go.Proofs.Ytakbkpklfihfiaa
