/- The law SagaNil: the walk; a question as it comes in. -/
import Derived.Test.YtekbonciafbjiaaSaga5
namespace Go.Proofs.Ytekbonciafbjiaa
open Go.RowKit Go.Lib F64
set_option linter.unusedSimpArgs false
set_option linter.unusedVariables false
attribute [local go_sem] run_store_float
attribute [local go_sem low] EW.cellN EW.frozN alloc_cell_or alloc_froz_or EW.cellF EW.frozF EW.cell1 EW.froz1
attribute [local go_sem] relAt relUpon
set_option maxHeartbeats 2000000 in
set_option maxRecDepth 100000 in
theorem walk_SagaNil (n ep : Int) (tu : Bool) (c s k : Int) (key : ByteArray) (b id : Int) (ba : Option Addr) (bn bc : Nat) (w : World) :
    Calls Try.prog 8 #[.agg #[.int .i64 n, .int .i64 ep, .bool tu, .int .i64 c, .int .i64 s, .int .i64 k, .string key, .int .u64 b, .int .i64 id, .slice ba bn bc]] w fun e w' => e = .returned (.bool true) ∧ Ext Non w w' := by
  go_enter Try.func8, Try.ntmps8
  go_wp2_with fail
  refine Calls.ew (law22_lives _) ?_
  rintro e x1 rfl
  go_wp2_with fail
  refine Calls.ew (nil_State n tu _) ?_
  rintro e x2 rfl
  go_wp2_with fail
  refine Calls.ew (nil_Conf ep _) ?_
  rintro e x3 rfl
  go_wp2_with fail
  refine Calls.ew (law11_Request c s k key b id _) ?_
  rintro e x4 rfl
  generalize b.toNat = bt at *
  go_wp2_with fail
  refine Calls.ew (nil_Outcome c s k key bt id _) ?_
  rintro e x5 rfl
  go_wp2_with fail
  refine Calls.ew (nil_Len _) ?_
  rintro e x6 rfl
  go_wp2_with fail
  refine Calls.ew (nil_Sound _ _) ?_
  rintro e x7 rfl
  go_wp2
  go_ret
  exact ⟨rfl, by (repeat (first | with_reducible exact Ext.refl _ _ | assumption | with_reducible refine Ext.upN ?_ | with_reducible refine Ext.alloc ?_ _ | with_reducible refine Ext.upA (by assumption) ?_ | with_reducible refine Ext.upW ?_ | with_reducible refine Ext.drew ?_ | with_reducible refine Ext.drewN ?_ _ | with_reducible refine Ext.upF ?_ | with_reducible refine Ext.upFF (by first | omega | simp) ?_ | with_reducible refine Ext.setCellsF _ _ _ (by first | omega | simp) ?_ | with_reducible refine Ext.setCellF _ _ _ (by first | omega | simp) ?_ | with_reducible refine Ext.upFN (by first | omega | simp) ?_ | with_reducible refine Ext.up1F (by first | omega | simp) ?_ | with_reducible refine Ext.up1N (by first | omega | simp) ?_ | with_reducible refine Ext.setCell ?_ (.inr (by first | omega | simp)) _ | refine Ext.alloc ?_ _ | refine Ext.setCellF _ _ _ (by first | omega | simp) ?_ | refine Ext.setCell ?_ (.inr (by first | omega | simp)) _))⟩
section
open Go.ChangeShapes Go.WideShapes
variable {H : Type} {enc : TypeId × Value → H} {W : World} {base n : Nat} {spare : Nat → Bool} {held : Bool}
theorem read_bool22 {cs : List Value} {x : DataW H × List MemPlace} (h : DataW.trod enc Try.prog W base spare held n 4 cs = some x) : ∃ k : Bool, cs = [.bool k] := by
  obtain ⟨k, e, _⟩ := DataW.trod_bool Try.underlying4 h
  exact ⟨k, e⟩
theorem c_bool22 : (Try.prog).cellsOf 4 = 1 := by kernel_rfl
theorem c_q22 : (Try.prog).cellsOf 65 = 10 := by kernel_rfl
theorem read_q22 {cs : List Value} {x : DataW H × List MemPlace} (h : DataW.trod enc Try.prog W base spare held n 65 cs = some x) :
    ∃ (q0 q1 : Int) (q2 : Bool) (c s k : Int) (key : ByteArray) (b id : Int) (ba : Option Addr) (bc : Nat) (bad : List Int), cs = [.int .i64 q0, .int .i64 q1, .bool q2, .int .i64 c, .int .i64 s, .int .i64 k, .string key, .int .u64 b, .int .i64 id, .slice ba bad.length bc] ∧ I64 q0 ∧ I64 q1 ∧ ReqOk ⟨c, s, ⟨k, key, b.toNat, id⟩⟩ ∧ Ints W ba bc bad := by
  obtain ⟨hl, hf⟩ := read_struct Try.underlying65 h
  have hl : cs.length = 10 := hl.trans c_q22
  match cs, hl with
  | [v0, v1, v2, v3, v4, v5, v6, v7, v8, v9], _ =>
    obtain ⟨_, _, h0⟩ := hf 0 _ 3 0 1 rfl rfl rfl c_int
    obtain ⟨_, _, h1⟩ := hf 1 _ 3 1 1 rfl rfl rfl c_int
    obtain ⟨_, _, h2⟩ := hf 2 _ 4 2 1 rfl rfl rfl c_bool22
    obtain ⟨_, _, h3⟩ := hf 3 _ 40 3 6 rfl rfl rfl c_ask
    obtain ⟨_, _, h4⟩ := hf 4 _ 22 9 1 rfl rfl rfl c_ints
    obtain ⟨k0, e0, w0⟩ := read_int h0
    obtain ⟨k1, e1, w1⟩ := read_int h1
    obtain ⟨k2, e2⟩ := read_bool22 h2
    obtain ⟨kc, ks, kk, key, bits, kid, e3, w3⟩ := read_ask h3
    obtain ⟨ba, bc, bad, e4, hb, _⟩ := read_ints h4
    simp at e0 e1 e2 e3 e4
    obtain ⟨rfl, rfl, rfl, rfl, rfl, rfl⟩ := e3
    subst e0; subst e1; subst e2; subst e4
    exact ⟨k0, k1, k2, kc, ks, kk, key, bits, kid, ba, bc, bad, rfl, w0, w1, w3, hb⟩
end
set_option maxRecDepth 100000 in
open Go.ChangeShapes Go.WideShapes in
theorem law_SagaNil {H : Type} {enc : TypeId × Value → H} (W : World) {base : Nat} (v0 : Value) (d0 : DataW H) (p0 : List MemPlace)
    (h0 : DataW.Trod enc Try.prog W 0 (fun _ => true) true 65 v0 d0 p0) (ok0 : Value.okWide Try.prog W .any base 65 v0) :
    Calls Try.prog 8 #[v0] W fun e w' => e = .returned (.bool true) ∧ Below W.heap.size W w' := by
  obtain ⟨cs, rfl, n, x, hx⟩ := arg_struct Try.underlying65 ok0 h0
  obtain ⟨q0, q1, q2, c, s, k, key, b, id, ba, bc, bad, rfl, -, -, -, -⟩ := read_q22 hx
  exact (walk_SagaNil q0 q1 q2 c s k key b id ba bad.length bc W).mono fun _ _ ⟨a, b⟩ => ⟨a, b.toBelow⟩
end Go.Proofs.Ytekbonciafbjiaa
