/- The law SlotsNil: the walk. -/
import Derived.Test.YtakbkpklfihfiaaJoinN
namespace Go.Proofs.Ytakbkpklfihfiaa
open Go.RowKit Go.Lib F64
set_option linter.unusedSimpArgs false
set_option linter.unusedVariables false
attribute [local go_sem] run_store_float
attribute [local go_sem low] EW.cellN EW.frozN alloc_cell_or alloc_froz_or EW.cellF EW.frozF EW.cell1 EW.froz1
set_option maxHeartbeats 4000000 in
set_option maxRecDepth 100000 in
theorem walk_SlotsNil (kind from_ slot view c s k : Int) (key : ByteArray) (b id : Int) (wrong : Bool) (w : World) :
    Calls Try.prog 12 #[.agg #[.int .i64 kind, .int .i64 from_, .int .i64 slot, .int .i64 view, .int .i64 c, .int .i64 s, .int .i64 k, .string key, .int .u64 b, .int .i64 id, .bool wrong]] w fun e w' => e = .returned (.bool true) ∧ Ext Non w w' := by
  go_enter Try.func12, Try.ntmps12
  go_wp2_with fail
  refine Calls.ew (law14_lives _) ?_
  rintro e x1 rfl
  go_wp2_with fail
  refine Calls.ew (nil_Proposed slot _) ?_
  rintro e x2 rfl
  go_wp2_with fail
  refine Calls.ew (nil_Committed slot _) ?_
  rintro e x3 rfl
  go_wp2_with fail
  refine Calls.ew (law11_Request c s k key b id _) ?_
  rintro e x4 rfl
  generalize b.toNat = bn at *
  go_wp2_with fail
  refine Calls.ew (nil_Enter view _) ?_
  rintro e x5 rfl
  go_wp2_with fail
  refine Calls.ew (nil_Propose slot c s k key bn id _) ?_
  rintro e x6 rfl
  go_wp2_with fail
  refine Calls.ew (nil_Prepare from_ slot c s k key bn id 0 ByteArray.empty _) ?_
  rintro e x7 rfl
  go_wp2_with fail
  refine Calls.ew (nil_Commit from_ slot c s k key bn id _) ?_
  rintro e x8 rfl
  go_wp2_with fail
  refine Calls.ew (nil_Prepared slot _) ?_
  rintro e x9 rfl
  go_wp2_with fail
  refine Calls.ew (nil_View _) ?_
  rintro e x10 rfl
  go_wp2_with fail
  refine Calls.ew (nil_Size _) ?_
  rintro e x11 rfl
  go_wp2_with fail
  refine Calls.ew (nil_Certs _) ?_
  rintro e x12 rfl
  go_wp2
  go_ret
  exact ⟨rfl, by (repeat (first | with_reducible exact Ext.refl _ _ | assumption | with_reducible refine Ext.upN ?_ | with_reducible refine Ext.alloc ?_ _ | with_reducible refine Ext.upA (by assumption) ?_ | with_reducible refine Ext.upW ?_ | with_reducible refine Ext.drew ?_ | with_reducible refine Ext.drewN ?_ _ | with_reducible refine Ext.upF ?_ | with_reducible refine Ext.upFF (by first | omega | simp) ?_ | with_reducible refine Ext.setCellsF _ _ _ (by first | omega | simp) ?_ | with_reducible refine Ext.setCellF _ _ _ (by first | omega | simp) ?_ | with_reducible refine Ext.upFN (by first | omega | simp) ?_ | with_reducible refine Ext.up1F (by first | omega | simp) ?_ | with_reducible refine Ext.up1N (by first | omega | simp) ?_ | with_reducible refine Ext.setCell ?_ (.inr (by first | omega | simp)) _ | refine Ext.alloc ?_ _ | refine Ext.setCellF _ _ _ (by first | omega | simp) ?_ | refine Ext.setCell ?_ (.inr (by first | omega | simp)) _))⟩
section
open Go.ChangeShapes Go.WideShapes
variable {H : Type} {enc : TypeId × Value → H} {W : World} {base n : Nat} {spare : Nat → Bool} {held : Bool}
theorem read_bool14 {cs : List Value} {x : DataW H × List MemPlace} (h : DataW.trod enc Try.prog W base spare held n 4 cs = some x) : ∃ k : Bool, cs = [.bool k] := by
  obtain ⟨k, e, _⟩ := DataW.trod_bool Try.underlying4 h
  exact ⟨k, e⟩
theorem c_bool : (Try.prog).cellsOf 4 = 1 := by kernel_rfl
theorem c_op14 : (Try.prog).cellsOf 75 = 11 := by kernel_rfl
/-- A step, as it comes in. -/
structure Stp where
  kind : Int
  from_ : Int
  slot : Int
  view : Int
  c : Int
  s : Int
  k : Int
  key : ByteArray
  b : Int
  id : Int
  wrong : Bool
def Stp.cells (o : Stp) : List Value := [.int .i64 o.kind, .int .i64 o.from_, .int .i64 o.slot, .int .i64 o.view, .int .i64 o.c, .int .i64 o.s, .int .i64 o.k, .string o.key, .int .u64 o.b, .int .i64 o.id, .bool o.wrong]
def Stp.req (o : Stp) : Req := ⟨o.c, o.s, ⟨o.k, o.key, o.b.toNat, o.id⟩⟩
def Stp.ok (o : Stp) : Prop := I64 o.kind ∧ I64 o.from_ ∧ I64 o.slot ∧ I64 o.view ∧ ReqOk o.req
theorem read_op14 {cs : List Value} {x : DataW H × List MemPlace} (h : DataW.trod enc Try.prog W base spare held n 75 cs = some x) : ∃ o : Stp, cs = o.cells ∧ o.ok := by
  obtain ⟨hl, hf⟩ := read_struct Try.underlying75 h
  have hl : cs.length = 11 := hl.trans c_op14
  match cs, hl with
  | [v0, v1, v2, v3, v4, v5, v6, v7, v8, v9, v10], _ =>
    obtain ⟨_, _, h0⟩ := hf 0 _ 3 0 1 rfl rfl rfl c_int
    obtain ⟨_, _, h1⟩ := hf 1 _ 3 1 1 rfl rfl rfl c_int
    obtain ⟨_, _, h2⟩ := hf 2 _ 3 2 1 rfl rfl rfl c_int
    obtain ⟨_, _, h3⟩ := hf 3 _ 3 3 1 rfl rfl rfl c_int
    obtain ⟨_, _, h4⟩ := hf 4 _ 57 4 6 rfl rfl rfl c_ask
    obtain ⟨_, _, h5⟩ := hf 5 _ 4 10 1 rfl rfl rfl c_bool
    obtain ⟨k0, e0, w0⟩ := read_int h0
    obtain ⟨k1, e1, w1⟩ := read_int h1
    obtain ⟨k2, e2, w2⟩ := read_int h2
    obtain ⟨k3, e3, w3⟩ := read_int h3
    obtain ⟨kc, ks, kk, key, bits, kid, e4, w4⟩ := read_ask h4
    obtain ⟨k5, e5⟩ := read_bool14 h5
    simp at e0 e1 e2 e3 e4 e5
    obtain ⟨rfl, rfl, rfl, rfl, rfl, rfl⟩ := e4
    subst e0; subst e1; subst e2; subst e3; subst e5
    exact ⟨⟨k0, k1, k2, k3, kc, ks, kk, key, bits, kid, k5⟩, rfl, w0, w1, w2, w3, w4⟩
end
set_option maxRecDepth 100000 in
open Go.ChangeShapes Go.WideShapes in
theorem law_SlotsNil {H : Type} {enc : TypeId × Value → H} (W : World) {base : Nat} (v0 : Value) (d0 : DataW H) (p0 : List MemPlace)
    (h0 : DataW.Trod enc Try.prog W 0 (fun _ => true) true 75 v0 d0 p0) (ok0 : Value.okWide Try.prog W .any base 75 v0) :
    Calls Try.prog 12 #[v0] W fun e w' => e = .returned (.bool true) ∧ Below W.heap.size W w' := by
  obtain ⟨cs, rfl, n, x, hx⟩ := arg_struct Try.underlying75 ok0 h0
  obtain ⟨o, rfl, -⟩ := read_op14 hx
  exact (walk_SlotsNil o.kind o.from_ o.slot o.view o.c o.s o.k o.key o.b o.id o.wrong W).mono fun _ _ ⟨a, b⟩ => ⟨a, b.toBelow⟩
end Go.Proofs.Ytakbkpklfihfiaa
