/- The law LedgerNil, walked: a ledger that isn't there. -/
import Derived.Test.YtfefeepljbfcdaaOps12
namespace Go.Proofs.Ytfefeepljbfcdaa
open Go.RowKit F64
set_option linter.unusedSimpArgs false
set_option linter.unusedVariables false
attribute [local go_sem] run_store_float

theorem nil_Turn (w : World) : Calls Try.prog 13 #[.pointer none] w fun e w' => e = .returned (.int .i64 1) ∧ w = w' := by
  go_enter Try.func13, Try.ntmps13
  go_wp2
  go_returns
  exact ⟨rfl, rfl⟩
theorem nil_Conf (w : World) : Calls Try.prog 10 #[.pointer none] w fun e w' => e = .returned (.agg #[.int .i64 0, .slice none 0 0]) ∧ Ext Non w w' := by
  go_enter Try.func10, Try.ntmps10
  go_wp2
  refine bodyPost_ret (by simp [results, Try.results10, go_sem]; try rfl) rfl ?_
  exact ⟨rfl, (Ext.refl _ _).alloc _⟩
theorem nil_Next (w : World) : Calls Try.prog 11 #[.pointer none] w fun e w' => e = .returned (.slice none 0 0) ∧ w = w' := by
  go_enter Try.func11, Try.ntmps11
  go_wp2
  go_returns
  exact ⟨rfl, rfl⟩
theorem nil_Done (w : World) : Calls Try.prog 24 #[.pointer none] w fun e w' => e = .returned (.int .i64 0) ∧ w = w' := by
  go_enter Try.func24, Try.ntmps24
  go_wp2
  go_returns
  exact ⟨rfl, rfl⟩
theorem nil_Get (k : ByteArray) (w : World) : Calls Try.prog 25 #[.pointer none, .string k] w fun e w' => e = .returned (.tuple #[.float .f64 0, .bool false]) ∧ w = w' := by
  go_enter Try.func25, Try.ntmps25
  go_wp2
  go_returns
  exact ⟨rfl, rfl⟩
theorem nil_Text (w : World) : Calls Try.prog 27 #[.pointer none] w fun e w' => e = .returned (.string ⟨#[]⟩) ∧ w = w' := by
  go_enter Try.func27, Try.ntmps27
  go_wp2
  go_returns
  exact ⟨rfl, rfl⟩
theorem nil_Copy (w : World) : Calls Try.prog 22 #[.pointer none] w fun e w' => e = .returned (.pointer none) ∧ w = w' := by
  go_enter Try.func22, Try.ntmps22
  go_wp2
  go_returns
  exact ⟨rfl, rfl⟩
set_option maxHeartbeats 2000000 in
set_option maxRecDepth 100000 in
theorem nil_walk (q : Qop) (hq : q.Ok) (key : ByteArray) (c : Int) (w : World) :
    Calls Try.prog 6 #[.agg #[.int .i64 q.c, .int .i64 q.s, .int .i64 q.k, .string q.key, .int .u64 q.bits, .int .i64 q.id], .string key, .int .i64 c] w fun e w' => e = .returned (.bool true) ∧ Ext Non w w' := by
  have OK := Go.Lib.hid hq; clear hq
  go_enter Try.func6, Try.ntmps6
  go_wp2_with fail
  refine (law12_lives _).mono ?_
  rintro e w1 ⟨rfl, x1⟩
  have X1 := Go.Lib.hid (((Ext.refl Non w).alloc (.cells #[.int .i64 q.c, .int .i64 q.s, .int .i64 q.k, .string q.key, .int .u64 q.bits, .int .i64 q.id] 35)).trans x1)
  have cc : ∀ j v, ([.int .i64 q.c, .int .i64 q.s, .int .i64 q.k, .string q.key, .int .u64 q.bits, .int .i64 q.id] : List Value)[j]? = some v → w1.cell? ⟨w.heap.size, j, none⟩ = some v := fun j v hv => (x1.cell (p := ⟨w.heap.size, j, none⟩) (by simp) (fun f => f)).trans (cell_new w _ _ hv)
  have u0 := cc 0 _ rfl; have u1 := cc 1 _ rfl; have u2 := cc 2 _ rfl; have u3 := cc 3 _ rfl; have u4 := cc 4 _ rfl; have u5 := cc 5 _ rfl
  clear cc x1
  go_wp2_with fail
  refine (ask_Request _ _ _ _ _ _ _).mono ?_
  rintro e w2 ⟨rfl, x2⟩
  have X2 := Go.Lib.hid (X1.out.trans x2)
  clear x2 u0 u1 u2 u3 u4 u5
  go_wp2_with fail
  refine (do_arg none _ _ _ _ _ _ OK.out.c OK.out.s OK.out.k OK.out.id (.inl rfl) _).mono ?_
  rintro e w3 ⟨rfl, x3⟩
  have A3 : Ext Non w3 (w3.alloc (.cells #[.int .i64 0, .float .f64 0] 43)) := (Ext.refl _ _).alloc _
  have X3 := Go.Lib.hid ((X2.out.trans x3).trans A3)
  have v0 := cell_new w3 [.int .i64 0, .float .f64 0] 43 (k := 0) rfl
  have v1 := cell_new w3 [.int .i64 0, .float .f64 0] 43 (k := 1) rfl
  clear x3 A3
  go_wp2_with fail
  generalize w3.alloc (.cells #[.int .i64 0, .float .f64 0] 43) = w4 at *
  generalize w3.heap.size = k3 at *
  refine (nil_Get _ _).mono ?_
  rintro e w5 ⟨rfl, rfl⟩
  go_wp2_with fail
  refine (ledger_Last_no _ _ (.inl rfl) _).mono ?_
  rintro e w6 ⟨rfl, x6⟩
  have A6 : Ext Non w6 (w6.alloc (.cells #[.int .i64 0, .float .f64 0] 43)) := (Ext.refl _ _).alloc _
  have X6 := Go.Lib.hid ((X3.out.trans x6).trans A6)
  have s0 := cell_new w6 [.int .i64 0, .float .f64 0] 43 (k := 0) rfl
  have s1 := cell_new w6 [.int .i64 0, .float .f64 0] 43 (k := 1) rfl
  have y0 := ((x6.trans A6).cell (p := ⟨k3, 0, none⟩) (lt_of_cell v0) (fun f => f)).trans v0
  have y1 := ((x6.trans A6).cell (p := ⟨k3, 1, none⟩) (lt_of_cell v1) (fun f => f)).trans v1
  clear x6 A6 v0 v1
  go_wp2_with fail
  generalize w6.alloc (.cells #[.int .i64 0, .float .f64 0] 43) = w7 at *
  generalize w6.heap.size = k6 at *
  refine (ref_SameResult _ _ _ _ _).mono ?_
  rintro e w8 ⟨rfl, x8⟩
  rw [decide_eq_true (rfl : canonN 0 = canonN 0), decide_eq_true (rfl : (0 : Int) = 0)]
  have X8 := Go.Lib.hid (X6.out.trans x8)
  have t0 := (x8.cell (p := ⟨k6, 0, none⟩) (lt_of_cell s0) (fun f => f)).trans s0
  have t1 := (x8.cell (p := ⟨k6, 1, none⟩) (lt_of_cell s1) (fun f => f)).trans s1
  clear x8 s0 s1 y0 y1
  go_wp2_with fail
  refine (nil_Turn _).mono ?_
  rintro e w9 ⟨rfl, rfl⟩
  go_wp2_with fail
  refine (nil_Conf _).mono ?_
  rintro e w9 ⟨rfl, x9⟩
  have X9 := Go.Lib.hid (X8.out.trans x9)
  have s0 := (x9.cell (p := ⟨k6, 0, none⟩) (lt_of_cell t0) (fun f => f)).trans t0
  have s1 := (x9.cell (p := ⟨k6, 1, none⟩) (lt_of_cell t1) (fun f => f)).trans t1
  clear x9 t0 t1
  go_wp2_with fail
  refine (ref_Same 0 none 0 [] 0 none 0 [] _ (Ints.nil' _) (Ints.nil' _)).mono ?_
  rintro e w10 ⟨rfl, x10⟩
  rw [decide_eq_true (rfl : (0 : Int) = 0), decide_eq_true (rfl : ([] : List Int) = [])]
  have X10 := Go.Lib.hid (X9.out.trans x10)
  have t0 := (x10.cell (p := ⟨k6, 0, none⟩) (lt_of_cell s0) (fun f => f)).trans s0
  have t1 := (x10.cell (p := ⟨k6, 1, none⟩) (lt_of_cell s1) (fun f => f)).trans s1
  clear x10 s0 s1
  go_wp2_with fail
  refine (nil_Next _).mono ?_
  rintro e w11 ⟨rfl, rfl⟩
  go_wp2_with fail
  refine (nil_Done _).mono ?_
  rintro e w11 ⟨rfl, rfl⟩
  go_wp2_with fail
  refine (ledger_Full_nil _).mono ?_
  rintro e w11 ⟨rfl, n, rfl⟩
  have s0 : (w10.drewN n).cell? ⟨k6, 0, none⟩ = some (.int .i64 0) := t0
  have s1 : (w10.drewN n).cell? ⟨k6, 1, none⟩ = some (.float .f64 0) := t1
  have X11 := Go.Lib.hid (X10.out.drewN n)
  go_wp2_with fail
  refine (ref_SameResult _ _ _ _ _).mono ?_
  rintro e w12 ⟨rfl, x12⟩
  rw [decide_eq_true (rfl : canonN 0 = canonN 0), decide_eq_true (rfl : (0 : Int) = 0)]
  have X12 := Go.Lib.hid (X11.out.trans x12)
  clear x12 s0 s1 t0 t1
  go_wp2_with fail
  refine (nil_Text _).mono ?_
  rintro e w13 ⟨rfl, rfl⟩
  go_wp2_with fail
  refine (nil_Copy _).mono ?_
  rintro e w13 ⟨rfl, rfl⟩
  go_wp2
  go_returns
  exact ⟨rfl, X12.out⟩
set_option maxRecDepth 100000 in
open Go.ChangeShapes Go.WideShapes in
theorem law_LedgerNil {H : Type} {enc : TypeId × Value → H} (W : World) {base : Nat} (v0 : Value) (d0 : DataW H) (p0 : List MemPlace) (v1 : Value) (d1 : DataW H) (p1 : List MemPlace) (v2 : Value) (d2 : DataW H) (p2 : List MemPlace)
    (h0 : DataW.Trod enc Try.prog W 0 (fun _ => true) true 35 v0 d0 p0) (ok0 : Value.okWide Try.prog W .any base 35 v0)
    (h1 : DataW.Trod enc Try.prog W 0 (fun _ => true) true 9 v1 d1 p1) (ok1 : Value.okWide Try.prog W .any base 9 v1)
    (h2 : DataW.Trod enc Try.prog W 0 (fun _ => true) true 3 v2 d2 p2) (ok2 : Value.okWide Try.prog W .any base 3 v2) :
    Calls Try.prog 6 #[v0, v1, v2] W fun e w' => e = .returned (.bool true) ∧ Below W.heap.size W w' := by
  obtain ⟨q, rfl, hq⟩ := arg_ask ok0 h0
  obtain ⟨s, rfl⟩ := okWide_string Try.underlying9 ok1
  obtain ⟨x, rfl, rfl, rfl, wx⟩ := open_int Try.underlying3 ok2 h2
  exact (nil_walk q hq s x W).mono fun _ _ ⟨a, b⟩ => ⟨a, b.toBelow⟩
end Go.Proofs.Ytfefeepljbfcdaa
