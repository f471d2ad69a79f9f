/- Joined texts: Ledg7, Ledg8, Law12, Law12b. What each proves stands at its head; no conditions beside those in its theorems. -/
import Derived.Test.YtfefeepljbfcdaaGreatPjAT
/- Contracts of layer 12 (ledger): Do of a right request. Printed by wip/gendo.py. -/
namespace Go.Proofs.YtfefeepljbfcdaaGreat
open Go.RowKit F64
set_option linter.unusedSimpArgs false
set_option linter.unusedVariables false
attribute [local go_sem] run_store_float
theorem cl_cells {w5 : World} {b m : Nat} {g : Lg} (L : LD w5 b m g) {i : Nat} (hi : i < 8) : w5.cell? ⟨b, 5 + i * 3, none⟩ = some (.int .i64 (g.cl i).stamp) ∧ w5.cell? ⟨b, 5 + i * 3 + 1, none⟩ = some (.int .i64 (g.cl i).code) ∧ w5.cell? ⟨b, 5 + i * 3 + 2, none⟩ = some (.float .f64 (g.cl i).real) ∧
  w5.frozen? ⟨b, 5 + i * 3, none⟩ = false ∧ w5.frozen? ⟨b, 5 + i * 3 + 1, none⟩ = false ∧ w5.frozen? ⟨b, 5 + i * 3 + 2, none⟩ = false := by
 obtain ⟨a1, c1, a2, c2, r, _⟩ := L.ex
 obtain ⟨r0, r1, r2⟩ := cl_at g a1 c1 a2 c2 m hi
 exact ⟨cell_of_heap r r0, cell_of_heap r r1, cell_of_heap r r2, froz_of_heap r, froz_of_heap r, froz_of_heap r⟩
abbrev clPut (w : World) (b i : Nat) (c : Cl) : World := ((w.setCell ⟨b, 5 + i * 3, none⟩ (.int .i64 c.stamp)).setCell ⟨b, 5 + i * 3 + 1, none⟩ (.int .i64 c.code)).setCell ⟨b, 5 + i * 3 + 2, none⟩ (.float .f64 c.real)
theorem cl_put {w6 : World} {b m : Nat} {g : Lg} (L : LD w6 b m g) {i : Nat} (hi : i < 8) (c : Cl) : LD (clPut w6 b i c) b m (setCl g i c) ∧ Ext (One b) w6 (clPut w6 b i c) := by
 obtain ⟨a1, c1, a2, c2, r, i1, i2, f1, f2⟩ := L.ex
 have r1 := heap_set_same (k := 5 + i * 3) r (.int .i64 c.stamp)
 have r2 := heap_set_same (k := 5 + i * 3 + 1) r1 (.int .i64 c.code)
 have r3 := heap_set_same (k := 5 + i * 3 + 2) r2 (.float .f64 c.real)
 rw [cl_set g a1 c1 a2 c2 m hi c] at r3
 have x : Ext (One b) w6 (clPut w6 b i c) := (((Ext.refl _ _).set1 _).set1 _).set1 _
 exact ⟨L.set x r3 i1 i2 f1 f2 rfl, x⟩
set_option maxHeartbeats 1000000 in
set_option maxRecDepth 100000 in
theorem do_old (b m : Nat) (g : Lg) (I : Inv g) (i : Nat) (hi : i < 8) (s k : Int) (key : ByteArray) (x : Nat) (id : Int) (hs : I64 s) (hk : I64 k) (hid : I64 id) (hx : x < 18446744073709551616)
  (h1 : rightB ⟨(i : Int) + 1, s, ⟨k, key, x, id⟩⟩ = true) (hf : fullB g = false) (hst : s < (g.cl i).stamp) (w : World) (h : LD w b m g) :
  Calls Tryz.prog 13 #[.pointer (some ⟨b, 0, none⟩), .agg #[.int .i64 ((i : Int) + 1), .int .i64 s, .int .i64 k, .string key, .float .f64 x, .int .i64 id]] w fun e w' =>
  e = .returned (.tuple #[.agg #[.int .i64 7, .float .f64 0], .int .i64 0]) ∧ Ext (Two b m) w w' ∧ LD w' b m (tick g) := by
 have DW := hI_ (DoW.of (w := w) (c := (i : Int) + 1) (s := s) (k := k) (key := key) (x := x) (id := id))
 have A1 := hI_ (show Ext Non w (doBase w ((i : Int) + 1) s k key x id) from ((Ext.refl _ _).alloc _).alloc _)
 have II := hI_ I
 have HH := hI_ h
 have HF := hI_ hf
 have hc : I64 ((i : Int) + 1) := by unfold I64; omega
 have I4 := hI_ (And.intro hc (And.intro hs (And.intro hk hid)))
 have H1 := hI_ h1
 have h2 : nullB ⟨(i : Int) + 1, s, ⟨k, key, x, id⟩⟩ = false := by
  cases hn : nullB ⟨(i : Int) + 1, s, ⟨k, key, x, id⟩⟩
  ·rfl
  ·rw [null_not_right hn] at h1; cases h1
 have H2 := hI_ h2
 have HO := hI_ (rightB_facts h1).2.2.2.2
 have wr : IntKind.i64.wrap (g.done + 1) = g.done + 1 := by have := I.ep; have := I.dn; exact IntWalk.i64_in _ (by omega)
 have wi : IntKind.i64.wrap ((i : Int) + 1 - 1) = (i : Int) := by rw [show (i : Int) + 1 - 1 = i from by omega]; exact IntWalk.i64_in _ (by omega)
 have hlt := h.lt
 have hml := h.mp.lt
 have HST := hI_ hst
 clear h1 h2 hc hs hk hid I h hf hst
 go_enter Tryz.func13, Tryz.ntmps13
 go_wp2_with fail
 refine (deeds_Right _ s k key x id _).mono ?_
 rintro e w1 ⟨rfl, y1⟩
 rw [H1.out]
 have D2 := hI_ (DW.out.ext y1 (fun f => f) (fun f => f))
 have A2 := hI_ (A1.out.trans y1)
 clear y1
 have L2 := hI_ (HH.out.extN A2.out)
 go_wp2_with fail
 refine (ledger_Full b m g II.out _ L2.out).mono ?_
 rintro e w3 ⟨rfl, n, rfl⟩
 rw [HF.out]
 obtain ⟨a1, c1, a2, c2, t1, t2, t3, t4⟩ := tick_row n L2.out
 have T4 := hI_ t4; clear t3 t4
 have x3 : Ext (One b) w1 ((w1.drewN n).setCell ⟨b, 3, none⟩ (.int .i64 (g.done + 1))) := ((Ext.refl _ _).drewN n).set1 _
 have D3 := hI_ (D2.out.ext x3 (fun s => by have s : w.heap.size = b := s; omega) (fun s => by have s : w.heap.size + 1 = b := s; omega))
 have X3 := hI_ x3; clear x3
 obtain ⟨q0, q1, q2, q3, q4, q5⟩ := D3.out.cells
 go_wp2_with fail
 refine (deeds_Null _ s k key x id I4.out.1 I4.out.2.1 I4.out.2.2.1 I4.out.2.2.2 _).mono ?_
 rintro e w5 ⟨rfl, y5⟩
 rw [H2.out]
 clear q0 q1 q2 q3 q4 q5 t1 t2
 have D5 := hI_ (D3.out.ext y5 (fun f => f) (fun f => f))
 have L5 := hI_ (T4.out.extN y5)
 have Y5 := hI_ (((A2.out.ofNon (S := Two b m)).step X3.out (fun k _ s => .inl s)).trans y5.ofNon)
 clear y5
 obtain ⟨q0, q1, q2, q3, q4, q5⟩ := D5.out.cells
 obtain ⟨v0, v1, v2, z0, z1, z2⟩ := cl_cells L5.out hi
 have u0 : w5.cell? ⟨b, 5 + i * 3, none⟩ = some (.int .i64 (g.cl i).stamp) := v0
 have u1 : w5.cell? ⟨b, 5 + i * 3 + 1, none⟩ = some (.int .i64 (g.cl i).code) := v1
 have u2 : w5.cell? ⟨b, 5 + i * 3 + 2, none⟩ = some (.float .f64 (g.cl i).real) := v2
 clear v0 v1 v2
 obtain ⟨p1, p2, p3, p4⟩ := D5.out.res
 have hst := HST.out; clear HST
 obtain ⟨y00, y0', y1'⟩ := res2 (v0 := .int .i64 7) (v1 := .float .f64 0) p1 p2
 generalize (g.cl i).stamp = st at *
 have hd := decide_eq_true hst
 clear hst
 go_wp2_with fail
 go_region
 go_wp2_with fail
 go_region
 go_wp2
 refine bodyPost_ret (by simp [results, Tryz.results13, go_sem, y00, y0', y1']; try rfl) rfl ?_
 obtain ⟨E1, E2⟩ := do_end (.int .i64 7) (.float .f64 0) D5.out Y5.out hlt hml L5.out
 exact ⟨rfl, E1.drewN 2, E2.extN ((Ext.refl _ _).drewN 2)⟩
set_option maxHeartbeats 1000000 in
set_option maxRecDepth 100000 in
theorem do_again (b m : Nat) (g : Lg) (I : Inv g) (i : Nat) (hi : i < 8) (s k : Int) (key : ByteArray) (x : Nat) (id : Int) (hs : I64 s) (hk : I64 k) (hid : I64 id) (hx : x < 18446744073709551616)
  (h1 : rightB ⟨(i : Int) + 1, s, ⟨k, key, x, id⟩⟩ = true) (hf : fullB g = false) (hst : s = (g.cl i).stamp) (w : World) (h : LD w b m g) :
  Calls Tryz.prog 13 #[.pointer (some ⟨b, 0, none⟩), .agg #[.int .i64 ((i : Int) + 1), .int .i64 s, .int .i64 k, .string key, .float .f64 x, .int .i64 id]] w fun e w' =>
  e = .returned (.tuple #[.agg #[.int .i64 (g.cl i).code, .float .f64 (g.cl i).real], .int .i64 0]) ∧ Ext (Two b m) w w' ∧ LD w' b m (tick g) := by
 have DW := hI_ (DoW.of (w := w) (c := (i : Int) + 1) (s := s) (k := k) (key := key) (x := x) (id := id))
 have A1 := hI_ (show Ext Non w (doBase w ((i : Int) + 1) s k key x id) from ((Ext.refl _ _).alloc _).alloc _)
 have II := hI_ I
 have HH := hI_ h
 have HF := hI_ hf
 have hc : I64 ((i : Int) + 1) := by unfold I64; omega
 have I4 := hI_ (And.intro hc (And.intro hs (And.intro hk hid)))
 have H1 := hI_ h1
 have h2 : nullB ⟨(i : Int) + 1, s, ⟨k, key, x, id⟩⟩ = false := by
  cases hn : nullB ⟨(i : Int) + 1, s, ⟨k, key, x, id⟩⟩
  ·rfl
  ·rw [null_not_right hn] at h1; cases h1
 have H2 := hI_ h2
 have HO := hI_ (rightB_facts h1).2.2.2.2
 have wr : IntKind.i64.wrap (g.done + 1) = g.done + 1 := by have := I.ep; have := I.dn; exact IntWalk.i64_in _ (by omega)
 have wi : IntKind.i64.wrap ((i : Int) + 1 - 1) = (i : Int) := by rw [show (i : Int) + 1 - 1 = i from by omega]; exact IntWalk.i64_in _ (by omega)
 have hlt := h.lt
 have hml := h.mp.lt
 have HST := hI_ hst
 clear h1 h2 hc hs hk hid I h hf hst
 go_enter Tryz.func13, Tryz.ntmps13
 go_wp2_with fail
 refine (deeds_Right _ s k key x id _).mono ?_
 rintro e w1 ⟨rfl, y1⟩
 rw [H1.out]
 have D2 := hI_ (DW.out.ext y1 (fun f => f) (fun f => f))
 have A2 := hI_ (A1.out.trans y1)
 clear y1
 have L2 := hI_ (HH.out.extN A2.out)
 go_wp2_with fail
 refine (ledger_Full b m g II.out _ L2.out).mono ?_
 rintro e w3 ⟨rfl, n, rfl⟩
 rw [HF.out]
 obtain ⟨a1, c1, a2, c2, t1, t2, t3, t4⟩ := tick_row n L2.out
 have T4 := hI_ t4; clear t3 t4
 have x3 : Ext (One b) w1 ((w1.drewN n).setCell ⟨b, 3, none⟩ (.int .i64 (g.done + 1))) := ((Ext.refl _ _).drewN n).set1 _
 have D3 := hI_ (D2.out.ext x3 (fun s => by have s : w.heap.size = b := s; omega) (fun s => by have s : w.heap.size + 1 = b := s; omega))
 have X3 := hI_ x3; clear x3
 obtain ⟨q0, q1, q2, q3, q4, q5⟩ := D3.out.cells
 go_wp2_with fail
 refine (deeds_Null _ s k key x id I4.out.1 I4.out.2.1 I4.out.2.2.1 I4.out.2.2.2 _).mono ?_
 rintro e w5 ⟨rfl, y5⟩
 rw [H2.out]
 clear q0 q1 q2 q3 q4 q5 t1 t2
 have D5 := hI_ (D3.out.ext y5 (fun f => f) (fun f => f))
 have L5 := hI_ (T4.out.extN y5)
 have Y5 := hI_ (((A2.out.ofNon (S := Two b m)).step X3.out (fun k _ s => .inl s)).trans y5.ofNon)
 clear y5
 obtain ⟨q0, q1, q2, q3, q4, q5⟩ := D5.out.cells
 obtain ⟨v0, v1, v2, z0, z1, z2⟩ := cl_cells L5.out hi
 have u0 : w5.cell? ⟨b, 5 + i * 3, none⟩ = some (.int .i64 (g.cl i).stamp) := v0
 have u1 : w5.cell? ⟨b, 5 + i * 3 + 1, none⟩ = some (.int .i64 (g.cl i).code) := v1
 have u2 : w5.cell? ⟨b, 5 + i * 3 + 2, none⟩ = some (.float .f64 (g.cl i).real) := v2
 clear v0 v1 v2
 obtain ⟨p1, p2, p3, p4⟩ := D5.out.res
 have hst := HST.out; clear HST
 obtain ⟨cd, ecd⟩ : ∃ c, c = (g.cl i).code := ⟨_, rfl⟩
 obtain ⟨rl, erl⟩ : ∃ c, c = (g.cl i).real := ⟨_, rfl⟩
 rw [← ecd] at u1; rw [← erl] at u2; rw [← hst] at u0
 have EC := hI_ ecd; have ER := hI_ erl; clear ecd erl hst
 obtain ⟨y00, y0', y1'⟩ := res2 (v0 := .int .i64 cd) (v1 := .float .f64 rl) p1 p2
 go_wp2_with fail
 go_region
 go_wp2_with fail
 go_region
 go_wp2_with fail
 go_region
 go_wp2
 refine bodyPost_ret (by simp [results, Tryz.results13, go_sem, y00, y0', y1']; try rfl) rfl ?_
 obtain ⟨E1, E2⟩ := do_end (.int .i64 cd) (.float .f64 rl) D5.out Y5.out hlt hml L5.out
 rw [← EC.out, ← ER.out]
 exact ⟨rfl, E1.drewN 3, E2.extN ((Ext.refl _ _).drewN 3)⟩
set_option maxHeartbeats 1000000 in
set_option maxRecDepth 100000 in
theorem do_new (b m : Nat) (g : Lg) (I : Inv g) (i : Nat) (hi : i < 8) (s k : Int) (key : ByteArray) (x : Nat) (id : Int) (hs : I64 s) (hk : I64 k) (hid : I64 id) (hx : x < 18446744073709551616)
    (h1 : rightB ⟨(i : Int) + 1, s, ⟨k, key, x, id⟩⟩ = true) (hf : fullB g = false) (hst : (g.cl i).stamp < s) (w : World) (h : LD w b m g) :
    Calls Tryz.prog 13 #[.pointer (some ⟨b, 0, none⟩), .agg #[.int .i64 ((i : Int) + 1), .int .i64 s, .int .i64 k, .string key, .float .f64 x, .int .i64 id]] w fun e w' =>
    e = .returned (.tuple #[.agg #[.int .i64 (applyR (tick g) ⟨k, key, x, id⟩).code, .float .f64 (applyR (tick g) ⟨k, key, x, id⟩).real], .int .i64 0]) ∧ Ext (Two b m) w w' ∧ LD w' b m (setCl (applyL (tick g) ⟨k, key, x, id⟩) i ⟨s, (applyR (tick g) ⟨k, key, x, id⟩).code, (applyR (tick g) ⟨k, key, x, id⟩).real⟩) := by
  have DW := hI_ (DoW.of (w := w) (c := (i : Int) + 1) (s := s) (k := k) (key := key) (x := x) (id := id))
  have A1 := hI_ (show Ext Non w (doBase w ((i : Int) + 1) s k key x id) from ((Ext.refl _ _).alloc _).alloc _)
  have II := hI_ I
  have HH := hI_ h
  have HF := hI_ hf
  have hc : I64 ((i : Int) + 1) := by unfold I64; omega
  have I4 := hI_ (And.intro hc (And.intro hs (And.intro hk hid)))
  have H1 := hI_ h1
  have h2 : nullB ⟨(i : Int) + 1, s, ⟨k, key, x, id⟩⟩ = false := by
    cases hn : nullB ⟨(i : Int) + 1, s, ⟨k, key, x, id⟩⟩
    · rfl
    · rw [null_not_right hn] at h1; cases h1
  have H2 := hI_ h2
  have HO := hI_ (rightB_facts h1).2.2.2.2
  have wr : IntKind.i64.wrap (g.done + 1) = g.done + 1 := by have := I.ep; have := I.dn; exact IntWalk.i64_in _ (by omega)
  have wi : IntKind.i64.wrap ((i : Int) + 1 - 1) = (i : Int) := by rw [show (i : Int) + 1 - 1 = i from by omega]; exact IntWalk.i64_in _ (by omega)
  have hlt := h.lt
  have hml := h.mp.lt
  have HST := hI_ hst
  clear h1 h2 hc hs hk hid I h hf hst
  go_enter Tryz.func13, Tryz.ntmps13
  go_wp2_with fail
  refine (deeds_Right _ s k key x id _).mono ?_
  rintro e w1 ⟨rfl, y1⟩
  rw [H1.out]
  have D2 := hI_ (DW.out.ext y1 (fun f => f) (fun f => f))
  have A2 := hI_ (A1.out.trans y1)
  clear y1
  have L2 := hI_ (HH.out.extN A2.out)
  go_wp2_with fail
  refine (ledger_Full b m g II.out _ L2.out).mono ?_
  rintro e w3 ⟨rfl, n, rfl⟩
  rw [HF.out]
  obtain ⟨a1, c1, a2, c2, t1, t2, t3, t4⟩ := tick_row n L2.out
  have T4 := hI_ t4; clear t3 t4
  have x3 : Ext (One b) w1 ((w1.drewN n).setCell ⟨b, 3, none⟩ (.int .i64 (g.done + 1))) := ((Ext.refl _ _).drewN n).set1 _
  have D3 := hI_ (D2.out.ext x3 (fun s => by have s : w.heap.size = b := s; omega) (fun s => by have s : w.heap.size + 1 = b := s; omega))
  have X3 := hI_ x3; clear x3
  obtain ⟨q0, q1, q2, q3, q4, q5⟩ := D3.out.cells
  go_wp2_with fail
  refine (deeds_Null _ s k key x id I4.out.1 I4.out.2.1 I4.out.2.2.1 I4.out.2.2.2 _).mono ?_
  rintro e w5 ⟨rfl, y5⟩
  rw [H2.out]
  clear q0 q1 q2 q3 q4 q5 t1 t2
  have D5 := hI_ (D3.out.ext y5 (fun f => f) (fun f => f))
  have L5 := hI_ (T4.out.extN y5)
  have Y5 := hI_ (((A2.out.ofNon (S := Two b m)).step X3.out (fun k _ s => .inl s)).trans y5.ofNon)
  clear y5
  obtain ⟨q0, q1, q2, q3, q4, q5⟩ := D5.out.cells
  obtain ⟨v0, v1, v2, z0, z1, z2⟩ := cl_cells L5.out hi
  have u0 : w5.cell? ⟨b, 5 + i * 3, none⟩ = some (.int .i64 (g.cl i).stamp) := v0
  have u1 : w5.cell? ⟨b, 5 + i * 3 + 1, none⟩ = some (.int .i64 (g.cl i).code) := v1
  have u2 : w5.cell? ⟨b, 5 + i * 3 + 2, none⟩ = some (.float .f64 (g.cl i).real) := v2
  clear v0 v1 v2
  obtain ⟨p1, p2, p3, p4⟩ := D5.out.res
  have hst := HST.out; clear HST
  have I5 := hI_ (inv_tick II.out HF.out)
  obtain ⟨st, est⟩ : ∃ c, c = (g.cl i).stamp := ⟨_, rfl⟩
  rw [← est] at u0 hst
  have hd1 := decide_eq_false (show ¬ s < st by omega)
  have hd2 := decide_eq_true hst
  clear hst est
  have hb : ∀ w', Ext (Two b m) w5 w' → w'.cell? ⟨w.heap.size, 1, none⟩ = some (.int .i64 s) ∧ w'.cell? ⟨w.heap.size, 2, none⟩ = some (.int .i64 k) ∧ w'.cell? ⟨w.heap.size, 3, none⟩ = some (.string key) ∧
      w'.cell? ⟨w.heap.size, 4, none⟩ = some (.float .f64 x) ∧ w'.cell? ⟨w.heap.size, 5, none⟩ = some (.int .i64 id) := by
    intro w' y
    exact (D5.out.ext y (fun s => by rcases s with s | s <;> omega) (fun s => by rcases s with s | s <;> omega)).cells.2
  have B := hI_ hb; clear hb
  have N0 := (Ext.refl Non w5).drewN 3
  have W0 := (Ext.refl (Two b m) w5).drewN 3
  go_wp2_with fail
  go_region
  go_wp2_with fail
  go_region
  go_wp2_with fail
  go_region
  go_wp2_with fail
  go_region_held3 (fun w' => w'.cell? ⟨w.heap.size, 1, none⟩ = some (.int .i64 s) ∧ w'.cell? ⟨w.heap.size, 2, none⟩ = some (.int .i64 k) ∧ w'.cell? ⟨w.heap.size, 3, none⟩ = some (.string key) ∧
      w'.cell? ⟨w.heap.size, 4, none⟩ = some (.float .f64 x) ∧ w'.cell? ⟨w.heap.size, 5, none⟩ = some (.int .i64 id))
    (first | exact B.out _ (W6.trans ((cl_put L6.out hi ⟨s, (applyR (tick g) ⟨k, key, x, id⟩).code, (applyR (tick g) ⟨k, key, x, id⟩).real⟩).2.mono (fun k _ h => .inl h))) | exact B.out _ (by (first | exact W6 | exact Ext.drew W6 | exact Ext.alloc W6 _ | exact Ext.alloc (Ext.drew W6) _ | exact Ext.drew (Ext.alloc W6 _) | exact Ext.alloc (Ext.alloc W6 _) _ | exact Ext.alloc (Ext.alloc (Ext.drew W6) _) _ | exact Ext.alloc (Ext.drew (Ext.alloc W6 _)) _ | exact Ext.drew (Ext.alloc (Ext.alloc W6 _) _))) | exact B.out _ (by (first | exact W0 | exact Ext.drew W0 | exact Ext.alloc W0 _ | exact Ext.alloc (Ext.drew W0) _ | exact Ext.drew (Ext.alloc W0 _) | exact Ext.alloc (Ext.alloc W0 _) _ | exact Ext.alloc (Ext.alloc (Ext.drew W0) _) _ | exact Ext.alloc (Ext.drew (Ext.alloc W0 _)) _ | exact Ext.drew (Ext.alloc (Ext.alloc W0 _) _))))
    (first
    | (go_at_call 55
       refine Calls.mono (ledger_apply b m (tick g) I5.out k key x id HO.out hx _ (L5.out.extN (by (first | exact N0 | exact Ext.drew N0 | exact Ext.alloc N0 _ | exact Ext.alloc (Ext.drew N0) _ | exact Ext.drew (Ext.alloc N0 _) | exact Ext.alloc (Ext.alloc N0 _) _ | exact Ext.alloc (Ext.alloc (Ext.drew N0) _) _ | exact Ext.alloc (Ext.drew (Ext.alloc N0 _)) _ | exact Ext.drew (Ext.alloc (Ext.alloc N0 _) _))))) ?_
       rintro e w6 ⟨rfl, y6, l6⟩
       have W6 : Ext (Two b m) w5 w6 := (by (first | exact W0 | exact Ext.drew W0 | exact Ext.alloc W0 _ | exact Ext.alloc (Ext.drew W0) _ | exact Ext.drew (Ext.alloc W0 _) | exact Ext.alloc (Ext.alloc W0 _) _ | exact Ext.alloc (Ext.alloc (Ext.drew W0) _) _ | exact Ext.alloc (Ext.drew (Ext.alloc W0 _)) _ | exact Ext.drew (Ext.alloc (Ext.alloc W0 _) _)) : Ext (Two b m) w5 _).trans y6
       obtain ⟨v0, v1, v2, z0, z1, z2⟩ := cl_cells l6 hi
       have L6 := hI_ l6))
  obtain ⟨l7, x7⟩ := cl_put L6.out hi ⟨s, (applyR (tick g) ⟨k, key, x, id⟩).code, (applyR (tick g) ⟨k, key, x, id⟩).real⟩
  clear v0 v1 v2 z0 z1 z2 u0 u1 u2
  obtain ⟨v0, v1, v2, z0, z1, z2⟩ := cl_cells l7 hi
  have ec : (setCl (applyL (tick g) ⟨k, key, x, id⟩) i ⟨s, (applyR (tick g) ⟨k, key, x, id⟩).code, (applyR (tick g) ⟨k, key, x, id⟩).real⟩).cl i = ⟨s, (applyR (tick g) ⟨k, key, x, id⟩).code, (applyR (tick g) ⟨k, key, x, id⟩).real⟩ := if_pos rfl
  rw [ec] at v0 v1 v2
  clear ec
  have L7 := hI_ l7
  have X7 := hI_ (W6.trans (x7.mono (fun k _ h => .inl h)))
  have D7 := hI_ (D5.out.ext X7.out (fun s => by rcases s with s | s <;> omega) (fun s => by rcases s with s | s <;> omega))
  obtain ⟨p1', p2', p3', p4'⟩ := D7.out.res
  obtain ⟨y00, y0', y1'⟩ := res2 (v0 := .int .i64 (applyR (tick g) ⟨k, key, x, id⟩).code) (v1 := .float .f64 (applyR (tick g) ⟨k, key, x, id⟩).real) p1' p2'
  clear p1 p2 p3 p4 l6 l7 x7 y6
  go_wp2
  refine bodyPost_ret (by simp [results, Tryz.results13, go_sem, y00, y0', y1']; try rfl) rfl ?_
  obtain ⟨E1, E2⟩ := do_end (.int .i64 (applyR (tick g) ⟨k, key, x, id⟩).code) (.float .f64 (applyR (tick g) ⟨k, key, x, id⟩).real) D7.out (Y5.out.trans X7.out) hlt hml L7.out
  exact ⟨rfl, E1, E2⟩
end Go.Proofs.YtfefeepljbfcdaaGreat

/- Contracts of layer 12 (ledger): Do as a whole, Copy. -/
namespace Go.Proofs.YtfefeepljbfcdaaGreat
open Go.RowKit F64
set_option linter.unusedSimpArgs false
set_option linter.unusedVariables false
attribute [local go_sem] run_store_float
theorem ledger_Do (b m : Nat) (g : Lg) (I : Inv g) (c s k : Int) (key : ByteArray) (x : Nat) (id : Int) (hc : I64 c) (hs : I64 s) (hk : I64 k) (hid : I64 id) (hx : x < 18446744073709551616) (w : World) (h : LD w b m g) :
  Calls Tryz.prog 13 #[.pointer (some ⟨b, 0, none⟩), .agg #[.int .i64 c, .int .i64 s, .int .i64 k, .string key, .float .f64 x, .int .i64 id]] w fun e w' =>
  e = .returned (.tuple #[.agg #[.int .i64 (doR g ⟨c, s, ⟨k, key, x, id⟩⟩).code, .float .f64 (doR g ⟨c, s, ⟨k, key, x, id⟩⟩).real], .int .i64 (doE g ⟨c, s, ⟨k, key, x, id⟩⟩)]) ∧ Ext (Two b m) w w' ∧ LD w' b m (doL g ⟨c, s, ⟨k, key, x, id⟩⟩) := by
 by_cases ha : rightB ⟨c, s, ⟨k, key, x, id⟩⟩ = false ∧ nullB ⟨c, s, ⟨k, key, x, id⟩⟩ = false
 ·have he : doE g ⟨c, s, ⟨k, key, x, id⟩⟩ = 1 := by unfold doE; rw [if_pos ha]
  have h1 : doL g ⟨c, s, ⟨k, key, x, id⟩⟩ = g := by unfold doL; rw [if_pos (by rw [he]; decide)]
  have h2 : doR g ⟨c, s, ⟨k, key, x, id⟩⟩ = ⟨0, 0⟩ := by unfold doR; rw [if_pos (by rw [he]; decide)]
  rw [he, h1, h2]
  exact (do_arg _ c s k key x id hc hs hk hid (.inr ha) w).mono fun e w' ⟨q1, q2⟩ => ⟨q1, q2.ofNon, h.extN q2⟩
 ·have hrn : rightB ⟨c, s, ⟨k, key, x, id⟩⟩ = true ∨ nullB ⟨c, s, ⟨k, key, x, id⟩⟩ = true := by
   cases h1 : rightB ⟨c, s, ⟨k, key, x, id⟩⟩
   ·cases h2 : nullB ⟨c, s, ⟨k, key, x, id⟩⟩
    ·exact absurd ⟨h1, h2⟩ ha
    ·exact .inr rfl
   ·exact .inl rfl
  cases hf : fullB g
  ·have he : doE g ⟨c, s, ⟨k, key, x, id⟩⟩ = 0 := by unfold doE; rw [if_neg ha, hf]; rfl
   have he' : ¬ doE g ⟨c, s, ⟨k, key, x, id⟩⟩ ≠ 0 := by rw [he]; decide
   cases hn : nullB ⟨c, s, ⟨k, key, x, id⟩⟩
   ·have hr := hrn.resolve_right (by rw [hn]; simp)
    obtain ⟨r1, r2, r3, r4, r5⟩ := rightB_facts hr
    simp only at r1 r2 r3 r4
    obtain ⟨i, hi⟩ : ∃ i : Nat, c = (i : Int) + 1 := ⟨(c - 1).toNat, by omega⟩
    subst hi
    have hi8 : i < 8 := by omega
    have hix : idxR ⟨(i : Int) + 1, s, ⟨k, key, x, id⟩⟩ = i := by unfold idxR; simp only; omega
    by_cases c1 : s < (g.cl i).stamp
    ·have h1 : doL g ⟨(i : Int) + 1, s, ⟨k, key, x, id⟩⟩ = tick g := by unfold doL; rw [if_neg he', if_neg (by rw [hn]; simp), hix, if_pos c1]
     have h2 : doR g ⟨(i : Int) + 1, s, ⟨k, key, x, id⟩⟩ = ⟨7, 0⟩ := by unfold doR; rw [if_neg he', if_neg (by rw [hn]; simp), hix, if_pos c1]
     rw [he, h1, h2]
     exact do_old b m g I i hi8 s k key x id hs hk hid hx hr hf c1 w h
    ·by_cases c2 : (g.cl i).stamp < s
     ·have h1 : doL g ⟨(i : Int) + 1, s, ⟨k, key, x, id⟩⟩ = setCl (applyL (tick g) ⟨k, key, x, id⟩) i ⟨s, (applyR (tick g) ⟨k, key, x, id⟩).code, (applyR (tick g) ⟨k, key, x, id⟩).real⟩ := by
       unfold doL; rw [if_neg he', if_neg (by rw [hn]; simp), hix, if_neg c1, if_pos c2]
      have h2 : doR g ⟨(i : Int) + 1, s, ⟨k, key, x, id⟩⟩ = applyR (tick g) ⟨k, key, x, id⟩ := by unfold doR; rw [if_neg he', if_neg (by rw [hn]; simp), hix, if_neg c1, if_pos c2]
      rw [he, h1, h2]
      exact do_new b m g I i hi8 s k key x id hs hk hid hx hr hf c2 w h
     ·have h1 : doL g ⟨(i : Int) + 1, s, ⟨k, key, x, id⟩⟩ = tick g := by unfold doL; rw [if_neg he', if_neg (by rw [hn]; simp), hix, if_neg c1, if_neg c2]
      have h2 : doR g ⟨(i : Int) + 1, s, ⟨k, key, x, id⟩⟩ = ⟨(g.cl i).code, (g.cl i).real⟩ := by unfold doR; rw [if_neg he', if_neg (by rw [hn]; simp), hix, if_neg c1, if_neg c2]
      rw [he, h1, h2]
      exact do_again b m g I i hi8 s k key x id hs hk hid hx hr hf (by omega) w h
   ·have h1 : doL g ⟨c, s, ⟨k, key, x, id⟩⟩ = tick g := by unfold doL; rw [if_neg he', if_pos hn]
    have h2 : doR g ⟨c, s, ⟨k, key, x, id⟩⟩ = ⟨8, 0⟩ := by unfold doR; rw [if_neg he', if_pos hn]
    rw [he, h1, h2]
    exact do_null b m g I c s k key x id hc hs hk hid hn hf w h
  ·have he : doE g ⟨c, s, ⟨k, key, x, id⟩⟩ = 18 := by unfold doE; rw [if_neg ha, hf]; rfl
   have h1 : doL g ⟨c, s, ⟨k, key, x, id⟩⟩ = g := by unfold doL; rw [if_pos (by rw [he]; decide)]
   have h2 : doR g ⟨c, s, ⟨k, key, x, id⟩⟩ = ⟨0, 0⟩ := by unfold doR; rw [if_pos (by rw [he]; decide)]
   rw [he, h1, h2]
   exact (do_full b m g I c s k key x id hc hs hk hid hrn hf w h).mono fun e w' ⟨q1, q2⟩ => ⟨q1, q2.ofNon, h.extN q2⟩
end Go.Proofs.YtfefeepljbfcdaaGreat

/- The small functions of the statements of layer 12. -/
namespace Go.Proofs.YtfefeepljbfcdaaGreat
open Go.RowKit F64
set_option linter.unusedSimpArgs false
set_option linter.unusedVariables false
attribute [local go_sem] run_store_float
set_option maxHeartbeats 1000000 in
set_option maxRecDepth 100000 in
theorem ask_Request (c s k : Int) (key : ByteArray) (n id : Int) (w : World) : Calls Tryz.prog 21 #[.agg #[.int .i64 c, .int .i64 s, .int .i64 k, .string key, .int .u64 n, .int .i64 id]] w fun e w' =>
  e = .returned (.agg #[.int .i64 c, .int .i64 s, .int .i64 k, .string key, .float .f64 n.toNat, .int .i64 id]) ∧ Ext Non w w' := by
 go_enter Tryz.func21, Tryz.ntmps21
 go_wp2_with fail
 go_region
 all_goals go_wp2
 all_goals refine bodyPost_ret (by simp [results, Tryz.results21, go_sem]; try rfl) rfl ?_
 all_goals exact ⟨rfl, (((Ext.refl _ _).alloc _).alloc _).drew⟩
theorem Ints.tail_eq {xs ys : List Int} {i : Nat} (hl : xs.length = ys.length) (h : xs.take i = ys.take i) (hi : i < xs.length) (e : xs[i] = ys[i]'(by omega)) : xs.take (i + 1) = ys.take (i + 1) := by
 rw [List.take_succ_eq_append_getElem hi, List.take_succ_eq_append_getElem (by omega), h, e]
theorem ref_SameInts (a1 : Option Addr) (c1 : Nat) (xs : List Int) (a2 : Option Addr) (c2 : Nat) (ys : List Int) (w : World) (h1 : Ints w a1 c1 xs) (h2 : Ints w a2 c2 ys) : Calls Tryz.prog 26 #[.slice a1 xs.length c1, .slice a2 ys.length c2] w fun e w' =>
  e = .returned (.bool (decide (xs = ys))) ∧ Ext Non w w' := by
 have H1 := hI_ h1
 have H2 := hI_ h2
 have hm := h1.small
 have hm2 := h1.le
 clear h1 h2
 by_cases hl : xs.length = ys.length
 ·have HL := hI_ hl
  rw [← hl]
  have hbe : ((xs.length : Int) == (xs.length : Int)) = true := by simp
  clear hl
  go_enter Tryz.func26, Tryz.ntmps26
  go_wp2
  go_loopw [5] (fun iv wr => ∃ (i : Nat), i ≤ xs.length ∧ iv = .int .i64 i ∧ Ext Non w wr ∧ xs.take i = ys.take i) (fun iv _ => xs.length - (intOf iv).toNat)
  case atStart => exact ⟨0, Nat.zero_le _, rfl, Ext.refl _ _, rfl⟩
  case round =>
   obtain ⟨i, hi, rfl, x, ht⟩ := hrel
   have HT := hI_ ht; clear ht
   have X := hI_ x; clear x
   by_cases hlt : i < xs.length
   ·obtain ⟨b, o, e1, hc, _⟩ := (H1.out.extN X.out).at_ i hlt
    obtain ⟨b', o', e2, hc', _⟩ := (H2.out.extN X.out).at_ i (by have := HL.out; omega)
    subst e1; subst e2
    generalize hx : xs[i] = p at hc
    generalize hy : ys[i]'(by have := HL.out; omega) = q at hc'
    have HX := hI_ hx; have HY := hI_ hy; clear hx hy
    by_cases hpq : p = q
    ·have hb : (p == q) = true := by rw [beq_iff_eq]; exact hpq
     have HP := hI_ hpq; clear hpq
     go_wp2_with fail
     go_region
     go_wp2
     go_roundw
     case rel => exact ⟨i + 1, hlt, by go_num, X.out.drew, Ints.tail_eq HL.out HT.out hlt (by rw [HX.out, HY.out]; exact HP.out)⟩
     case measure => simp [intOf]; omega
    ·have hb : (p == q) = false := by rw [beq_eq_false_iff_ne]; exact hpq
     have HP := hI_ hpq; clear hpq
     go_wp2_with fail
     go_region
     go_wp2
     go_returns
     refine ⟨?_, X.out.drew⟩
     have : decide (xs = ys) = false := decide_eq_false (fun e => HP.out (by rw [← HX.out, ← HY.out]; simp only [e]))
     rw [this]
     rfl
   ·go_wp2
    go_returns
    refine ⟨?_, X.out⟩
    have : decide (xs = ys) = true := decide_eq_true (by
     have := HT.out
     rw [List.take_of_length_le (by omega), List.take_of_length_le (by have := HL.out; omega)] at this
     exact this)
    rw [this]
    rfl
 ·have HL := hI_ hl
  have hb : ((xs.length : Int) == (ys.length : Int)) = false := by rw [beq_eq_false_iff_ne]; omega
  have hb2 : (xs.length == ys.length) = false := by rw [beq_eq_false_iff_ne]; exact hl
  have HF := hI_ (show decide (xs = ys) = false from decide_eq_false (fun e => hl (by rw [e])))
  go_enter Tryz.func26, Tryz.ntmps26
  go_wp2
  go_returns
  exact ⟨by rw [HF.out]; rfl, Ext.refl _ _⟩
end Go.Proofs.YtfefeepljbfcdaaGreat

/- The small functions of the statements of layer 12, continued; lives. -/
namespace Go.Proofs.YtfefeepljbfcdaaGreat
open Go.RowKit F64
set_option linter.unusedSimpArgs false
set_option linter.unusedVariables false
attribute [local go_sem] run_store_float
set_option maxHeartbeats 1000000 in
theorem ref_Same (p1 : Int) (a1 : Option Addr) (c1 : Nat) (xs : List Int) (p2 : Int) (a2 : Option Addr) (c2 : Nat) (ys : List Int) (w : World) (h1 : Ints w a1 c1 xs) (h2 : Ints w a2 c2 ys) :
  Calls Tryz.prog 24 #[.agg #[.int .i64 p1, .slice a1 xs.length c1], .agg #[.int .i64 p2, .slice a2 ys.length c2]] w fun e w' => e = .returned (.bool (decide (p1 = p2) && decide (xs = ys))) ∧ Ext Non w w' := by
 have H1 := hI_ h1
 have H2 := hI_ h2
 clear h1 h2
 by_cases hp : p1 = p2
 ·subst hp
  go_enter Tryz.func24, Tryz.ntmps24
  go_wp2_with fail
  refine (ref_SameInts _ _ _ _ _ _ _ (H1.out.extN (((Ext.refl _ _).alloc _).alloc _)) (H2.out.extN (((Ext.refl _ _).alloc _).alloc _))).mono ?_
  rintro e w1 ⟨rfl, y⟩
  generalize hd : decide (xs = ys) = d
  have HD := hI_ hd; clear hd
  go_wp2
  go_returns
  exact ⟨by simp; exact HD.out.symm, (((Ext.refl _ _).alloc _).alloc _).trans y⟩
 ·have hb : (p1 == p2) = false := by rw [beq_eq_false_iff_ne]; exact hp
  have HF := hI_ (show (decide (p1 = p2) && decide (xs = ys)) = false by rw [decide_eq_false hp]; rfl)
  go_enter Tryz.func24, Tryz.ntmps24
  go_wp2
  go_returns
  exact ⟨by rw [HF.out]; rfl, ((Ext.refl _ _).alloc _).alloc _⟩
theorem ref_SameResult (k1 k2 : Int) (x1 x2 : Nat) (w : World) : Calls Tryz.prog 23 #[.agg #[.int .i64 k1, .float .f64 x1], .agg #[.int .i64 k2, .float .f64 x2]] w fun e w' => e = .returned (.bool (decide (k1 = k2) && decide (canonN x1 = canonN x2))) ∧ Ext Non w w' := by
 by_cases hp : k1 = k2
 ·subst hp
  have hb : (((canonN x1 : Nat) : Int) == ((canonN x2 : Nat) : Int)) = decide (canonN x1 = canonN x2) := by rw [Bool.eq_iff_iff]; simp; omega
  have HF := hI_ (show (decide (k1 = k1) && decide (canonN x1 = canonN x2)) = decide (canonN x1 = canonN x2) by simp)
  go_enter Tryz.func23, Tryz.ntmps23
  go_wp2_with fail
  go_quiet (first | (go_at_call 31; exact quiet_eq (ref_Bits _ _)))
  go_wp2
  go_returns
  exact ⟨by rw [HF.out, ← hb]; rfl, (((Ext.refl _ _).alloc _).alloc _).drewN _⟩
 ·have hb : (k1 == k2) = false := by rw [beq_eq_false_iff_ne]; exact hp
  have HF := hI_ (show (decide (k1 = k2) && decide (canonN x1 = canonN x2)) = false by rw [decide_eq_false hp]; rfl)
  go_enter Tryz.func23, Tryz.ntmps23
  go_wp2_with fail
  go_quiet (fail)
  go_wp2
  go_returns
  exact ⟨by rw [HF.out]; rfl, (((Ext.refl _ _).alloc _).alloc _).drewN _⟩
def l4 : List Int := [0, 1, 2, 3]
def rJoin : Req := ⟨1, 1, ⟨6, ⟨#[]⟩, 0, 4⟩⟩
theorem l4_ok : membersB l4 = true := by decide
theorem lives_do : doE (newL l4) rJoin = 0 ∧ (doR (newL l4) rJoin).code = 0 ∧ (doL (newL l4) rJoin).next.length = 5 ∧ (doL (newL l4) rJoin).done = 1 := by decide +kernel
set_option maxHeartbeats 1000000 in
set_option maxRecDepth 100000 in
theorem law12_lives (w : World) : Calls Tryz.prog 5 #[] w fun e w' => e = .returned (.bool true) ∧ Ext Non w w' := by
 obtain ⟨d1, d2, d3, d4⟩ := lives_do
 have I0 := hI_ (inv_new l4_ok)
 have I1 := hI_ (inv_do I0.out rJoin (by decide)).1
 have ha : Ints (w.alloc (.cells #[.int .i64 0, .int .i64 1, .int .i64 2, .int .i64 3] 3)) (some ⟨w.heap.size, 0, none⟩) 4 l4 := Ints.ofHeap (t := 3) (xs := l4) (heap_alloc_new w _) (by decide) (fun x hx => by simp [l4] at hx; unfold I64; omega)
 have A := hI_ ha; clear ha
 have hz : ∀ n : Int, 0 ≤ n → n ≤ 10 → I64 n := fun n h1 h2 => by unfold I64; omega
 have HZ := hI_ hz; clear hz
 have E1 := hI_ d1; have E2 := hI_ d2; have E3 := hI_ d3; have E4 := hI_ d4
 clear d1 d2 d3 d4
 go_enter Tryz.func5, Tryz.ntmps5
 go_wp2_with fail
 refine (ledger_New_ok _ 4 l4 l4_ok _ A.out).mono ?_
 rintro e w1 ⟨b, m, rfl, x1, L1, hb, hm⟩
 have X1 := hI_ (((Ext.refl Non w).alloc (.cells #[.int .i64 0, .int .i64 1, .int .i64 2, .int .i64 3] 3)).trans x1)
 have hb0 : w.heap.size ≤ b := by simp at hb; omega
 have hm0 : w.heap.size ≤ m := by simp at hm; omega
 clear x1 hb hm
 go_wp2_with fail
 refine (ledger_Do b m _ I0.out 1 1 6 ⟨#[]⟩ 0 4 (HZ.out _ (by decide) (by decide)) (HZ.out _ (by decide) (by decide)) (HZ.out _ (by decide) (by decide)) (HZ.out _ (by decide) (by decide)) (by decide) _ L1).mono ?_
 rintro e w2 ⟨rfl, x2, L2⟩
 rw [show doE (newL l4) ⟨1, 1, ⟨6, ⟨#[]⟩, 0, 4⟩⟩ = 0 from E1.out, show (doR (newL l4) ⟨1, 1, ⟨6, ⟨#[]⟩, 0, 4⟩⟩).code = 0 from E2.out]
 generalize (doR (newL l4) ⟨1, 1, ⟨6, ⟨#[]⟩, 0, 4⟩⟩).real = rl
 have L2' := hI_ L2
 have X2 := hI_ (X1.out.step x2 (fun k hk s => by rcases s with s | s <;> omega))
 clear x2 L2 L1
 have AL : Ext Non w2 (w2.alloc (.cells #[.int .i64 0, .float .f64 rl] 48)) := (Ext.refl _ _).alloc _
 go_wp2_with fail
 refine (ledger_Next b m _ I1.out _ (L2'.out.extN AL)).mono ?_
 rintro e w3 ⟨a3, c3, rfl, x3, _, _⟩
 rw [show (doL (newL l4) rJoin).next.length = 5 from E3.out]
 go_wp2_with fail
 refine (ledger_Done b m _ _ ((L2'.out.extN AL).extN x3)).mono ?_
 rintro e w4 ⟨rfl, rfl⟩
 rw [show (doL (newL l4) ⟨1, 1, ⟨6, ⟨#[]⟩, 0, 4⟩⟩).done = 1 from E4.out]
 go_wp2
 go_returns
 exact ⟨rfl, (X2.out.trans AL).trans x3⟩
end Go.Proofs.YtfefeepljbfcdaaGreat
