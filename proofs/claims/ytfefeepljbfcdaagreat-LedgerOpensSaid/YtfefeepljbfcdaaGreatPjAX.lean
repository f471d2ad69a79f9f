/- Joined texts: LedgZ3. What each proves stands at its head; no conditions beside those in its theorems. -/
import Derived.Test.YtfefeepljbfcdaaGreatPjAW
/- Contracts of layer 12 (ledger), Do: for ledgers whose rows do not lie in a given block. Printed by wip/genz.py. -/
namespace Go.Proofs.YtfefeepljbfcdaaGreat.Z
open Go.RowKit F64
set_option linter.unusedSimpArgs false
set_option linter.unusedVariables false
attribute [local go_sem] run_store_float
variable {zn : Nat}
theorem ledger_apply (b m : Nat) (g : Lg) (I : Inv g) (k : Int) (key : ByteArray) (x : Nat) (id : Int) (ho : opB ⟨k, key, x, id⟩ = true) (hx : x < 18446744073709551616) (w : World) (h : LD zn w b m g) :
  Calls Tryz.prog 55 #[.pointer (some ⟨b, 0, none⟩), .agg #[.int .i64 k, .string key, .float .f64 x, .int .i64 id]] w fun e w' =>
  e = .returned (.agg #[.int .i64 (applyR g ⟨k, key, x, id⟩).code, .float .f64 (applyR g ⟨k, key, x, id⟩).real]) ∧ Ext (Two b m) w w' ∧ LD zn w' b m (applyL g ⟨k, key, x, id⟩) := by
 have hks : k = 1 ∨ k = 2 ∨ k = 3 ∨ k = 4 ∨ k = 5 ∨ k = 6 ∨ k = 7 := by
  unfold opB at ho
  simp only at ho
  split at ho
  ·omega
  ·split at ho
   ·omega
   ·split at ho
    ·omega
    ·cases ho
 have h67 : (k = 6 ∨ k = 7) ∨ (k ≠ 6 ∧ k ≠ 7) := by omega
 rcases h67 with h67 | ⟨h6, h7⟩
 ·rcases h67 with rfl | rfl
  ·exact apply_join b m g key x id w h
  ·exact apply_leave b m g key x id w h
 ·rw [applyL_key g ⟨k, key, x, id⟩ h6 h7, applyR_key g ⟨k, key, x, id⟩ h6 h7]
  simp only
  cases hk : hasK g.keys key
  ·simp only [Bool.false_eq_true, if_false]
   by_cases h1 : k = 1
   ·subst h1
    simp only [if_true]
    by_cases hn : g.keys.length = 16
    ·rw [if_pos hn, if_pos hn]
     exact (apply_full b m g 1 key x id w h hk rfl hn).mono fun e w' ⟨h1, h2⟩ => ⟨h1, h2.ofNon, h.extN h2⟩
    ·rw [if_neg hn, if_neg hn]
     exact apply_new b m g key x id w h hk hn
   ·rw [if_neg h1, if_neg h1]
    exact (apply_none b m g k key x id w h hk (by omega)).mono fun e w' ⟨h1, h2⟩ => ⟨h1, h2.ofNon, h.extN h2⟩
  ·simp only [if_true]
   have hv := (val_ok I key).1
   rcases hks with rfl | rfl | rfl | rfl | rfl | rfl | rfl
   ·exact apply_put b m g key x id w h hk
   ·exact apply_add b m g key x id w h hk
   ·exact apply_max b m g key x id w h hk hv hx
   ·exact apply_cut b m g key x id w h hk
   ·exact apply_get b m g key x id w h hk
   ·exact absurd rfl h6
   ·exact absurd rfl h7
theorem do_end {w w3 : World} {b m : Nat} {c s k : Int} {key : ByteArray} {x : Nat} {id : Int} {S : Nat → Prop} {g' : Lg} (v0 v1 : Value) (h : DoW w w3 c s k key x id) (y : Ext S w w3) (hb : b < w.heap.size) (hm : m < w.heap.size) (L : LD zn w3 b m g') :
  Ext S w ((w3.setCell ⟨w.heap.size + 1, 0, none⟩ v0).setCell ⟨w.heap.size + 1, 1, none⟩ v1) ∧ LD zn ((w3.setCell ⟨w.heap.size + 1, 0, none⟩ v0).setCell ⟨w.heap.size + 1, 1, none⟩ v1) b m g' := by
 have z : Ext (One (w.heap.size + 1)) w3 ((w3.setCell ⟨w.heap.size + 1, 0, none⟩ v0).setCell ⟨w.heap.size + 1, 1, none⟩ v1) := ((Ext.refl _ w3).set1 _).set1 _
 refine ⟨y.step z (fun i hi s => ?_), L.ext z (fun s => ?_) (fun s => ?_) h.noInts⟩
 ·have s : i = w.heap.size + 1 := s; omega
 ·have s : b = w.heap.size + 1 := s; omega
 ·have s : m = w.heap.size + 1 := s; omega
theorem tick_row {w1 : World} {b m : Nat} {g : Lg} (n : Nat) (L1 : LD zn w1 b m g) : ∃ a1 c1 a2 c2, (w1.drewN n).cell? ⟨b, 3, none⟩ = some (.int .i64 g.done) ∧ (w1.drewN n).frozen? ⟨b, 3, none⟩ = false ∧
  LRow ((w1.drewN n).setCell ⟨b, 3, none⟩ (.int .i64 (g.done + 1))) b m (tick g) a1 c1 a2 c2 ∧ LD zn ((w1.drewN n).setCell ⟨b, 3, none⟩ (.int .i64 (g.done + 1))) b m (tick g) := by
 obtain ⟨a1, c1, a2, c2, r, i1, i2, f1, f2⟩ := L1.ex
 have r2 : LRow (w1.drewN n) b m g a1 c1 a2 c2 := r
 have r3 : LRow ((w1.drewN n).setCell ⟨b, 3, none⟩ (.int .i64 (g.done + 1))) b m (tick g) a1 c1 a2 c2 := heap_set_same (k := 3) r2 _
 exact ⟨a1, c1, a2, c2, cell_of_heap r2 rfl, froz_of_heap r2, r3, L1.set (((Ext.refl _ _).drewN n).set1 _) r3 i1 i2 f1 f2 rfl⟩
set_option maxHeartbeats 1000000 in
set_option maxRecDepth 100000 in
theorem do_full (b m : Nat) (g : Lg) (I : Inv g) (c s k : Int) (key : ByteArray) (x : Nat) (id : Int) (hc : I64 c) (hs : I64 s) (hk : I64 k) (hid : I64 id)
  (h0 : rightB ⟨c, s, ⟨k, key, x, id⟩⟩ = true ∨ nullB ⟨c, s, ⟨k, key, x, id⟩⟩ = true) (hf : fullB g = true) (w : World) (h : LD zn w b m g) :
  Calls Tryz.prog 13 #[.pointer (some ⟨b, 0, none⟩), .agg #[.int .i64 c, .int .i64 s, .int .i64 k, .string key, .float .f64 x, .int .i64 id]] w fun e w' =>
  e = .returned (.tuple #[.agg #[.int .i64 0, .float .f64 0], .int .i64 18]) ∧ Ext Non w w' := by
 have DW := hI_ (DoW.of (w := w) (c := c) (s := s) (k := k) (key := key) (x := x) (id := id))
 have A1 := hI_ (show Ext Non w (doBase w c s k key x id) from ((Ext.refl _ _).alloc _).alloc _)
 have II := hI_ I
 have HH := hI_ h
 have HF := hI_ hf
 have I4 := hI_ (And.intro hc (And.intro hs (And.intro hk hid)))
 cases h1 : rightB ⟨c, s, ⟨k, key, x, id⟩⟩
 ·have h2 : nullB ⟨c, s, ⟨k, key, x, id⟩⟩ = true := h0.resolve_left (by rw [h1]; simp)
  have H1 := hI_ h1; have H2 := hI_ h2
  clear h0 h1 h2 hc hs hk hid I h hf
  go_enter Tryz.func13, Tryz.ntmps13
  go_wp2_with fail
  refine (deeds_Right c s k key x id _).mono ?_
  rintro e w1 ⟨rfl, y1⟩
  rw [H1.out]
  have D1 := DW.out.ext y1 (fun f => f) (fun f => f)
  obtain ⟨q0, q1, q2, q3, q4, q5⟩ := D1.cells
  go_wp2_with fail
  refine (deeds_Null c s k key x id I4.out.1 I4.out.2.1 I4.out.2.2.1 I4.out.2.2.2 _).mono ?_
  rintro e w2 ⟨rfl, y2⟩
  rw [H2.out]
  have D2 := hI_ (D1.ext y2 (fun f => f) (fun f => f))
  have A2 := hI_ ((A1.out.trans y1).trans y2)
  clear D1 q0 q1 q2 q3 q4 q5 y1 y2
  go_wp2_with fail
  refine (ledger_Full b m g II.out _ (HH.out.extN A2.out)).mono ?_
  rintro e w3 ⟨rfl, n, rfl⟩
  rw [HF.out]
  obtain ⟨p1, p2, p3, p4⟩ := (D2.out.ext ((Ext.refl Non _).drewN n) (fun f => f) (fun f => f)).res
  obtain ⟨y00, y0', y1'⟩ := res2 (v0 := .int .i64 0) (v1 := .float .f64 0) p1 p2
  go_wp2
  refine bodyPost_ret (by simp [results, Tryz.results13, go_sem, y00, y0', y1']; try rfl) rfl ?_
  exact ⟨rfl, ((A2.out.drewN n).setCell (.inr (Nat.le_succ _)) _).setCell (.inr (Nat.le_succ _)) _⟩
 ·have H1 := hI_ h1
  clear h0 h1 hc hs hk hid I h hf
  go_enter Tryz.func13, Tryz.ntmps13
  go_wp2_with fail
  refine (deeds_Right c s k key x id _).mono ?_
  rintro e w1 ⟨rfl, y1⟩
  rw [H1.out]
  have D2 := hI_ (DW.out.ext y1 (fun f => f) (fun f => f))
  have A2 := hI_ (A1.out.trans y1)
  clear y1
  go_wp2_with fail
  refine (ledger_Full b m g II.out _ (HH.out.extN A2.out)).mono ?_
  rintro e w3 ⟨rfl, n, rfl⟩
  rw [HF.out]
  obtain ⟨p1, p2, p3, p4⟩ := (D2.out.ext ((Ext.refl Non _).drewN n) (fun f => f) (fun f => f)).res
  obtain ⟨y00, y0', y1'⟩ := res2 (v0 := .int .i64 0) (v1 := .float .f64 0) p1 p2
  go_wp2
  refine bodyPost_ret (by simp [results, Tryz.results13, go_sem, y00, y0', y1']; try rfl) rfl ?_
  exact ⟨rfl, ((A2.out.drewN n).setCell (.inr (Nat.le_succ _)) _).setCell (.inr (Nat.le_succ _)) _⟩
set_option maxHeartbeats 1000000 in
set_option maxRecDepth 100000 in
theorem do_null (b m : Nat) (g : Lg) (I : Inv g) (c s k : Int) (key : ByteArray) (x : Nat) (id : Int) (hc : I64 c) (hs : I64 s) (hk : I64 k) (hid : I64 id)
  (h2 : nullB ⟨c, s, ⟨k, key, x, id⟩⟩ = true) (hf : fullB g = false) (w : World) (h : LD zn w b m g) :
  Calls Tryz.prog 13 #[.pointer (some ⟨b, 0, none⟩), .agg #[.int .i64 c, .int .i64 s, .int .i64 k, .string key, .float .f64 x, .int .i64 id]] w fun e w' =>
  e = .returned (.tuple #[.agg #[.int .i64 8, .float .f64 0], .int .i64 0]) ∧ Ext (Two b m) w w' ∧ LD zn w' b m (tick g) := by
 have DW := hI_ (DoW.of (w := w) (c := c) (s := s) (k := k) (key := key) (x := x) (id := id))
 have A1 := hI_ (show Ext Non w (doBase w c s k key x id) from ((Ext.refl _ _).alloc _).alloc _)
 have II := hI_ I
 have HH := hI_ h
 have HF := hI_ hf
 have I4 := hI_ (And.intro hc (And.intro hs (And.intro hk hid)))
 have H1 := hI_ (null_not_right h2)
 have H2 := hI_ h2
 have wr : IntKind.i64.wrap (g.done + 1) = g.done + 1 := by have := I.ep; have := I.dn; exact IntWalk.i64_in _ (by omega)
 have hlt := h.lt
 have hml := h.mp.lt
 clear h2 hc hs hk hid I h hf
 go_enter Tryz.func13, Tryz.ntmps13
 go_wp2_with fail
 refine (deeds_Right c s k key x id _).mono ?_
 rintro e w1 ⟨rfl, y1⟩
 rw [H1.out]
 have D1 := DW.out.ext y1 (fun f => f) (fun f => f)
 obtain ⟨q0, q1, q2, q3, q4, q5⟩ := D1.cells
 go_wp2_with fail
 refine (deeds_Null c s k key x id I4.out.1 I4.out.2.1 I4.out.2.2.1 I4.out.2.2.2 _).mono ?_
 rintro e w2 ⟨rfl, y2⟩
 rw [H2.out]
 have D2 := hI_ (D1.ext y2 (fun f => f) (fun f => f))
 have A2 := hI_ ((A1.out.trans y1).trans y2)
 clear D1 q0 q1 q2 q3 q4 q5 y1 y2
 have L2 := hI_ (HH.out.extN A2.out)
 go_wp2_with fail
 refine (ledger_Full b m g II.out _ L2.out).mono ?_
 rintro e w3 ⟨rfl, n, rfl⟩
 rw [HF.out]
 obtain ⟨a1, c1, a2, c2, t1, t2, t3, t4⟩ := tick_row n L2.out
 have T4 := hI_ t4; clear t3 t4
 have x3 : Ext (One b) w2 ((w2.drewN n).setCell ⟨b, 3, none⟩ (.int .i64 (g.done + 1))) := ((Ext.refl _ _).drewN n).set1 _
 have D3 := hI_ (D2.out.ext x3 (fun s => by have s : w.heap.size = b := s; omega) (fun s => by have s : w.heap.size + 1 = b := s; omega))
 have X3 := hI_ x3; clear x3
 obtain ⟨q0, q1, q2, q3, q4, q5⟩ := D3.out.cells
 go_wp2_with fail
 refine (deeds_Null c s k key x id I4.out.1 I4.out.2.1 I4.out.2.2.1 I4.out.2.2.2 _).mono ?_
 rintro e w5 ⟨rfl, y5⟩
 rw [H2.out]
 clear q0 q1 q2 q3 q4 q5 t1 t2
 have D5 := hI_ (D3.out.ext y5 (fun f => f) (fun f => f))
 obtain ⟨p1, p2, p3, p4⟩ := D5.out.res
 obtain ⟨y00, y0', y1'⟩ := res2 (v0 := .int .i64 8) (v1 := .float .f64 0) p1 p2
 have L5 := hI_ (T4.out.extN y5)
 have Y5 := hI_ (((A2.out.ofNon (S := Two b m)).step X3.out (fun k _ s => .inl s)).trans y5.ofNon)
 clear y5
 go_wp2
 refine bodyPost_ret (by simp [results, Tryz.results13, go_sem, y00, y0', y1']; try rfl) rfl ?_
 obtain ⟨E1, E2⟩ := do_end (.int .i64 8) (.float .f64 0) D5.out Y5.out hlt hml L5.out
 exact ⟨rfl, E1, E2⟩
theorem cl_cells {w5 : World} {b m : Nat} {g : Lg} (L : LD zn w5 b m g) {i : Nat} (hi : i < 8) : w5.cell? ⟨b, 5 + i * 3, none⟩ = some (.int .i64 (g.cl i).stamp) ∧ w5.cell? ⟨b, 5 + i * 3 + 1, none⟩ = some (.int .i64 (g.cl i).code) ∧ w5.cell? ⟨b, 5 + i * 3 + 2, none⟩ = some (.float .f64 (g.cl i).real) ∧
  w5.frozen? ⟨b, 5 + i * 3, none⟩ = false ∧ w5.frozen? ⟨b, 5 + i * 3 + 1, none⟩ = false ∧ w5.frozen? ⟨b, 5 + i * 3 + 2, none⟩ = false := by
 obtain ⟨a1, c1, a2, c2, r, _⟩ := L.ex
 obtain ⟨r0, r1, r2⟩ := cl_at g a1 c1 a2 c2 m hi
 exact ⟨cell_of_heap r r0, cell_of_heap r r1, cell_of_heap r r2, froz_of_heap r, froz_of_heap r, froz_of_heap r⟩
theorem cl_put {w6 : World} {b m : Nat} {g : Lg} (L : LD zn w6 b m g) {i : Nat} (hi : i < 8) (c : Cl) : LD zn (clPut w6 b i c) b m (setCl g i c) ∧ Ext (One b) w6 (clPut w6 b i c) := by
 obtain ⟨a1, c1, a2, c2, r, i1, i2, f1, f2⟩ := L.ex
 have r1 := heap_set_same (k := 5 + i * 3) r (.int .i64 c.stamp)
 have r2 := heap_set_same (k := 5 + i * 3 + 1) r1 (.int .i64 c.code)
 have r3 := heap_set_same (k := 5 + i * 3 + 2) r2 (.float .f64 c.real)
 rw [cl_set g a1 c1 a2 c2 m hi c] at r3
 have x : Ext (One b) w6 (clPut w6 b i c) := (((Ext.refl _ _).set1 _).set1 _).set1 _
 exact ⟨L.set x r3 i1 i2 f1 f2 rfl, x⟩
set_option maxHeartbeats 1000000 in
set_option maxRecDepth 100000 in
theorem do_old (b m : Nat) (g : Lg) (I : Inv g) (i : Nat) (hi : i < 8) (s k : Int) (key : ByteArray) (x : Nat) (id : Int) (hs : I64 s) (hk : I64 k) (hid : I64 id) (hx : x < 18446744073709551616)
  (h1 : rightB ⟨(i : Int) + 1, s, ⟨k, key, x, id⟩⟩ = true) (hf : fullB g = false) (hst : s < (g.cl i).stamp) (w : World) (h : LD zn w b m g) :
  Calls Tryz.prog 13 #[.pointer (some ⟨b, 0, none⟩), .agg #[.int .i64 ((i : Int) + 1), .int .i64 s, .int .i64 k, .string key, .float .f64 x, .int .i64 id]] w fun e w' =>
  e = .returned (.tuple #[.agg #[.int .i64 7, .float .f64 0], .int .i64 0]) ∧ Ext (Two b m) w w' ∧ LD zn w' b m (tick g) := by
 have DW := hI_ (DoW.of (w := w) (c := (i : Int) + 1) (s := s) (k := k) (key := key) (x := x) (id := id))
 have A1 := hI_ (show Ext Non w (doBase w ((i : Int) + 1) s k key x id) from ((Ext.refl _ _).alloc _).alloc _)
 have II := hI_ I
 have HH := hI_ h
 have HF := hI_ hf
 have hc : I64 ((i : Int) + 1) := by unfold I64; omega
 have I4 := hI_ (And.intro hc (And.intro hs (And.intro hk hid)))
 have H1 := hI_ h1
 have h2 : nullB ⟨(i : Int) + 1, s, ⟨k, key, x, id⟩⟩ = false := by
  cases hn : nullB ⟨(i : Int) + 1, s, ⟨k, key, x, id⟩⟩
  ·rfl
  ·rw [null_not_right hn] at h1; cases h1
 have H2 := hI_ h2
 have HO := hI_ (rightB_facts h1).2.2.2.2
 have wr : IntKind.i64.wrap (g.done + 1) = g.done + 1 := by have := I.ep; have := I.dn; exact IntWalk.i64_in _ (by omega)
 have wi : IntKind.i64.wrap ((i : Int) + 1 - 1) = (i : Int) := by rw [show (i : Int) + 1 - 1 = i from by omega]; exact IntWalk.i64_in _ (by omega)
 have hlt := h.lt
 have hml := h.mp.lt
 have HST := hI_ hst
 clear h1 h2 hc hs hk hid I h hf hst
 go_enter Tryz.func13, Tryz.ntmps13
 go_wp2_with fail
 refine (deeds_Right _ s k key x id _).mono ?_
 rintro e w1 ⟨rfl, y1⟩
 rw [H1.out]
 have D2 := hI_ (DW.out.ext y1 (fun f => f) (fun f => f))
 have A2 := hI_ (A1.out.trans y1)
 clear y1
 have L2 := hI_ (HH.out.extN A2.out)
 go_wp2_with fail
 refine (ledger_Full b m g II.out _ L2.out).mono ?_
 rintro e w3 ⟨rfl, n, rfl⟩
 rw [HF.out]
 obtain ⟨a1, c1, a2, c2, t1, t2, t3, t4⟩ := tick_row n L2.out
 have T4 := hI_ t4; clear t3 t4
 have x3 : Ext (One b) w1 ((w1.drewN n).setCell ⟨b, 3, none⟩ (.int .i64 (g.done + 1))) := ((Ext.refl _ _).drewN n).set1 _
 have D3 := hI_ (D2.out.ext x3 (fun s => by have s : w.heap.size = b := s; omega) (fun s => by have s : w.heap.size + 1 = b := s; omega))
 have X3 := hI_ x3; clear x3
 obtain ⟨q0, q1, q2, q3, q4, q5⟩ := D3.out.cells
 go_wp2_with fail
 refine (deeds_Null _ s k key x id I4.out.1 I4.out.2.1 I4.out.2.2.1 I4.out.2.2.2 _).mono ?_
 rintro e w5 ⟨rfl, y5⟩
 rw [H2.out]
 clear q0 q1 q2 q3 q4 q5 t1 t2
 have D5 := hI_ (D3.out.ext y5 (fun f => f) (fun f => f))
 have L5 := hI_ (T4.out.extN y5)
 have Y5 := hI_ (((A2.out.ofNon (S := Two b m)).step X3.out (fun k _ s => .inl s)).trans y5.ofNon)
 clear y5
 obtain ⟨q0, q1, q2, q3, q4, q5⟩ := D5.out.cells
 obtain ⟨v0, v1, v2, z0, z1, z2⟩ := cl_cells L5.out hi
 have u0 : w5.cell? ⟨b, 5 + i * 3, none⟩ = some (.int .i64 (g.cl i).stamp) := v0
 have u1 : w5.cell? ⟨b, 5 + i * 3 + 1, none⟩ = some (.int .i64 (g.cl i).code) := v1
 have u2 : w5.cell? ⟨b, 5 + i * 3 + 2, none⟩ = some (.float .f64 (g.cl i).real) := v2
 clear v0 v1 v2
 obtain ⟨p1, p2, p3, p4⟩ := D5.out.res
 have hst := HST.out; clear HST
 obtain ⟨y00, y0', y1'⟩ := res2 (v0 := .int .i64 7) (v1 := .float .f64 0) p1 p2
 generalize (g.cl i).stamp = st at *
 have hd := decide_eq_true hst
 clear hst
 go_wp2_with fail
 go_region
 go_wp2_with fail
 go_region
 go_wp2
 refine bodyPost_ret (by simp [results, Tryz.results13, go_sem, y00, y0', y1']; try rfl) rfl ?_
 obtain ⟨E1, E2⟩ := do_end (.int .i64 7) (.float .f64 0) D5.out Y5.out hlt hml L5.out
 exact ⟨rfl, E1.drewN 2, E2.extN ((Ext.refl _ _).drewN 2)⟩
set_option maxHeartbeats 1000000 in
set_option maxRecDepth 100000 in
theorem do_again (b m : Nat) (g : Lg) (I : Inv g) (i : Nat) (hi : i < 8) (s k : Int) (key : ByteArray) (x : Nat) (id : Int) (hs : I64 s) (hk : I64 k) (hid : I64 id) (hx : x < 18446744073709551616)
  (h1 : rightB ⟨(i : Int) + 1, s, ⟨k, key, x, id⟩⟩ = true) (hf : fullB g = false) (hst : s = (g.cl i).stamp) (w : World) (h : LD zn w b m g) :
  Calls Tryz.prog 13 #[.pointer (some ⟨b, 0, none⟩), .agg #[.int .i64 ((i : Int) + 1), .int .i64 s, .int .i64 k, .string key, .float .f64 x, .int .i64 id]] w fun e w' =>
  e = .returned (.tuple #[.agg #[.int .i64 (g.cl i).code, .float .f64 (g.cl i).real], .int .i64 0]) ∧ Ext (Two b m) w w' ∧ LD zn w' b m (tick g) := by
 have DW := hI_ (DoW.of (w := w) (c := (i : Int) + 1) (s := s) (k := k) (key := key) (x := x) (id := id))
 have A1 := hI_ (show Ext Non w (doBase w ((i : Int) + 1) s k key x id) from ((Ext.refl _ _).alloc _).alloc _)
 have II := hI_ I
 have HH := hI_ h
 have HF := hI_ hf
 have hc : I64 ((i : Int) + 1) := by unfold I64; omega
 have I4 := hI_ (And.intro hc (And.intro hs (And.intro hk hid)))
 have H1 := hI_ h1
 have h2 : nullB ⟨(i : Int) + 1, s, ⟨k, key, x, id⟩⟩ = false := by
  cases hn : nullB ⟨(i : Int) + 1, s, ⟨k, key, x, id⟩⟩
  ·rfl
  ·rw [null_not_right hn] at h1; cases h1
 have H2 := hI_ h2
 have HO := hI_ (rightB_facts h1).2.2.2.2
 have wr : IntKind.i64.wrap (g.done + 1) = g.done + 1 := by have := I.ep; have := I.dn; exact IntWalk.i64_in _ (by omega)
 have wi : IntKind.i64.wrap ((i : Int) + 1 - 1) = (i : Int) := by rw [show (i : Int) + 1 - 1 = i from by omega]; exact IntWalk.i64_in _ (by omega)
 have hlt := h.lt
 have hml := h.mp.lt
 have HST := hI_ hst
 clear h1 h2 hc hs hk hid I h hf hst
 go_enter Tryz.func13, Tryz.ntmps13
 go_wp2_with fail
 refine (deeds_Right _ s k key x id _).mono ?_
 rintro e w1 ⟨rfl, y1⟩
 rw [H1.out]
 have D2 := hI_ (DW.out.ext y1 (fun f => f) (fun f => f))
 have A2 := hI_ (A1.out.trans y1)
 clear y1
 have L2 := hI_ (HH.out.extN A2.out)
 go_wp2_with fail
 refine (ledger_Full b m g II.out _ L2.out).mono ?_
 rintro e w3 ⟨rfl, n, rfl⟩
 rw [HF.out]
 obtain ⟨a1, c1, a2, c2, t1, t2, t3, t4⟩ := tick_row n L2.out
 have T4 := hI_ t4; clear t3 t4
 have x3 : Ext (One b) w1 ((w1.drewN n).setCell ⟨b, 3, none⟩ (.int .i64 (g.done + 1))) := ((Ext.refl _ _).drewN n).set1 _
 have D3 := hI_ (D2.out.ext x3 (fun s => by have s : w.heap.size = b := s; omega) (fun s => by have s : w.heap.size + 1 = b := s; omega))
 have X3 := hI_ x3; clear x3
 obtain ⟨q0, q1, q2, q3, q4, q5⟩ := D3.out.cells
 go_wp2_with fail
 refine (deeds_Null _ s k key x id I4.out.1 I4.out.2.1 I4.out.2.2.1 I4.out.2.2.2 _).mono ?_
 rintro e w5 ⟨rfl, y5⟩
 rw [H2.out]
 clear q0 q1 q2 q3 q4 q5 t1 t2
 have D5 := hI_ (D3.out.ext y5 (fun f => f) (fun f => f))
 have L5 := hI_ (T4.out.extN y5)
 have Y5 := hI_ (((A2.out.ofNon (S := Two b m)).step X3.out (fun k _ s => .inl s)).trans y5.ofNon)
 clear y5
 obtain ⟨q0, q1, q2, q3, q4, q5⟩ := D5.out.cells
 obtain ⟨v0, v1, v2, z0, z1, z2⟩ := cl_cells L5.out hi
 have u0 : w5.cell? ⟨b, 5 + i * 3, none⟩ = some (.int .i64 (g.cl i).stamp) := v0
 have u1 : w5.cell? ⟨b, 5 + i * 3 + 1, none⟩ = some (.int .i64 (g.cl i).code) := v1
 have u2 : w5.cell? ⟨b, 5 + i * 3 + 2, none⟩ = some (.float .f64 (g.cl i).real) := v2
 clear v0 v1 v2
 obtain ⟨p1, p2, p3, p4⟩ := D5.out.res
 have hst := HST.out; clear HST
 obtain ⟨cd, ecd⟩ : ∃ c, c = (g.cl i).code := ⟨_, rfl⟩
 obtain ⟨rl, erl⟩ : ∃ c, c = (g.cl i).real := ⟨_, rfl⟩
 rw [← ecd] at u1; rw [← erl] at u2; rw [← hst] at u0
 have EC := hI_ ecd; have ER := hI_ erl; clear ecd erl hst
 obtain ⟨y00, y0', y1'⟩ := res2 (v0 := .int .i64 cd) (v1 := .float .f64 rl) p1 p2
 go_wp2_with fail
 go_region
 go_wp2_with fail
 go_region
 go_wp2_with fail
 go_region
 go_wp2
 refine bodyPost_ret (by simp [results, Tryz.results13, go_sem, y00, y0', y1']; try rfl) rfl ?_
 obtain ⟨E1, E2⟩ := do_end (.int .i64 cd) (.float .f64 rl) D5.out Y5.out hlt hml L5.out
 rw [← EC.out, ← ER.out]
 exact ⟨rfl, E1.drewN 3, E2.extN ((Ext.refl _ _).drewN 3)⟩
set_option maxHeartbeats 1000000 in
set_option maxRecDepth 100000 in
theorem do_new (b m : Nat) (g : Lg) (I : Inv g) (i : Nat) (hi : i < 8) (s k : Int) (key : ByteArray) (x : Nat) (id : Int) (hs : I64 s) (hk : I64 k) (hid : I64 id) (hx : x < 18446744073709551616)
    (h1 : rightB ⟨(i : Int) + 1, s, ⟨k, key, x, id⟩⟩ = true) (hf : fullB g = false) (hst : (g.cl i).stamp < s) (w : World) (h : LD zn w b m g) :
    Calls Tryz.prog 13 #[.pointer (some ⟨b, 0, none⟩), .agg #[.int .i64 ((i : Int) + 1), .int .i64 s, .int .i64 k, .string key, .float .f64 x, .int .i64 id]] w fun e w' =>
    e = .returned (.tuple #[.agg #[.int .i64 (applyR (tick g) ⟨k, key, x, id⟩).code, .float .f64 (applyR (tick g) ⟨k, key, x, id⟩).real], .int .i64 0]) ∧ Ext (Two b m) w w' ∧ LD zn w' b m (setCl (applyL (tick g) ⟨k, key, x, id⟩) i ⟨s, (applyR (tick g) ⟨k, key, x, id⟩).code, (applyR (tick g) ⟨k, key, x, id⟩).real⟩) := by
  have DW := hI_ (DoW.of (w := w) (c := (i : Int) + 1) (s := s) (k := k) (key := key) (x := x) (id := id))
  have A1 := hI_ (show Ext Non w (doBase w ((i : Int) + 1) s k key x id) from ((Ext.refl _ _).alloc _).alloc _)
  have II := hI_ I
  have HH := hI_ h
  have HF := hI_ hf
  have hc : I64 ((i : Int) + 1) := by unfold I64; omega
  have I4 := hI_ (And.intro hc (And.intro hs (And.intro hk hid)))
  have H1 := hI_ h1
  have h2 : nullB ⟨(i : Int) + 1, s, ⟨k, key, x, id⟩⟩ = false := by
    cases hn : nullB ⟨(i : Int) + 1, s, ⟨k, key, x, id⟩⟩
    · rfl
    · rw [null_not_right hn] at h1; cases h1
  have H2 := hI_ h2
  have HO := hI_ (rightB_facts h1).2.2.2.2
  have wr : IntKind.i64.wrap (g.done + 1) = g.done + 1 := by have := I.ep; have := I.dn; exact IntWalk.i64_in _ (by omega)
  have wi : IntKind.i64.wrap ((i : Int) + 1 - 1) = (i : Int) := by rw [show (i : Int) + 1 - 1 = i from by omega]; exact IntWalk.i64_in _ (by omega)
  have hlt := h.lt
  have hml := h.mp.lt
  have HST := hI_ hst
  clear h1 h2 hc hs hk hid I h hf hst
  go_enter Tryz.func13, Tryz.ntmps13
  go_wp2_with fail
  refine (deeds_Right _ s k key x id _).mono ?_
  rintro e w1 ⟨rfl, y1⟩
  rw [H1.out]
  have D2 := hI_ (DW.out.ext y1 (fun f => f) (fun f => f))
  have A2 := hI_ (A1.out.trans y1)
  clear y1
  have L2 := hI_ (HH.out.extN A2.out)
  go_wp2_with fail
  refine (ledger_Full b m g II.out _ L2.out).mono ?_
  rintro e w3 ⟨rfl, n, rfl⟩
  rw [HF.out]
  obtain ⟨a1, c1, a2, c2, t1, t2, t3, t4⟩ := tick_row n L2.out
  have T4 := hI_ t4; clear t3 t4
  have x3 : Ext (One b) w1 ((w1.drewN n).setCell ⟨b, 3, none⟩ (.int .i64 (g.done + 1))) := ((Ext.refl _ _).drewN n).set1 _
  have D3 := hI_ (D2.out.ext x3 (fun s => by have s : w.heap.size = b := s; omega) (fun s => by have s : w.heap.size + 1 = b := s; omega))
  have X3 := hI_ x3; clear x3
  obtain ⟨q0, q1, q2, q3, q4, q5⟩ := D3.out.cells
  go_wp2_with fail
  refine (deeds_Null _ s k key x id I4.out.1 I4.out.2.1 I4.out.2.2.1 I4.out.2.2.2 _).mono ?_
  rintro e w5 ⟨rfl, y5⟩
  rw [H2.out]
  clear q0 q1 q2 q3 q4 q5 t1 t2
  have D5 := hI_ (D3.out.ext y5 (fun f => f) (fun f => f))
  have L5 := hI_ (T4.out.extN y5)
  have Y5 := hI_ (((A2.out.ofNon (S := Two b m)).step X3.out (fun k _ s => .inl s)).trans y5.ofNon)
  clear y5
  obtain ⟨q0, q1, q2, q3, q4, q5⟩ := D5.out.cells
  obtain ⟨v0, v1, v2, z0, z1, z2⟩ := cl_cells L5.out hi
  have u0 : w5.cell? ⟨b, 5 + i * 3, none⟩ = some (.int .i64 (g.cl i).stamp) := v0
  have u1 : w5.cell? ⟨b, 5 + i * 3 + 1, none⟩ = some (.int .i64 (g.cl i).code) := v1
  have u2 : w5.cell? ⟨b, 5 + i * 3 + 2, none⟩ = some (.float .f64 (g.cl i).real) := v2
  clear v0 v1 v2
  obtain ⟨p1, p2, p3, p4⟩ := D5.out.res
  have hst := HST.out; clear HST
  have I5 := hI_ (inv_tick II.out HF.out)
  obtain ⟨st, est⟩ : ∃ c, c = (g.cl i).stamp := ⟨_, rfl⟩
  rw [← est] at u0 hst
  have hd1 := decide_eq_false (show ¬ s < st by omega)
  have hd2 := decide_eq_true hst
  clear hst est
  have hb : ∀ w', Ext (Two b m) w5 w' → w'.cell? ⟨w.heap.size, 1, none⟩ = some (.int .i64 s) ∧ w'.cell? ⟨w.heap.size, 2, none⟩ = some (.int .i64 k) ∧ w'.cell? ⟨w.heap.size, 3, none⟩ = some (.string key) ∧
      w'.cell? ⟨w.heap.size, 4, none⟩ = some (.float .f64 x) ∧ w'.cell? ⟨w.heap.size, 5, none⟩ = some (.int .i64 id) := by
    intro w' y
    exact (D5.out.ext y (fun s => by rcases s with s | s <;> omega) (fun s => by rcases s with s | s <;> omega)).cells.2
  have B := hI_ hb; clear hb
  have N0 := (Ext.refl Non w5).drewN 3
  have W0 := (Ext.refl (Two b m) w5).drewN 3
  go_wp2_with fail
  go_region
  go_wp2_with fail
  go_region
  go_wp2_with fail
  go_region
  go_wp2_with fail
  go_region_held3 (fun w' => w'.cell? ⟨w.heap.size, 1, none⟩ = some (.int .i64 s) ∧ w'.cell? ⟨w.heap.size, 2, none⟩ = some (.int .i64 k) ∧ w'.cell? ⟨w.heap.size, 3, none⟩ = some (.string key) ∧
      w'.cell? ⟨w.heap.size, 4, none⟩ = some (.float .f64 x) ∧ w'.cell? ⟨w.heap.size, 5, none⟩ = some (.int .i64 id))
    (first | exact B.out _ (W6.trans ((cl_put L6.out hi ⟨s, (applyR (tick g) ⟨k, key, x, id⟩).code, (applyR (tick g) ⟨k, key, x, id⟩).real⟩).2.mono (fun k _ h => .inl h))) | exact B.out _ (by (first | exact W6 | exact Ext.drew W6 | exact Ext.alloc W6 _ | exact Ext.alloc (Ext.drew W6) _ | exact Ext.drew (Ext.alloc W6 _) | exact Ext.alloc (Ext.alloc W6 _) _ | exact Ext.alloc (Ext.alloc (Ext.drew W6) _) _ | exact Ext.alloc (Ext.drew (Ext.alloc W6 _)) _ | exact Ext.drew (Ext.alloc (Ext.alloc W6 _) _))) | exact B.out _ (by (first | exact W0 | exact Ext.drew W0 | exact Ext.alloc W0 _ | exact Ext.alloc (Ext.drew W0) _ | exact Ext.drew (Ext.alloc W0 _) | exact Ext.alloc (Ext.alloc W0 _) _ | exact Ext.alloc (Ext.alloc (Ext.drew W0) _) _ | exact Ext.alloc (Ext.drew (Ext.alloc W0 _)) _ | exact Ext.drew (Ext.alloc (Ext.alloc W0 _) _))))
    (first
    | (go_at_call 55
       refine Calls.mono (ledger_apply b m (tick g) I5.out k key x id HO.out hx _ (L5.out.extN (by (first | exact N0 | exact Ext.drew N0 | exact Ext.alloc N0 _ | exact Ext.alloc (Ext.drew N0) _ | exact Ext.drew (Ext.alloc N0 _) | exact Ext.alloc (Ext.alloc N0 _) _ | exact Ext.alloc (Ext.alloc (Ext.drew N0) _) _ | exact Ext.alloc (Ext.drew (Ext.alloc N0 _)) _ | exact Ext.drew (Ext.alloc (Ext.alloc N0 _) _))))) ?_
       rintro e w6 ⟨rfl, y6, l6⟩
       have W6 : Ext (Two b m) w5 w6 := (by (first | exact W0 | exact Ext.drew W0 | exact Ext.alloc W0 _ | exact Ext.alloc (Ext.drew W0) _ | exact Ext.drew (Ext.alloc W0 _) | exact Ext.alloc (Ext.alloc W0 _) _ | exact Ext.alloc (Ext.alloc (Ext.drew W0) _) _ | exact Ext.alloc (Ext.drew (Ext.alloc W0 _)) _ | exact Ext.drew (Ext.alloc (Ext.alloc W0 _) _)) : Ext (Two b m) w5 _).trans y6
       obtain ⟨v0, v1, v2, z0, z1, z2⟩ := cl_cells l6 hi
       have L6 := hI_ l6))
  obtain ⟨l7, x7⟩ := cl_put L6.out hi ⟨s, (applyR (tick g) ⟨k, key, x, id⟩).code, (applyR (tick g) ⟨k, key, x, id⟩).real⟩
  clear v0 v1 v2 z0 z1 z2 u0 u1 u2
  obtain ⟨v0, v1, v2, z0, z1, z2⟩ := cl_cells l7 hi
  have ec : (setCl (applyL (tick g) ⟨k, key, x, id⟩) i ⟨s, (applyR (tick g) ⟨k, key, x, id⟩).code, (applyR (tick g) ⟨k, key, x, id⟩).real⟩).cl i = ⟨s, (applyR (tick g) ⟨k, key, x, id⟩).code, (applyR (tick g) ⟨k, key, x, id⟩).real⟩ := if_pos rfl
  rw [ec] at v0 v1 v2
  clear ec
  have L7 := hI_ l7
  have X7 := hI_ (W6.trans (x7.mono (fun k _ h => .inl h)))
  have D7 := hI_ (D5.out.ext X7.out (fun s => by rcases s with s | s <;> omega) (fun s => by rcases s with s | s <;> omega))
  obtain ⟨p1', p2', p3', p4'⟩ := D7.out.res
  obtain ⟨y00, y0', y1'⟩ := res2 (v0 := .int .i64 (applyR (tick g) ⟨k, key, x, id⟩).code) (v1 := .float .f64 (applyR (tick g) ⟨k, key, x, id⟩).real) p1' p2'
  clear p1 p2 p3 p4 l6 l7 x7 y6
  go_wp2
  refine bodyPost_ret (by simp [results, Tryz.results13, go_sem, y00, y0', y1']; try rfl) rfl ?_
  obtain ⟨E1, E2⟩ := do_end (.int .i64 (applyR (tick g) ⟨k, key, x, id⟩).code) (.float .f64 (applyR (tick g) ⟨k, key, x, id⟩).real) D7.out (Y5.out.trans X7.out) hlt hml L7.out
  exact ⟨rfl, E1, E2⟩
theorem ledger_Do (b m : Nat) (g : Lg) (I : Inv g) (c s k : Int) (key : ByteArray) (x : Nat) (id : Int) (hc : I64 c) (hs : I64 s) (hk : I64 k) (hid : I64 id) (hx : x < 18446744073709551616) (w : World) (h : LD zn w b m g) :
  Calls Tryz.prog 13 #[.pointer (some ⟨b, 0, none⟩), .agg #[.int .i64 c, .int .i64 s, .int .i64 k, .string key, .float .f64 x, .int .i64 id]] w fun e w' =>
  e = .returned (.tuple #[.agg #[.int .i64 (doR g ⟨c, s, ⟨k, key, x, id⟩⟩).code, .float .f64 (doR g ⟨c, s, ⟨k, key, x, id⟩⟩).real], .int .i64 (doE g ⟨c, s, ⟨k, key, x, id⟩⟩)]) ∧ Ext (Two b m) w w' ∧ LD zn w' b m (doL g ⟨c, s, ⟨k, key, x, id⟩⟩) := by
 by_cases ha : rightB ⟨c, s, ⟨k, key, x, id⟩⟩ = false ∧ nullB ⟨c, s, ⟨k, key, x, id⟩⟩ = false
 ·have he : doE g ⟨c, s, ⟨k, key, x, id⟩⟩ = 1 := by unfold doE; rw [if_pos ha]
  have h1 : doL g ⟨c, s, ⟨k, key, x, id⟩⟩ = g := by unfold doL; rw [if_pos (by rw [he]; decide)]
  have h2 : doR g ⟨c, s, ⟨k, key, x, id⟩⟩ = ⟨0, 0⟩ := by unfold doR; rw [if_pos (by rw [he]; decide)]
  rw [he, h1, h2]
  exact (do_arg _ c s k key x id hc hs hk hid (.inr ha) w).mono fun e w' ⟨q1, q2⟩ => ⟨q1, q2.ofNon, h.extN q2⟩
 ·have hrn : rightB ⟨c, s, ⟨k, key, x, id⟩⟩ = true ∨ nullB ⟨c, s, ⟨k, key, x, id⟩⟩ = true := by
   cases h1 : rightB ⟨c, s, ⟨k, key, x, id⟩⟩
   ·cases h2 : nullB ⟨c, s, ⟨k, key, x, id⟩⟩
    ·exact absurd ⟨h1, h2⟩ ha
    ·exact .inr rfl
   ·exact .inl rfl
  cases hf : fullB g
  ·have he : doE g ⟨c, s, ⟨k, key, x, id⟩⟩ = 0 := by unfold doE; rw [if_neg ha, hf]; rfl
   have he' : ¬ doE g ⟨c, s, ⟨k, key, x, id⟩⟩ ≠ 0 := by rw [he]; decide
   cases hn : nullB ⟨c, s, ⟨k, key, x, id⟩⟩
   ·have hr := hrn.resolve_right (by rw [hn]; simp)
    obtain ⟨r1, r2, r3, r4, r5⟩ := rightB_facts hr
    simp only at r1 r2 r3 r4
    obtain ⟨i, hi⟩ : ∃ i : Nat, c = (i : Int) + 1 := ⟨(c - 1).toNat, by omega⟩
    subst hi
    have hi8 : i < 8 := by omega
    have hix : idxR ⟨(i : Int) + 1, s, ⟨k, key, x, id⟩⟩ = i := by unfold idxR; simp only; omega
    by_cases c1 : s < (g.cl i).stamp
    ·have h1 : doL g ⟨(i : Int) + 1, s, ⟨k, key, x, id⟩⟩ = tick g := by unfold doL; rw [if_neg he', if_neg (by rw [hn]; simp), hix, if_pos c1]
     have h2 : doR g ⟨(i : Int) + 1, s, ⟨k, key, x, id⟩⟩ = ⟨7, 0⟩ := by unfold doR; rw [if_neg he', if_neg (by rw [hn]; simp), hix, if_pos c1]
     rw [he, h1, h2]
     exact do_old b m g I i hi8 s k key x id hs hk hid hx hr hf c1 w h
    ·by_cases c2 : (g.cl i).stamp < s
     ·have h1 : doL g ⟨(i : Int) + 1, s, ⟨k, key, x, id⟩⟩ = setCl (applyL (tick g) ⟨k, key, x, id⟩) i ⟨s, (applyR (tick g) ⟨k, key, x, id⟩).code, (applyR (tick g) ⟨k, key, x, id⟩).real⟩ := by
       unfold doL; rw [if_neg he', if_neg (by rw [hn]; simp), hix, if_neg c1, if_pos c2]
      have h2 : doR g ⟨(i : Int) + 1, s, ⟨k, key, x, id⟩⟩ = applyR (tick g) ⟨k, key, x, id⟩ := by unfold doR; rw [if_neg he', if_neg (by rw [hn]; simp), hix, if_neg c1, if_pos c2]
      rw [he, h1, h2]
      exact do_new b m g I i hi8 s k key x id hs hk hid hx hr hf c2 w h
     ·have h1 : doL g ⟨(i : Int) + 1, s, ⟨k, key, x, id⟩⟩ = tick g := by unfold doL; rw [if_neg he', if_neg (by rw [hn]; simp), hix, if_neg c1, if_neg c2]
      have h2 : doR g ⟨(i : Int) + 1, s, ⟨k, key, x, id⟩⟩ = ⟨(g.cl i).code, (g.cl i).real⟩ := by unfold doR; rw [if_neg he', if_neg (by rw [hn]; simp), hix, if_neg c1, if_neg c2]
      rw [he, h1, h2]
      exact do_again b m g I i hi8 s k key x id hs hk hid hx hr hf (by omega) w h
   ·have h1 : doL g ⟨c, s, ⟨k, key, x, id⟩⟩ = tick g := by unfold doL; rw [if_neg he', if_pos hn]
    have h2 : doR g ⟨c, s, ⟨k, key, x, id⟩⟩ = ⟨8, 0⟩ := by unfold doR; rw [if_neg he', if_pos hn]
    rw [he, h1, h2]
    exact do_null b m g I c s k key x id hc hs hk hid hn hf w h
  ·have he : doE g ⟨c, s, ⟨k, key, x, id⟩⟩ = 18 := by unfold doE; rw [if_neg ha, hf]; rfl
   have h1 : doL g ⟨c, s, ⟨k, key, x, id⟩⟩ = g := by unfold doL; rw [if_pos (by rw [he]; decide)]
   have h2 : doR g ⟨c, s, ⟨k, key, x, id⟩⟩ = ⟨0, 0⟩ := by unfold doR; rw [if_pos (by rw [he]; decide)]
   rw [he, h1, h2]
   exact (do_full b m g I c s k key x id hc hs hk hid hrn hf w h).mono fun e w' ⟨q1, q2⟩ => ⟨q1, q2.ofNon, h.extN q2⟩
end Go.Proofs.YtfefeepljbfcdaaGreat.Z
