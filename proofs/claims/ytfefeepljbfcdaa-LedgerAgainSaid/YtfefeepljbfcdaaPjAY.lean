/- Joined texts: Ledg7. What each proves stands at its head; no conditions beside those in its theorems. -/
import Derived.Test.YtfefeepljbfcdaaPjAA
import Derived.Test.YtfefeepljbfcdaaPjAB
import Derived.Test.YtfefeepljbfcdaaPjAE
import Derived.Test.YtfefeepljbfcdaaPjAI
import Derived.Test.YtfefeepljbfcdaaPjAF
import Derived.Test.YtfefeepljbfcdaaPjAJ
import Derived.Test.YtfefeepljbfcdaaPjAK
import Derived.Test.YtfefeepljbfcdaaPjAO
import Derived.Test.YtfefeepljbfcdaaPjAP
import Derived.Test.YtfefeepljbfcdaaPjAT
import Derived.Test.YtfefeepljbfcdaaPjAU
import Derived.Test.YtfefeepljbfcdaaPjAV
import Derived.Test.YtfefeepljbfcdaaPjAW
import Derived.Test.YtfefeepljbfcdaaPjAX
/- Contracts of layer 12 (ledger): Do of a right request. Printed by wip/gendo.py. -/
namespace Go.Proofs.Ytfefeepljbfcdaa
open Go.RowKit F64
set_option linter.unusedSimpArgs false
set_option linter.unusedVariables false
attribute [local go_sem] run_store_float

theorem cl_cells {w5 : World} {b m : Nat} {g : Lg} (L : LD w5 b m g) {i : Nat} (hi : i < 8) : w5.cell? ⟨b, 5 + i * 3, none⟩ = some (.int .i64 (g.cl i).stamp) ∧ w5.cell? ⟨b, 5 + i * 3 + 1, none⟩ = some (.int .i64 (g.cl i).code) ∧ w5.cell? ⟨b, 5 + i * 3 + 2, none⟩ = some (.float .f64 (g.cl i).real) ∧
    w5.frozen? ⟨b, 5 + i * 3, none⟩ = false ∧ w5.frozen? ⟨b, 5 + i * 3 + 1, none⟩ = false ∧ w5.frozen? ⟨b, 5 + i * 3 + 2, none⟩ = false := by
  obtain ⟨a1, c1, a2, c2, r, _⟩ := L.ex
  obtain ⟨r0, r1, r2⟩ := cl_at g a1 c1 a2 c2 m hi
  exact ⟨cell_of_heap r r0, cell_of_heap r r1, cell_of_heap r r2, froz_of_heap r, froz_of_heap r, froz_of_heap r⟩
abbrev clPut (w : World) (b i : Nat) (c : Cl) : World := ((w.setCell ⟨b, 5 + i * 3, none⟩ (.int .i64 c.stamp)).setCell ⟨b, 5 + i * 3 + 1, none⟩ (.int .i64 c.code)).setCell ⟨b, 5 + i * 3 + 2, none⟩ (.float .f64 c.real)
theorem cl_put {w6 : World} {b m : Nat} {g : Lg} (L : LD w6 b m g) {i : Nat} (hi : i < 8) (c : Cl) : LD (clPut w6 b i c) b m (setCl g i c) ∧ Ext (One b) w6 (clPut w6 b i c) := by
  obtain ⟨a1, c1, a2, c2, r, i1, i2, f1, f2⟩ := L.ex
  have r1 := heap_set_same (k := 5 + i * 3) r (.int .i64 c.stamp)
  have r2 := heap_set_same (k := 5 + i * 3 + 1) r1 (.int .i64 c.code)
  have r3 := heap_set_same (k := 5 + i * 3 + 2) r2 (.float .f64 c.real)
  rw [cl_set g a1 c1 a2 c2 m hi c] at r3
  have x : Ext (One b) w6 (clPut w6 b i c) := (((Ext.refl _ _).set1 _).set1 _).set1 _
  exact ⟨L.set x r3 i1 i2 f1 f2 rfl, x⟩

set_option maxHeartbeats 1000000 in
set_option maxRecDepth 100000 in
theorem do_old (b m : Nat) (g : Lg) (I : Inv g) (i : Nat) (hi : i < 8) (s k : Int) (key : ByteArray) (x : Nat) (id : Int) (hs : I64 s) (hk : I64 k) (hid : I64 id) (hx : x < 18446744073709551616)
    (h1 : rightB ⟨(i : Int) + 1, s, ⟨k, key, x, id⟩⟩ = true) (hf : fullB g = false) (hst : s < (g.cl i).stamp) (w : World) (h : LD w b m g) :
    Calls Try.prog 16 #[.pointer (some ⟨b, 0, none⟩), .agg #[.int .i64 ((i : Int) + 1), .int .i64 s, .int .i64 k, .string key, .float .f64 x, .int .i64 id]] w fun e w' =>
    e = .returned (.tuple #[.agg #[.int .i64 7, .float .f64 0], .int .i64 0]) ∧ Ext (Two b m) w w' ∧ LD w' b m (tick g) := by
  have DW := Go.Lib.hid (DoW.of (w := w) (c := (i : Int) + 1) (s := s) (k := k) (key := key) (x := x) (id := id))
  have A1 := Go.Lib.hid (show Ext Non w (doBase w ((i : Int) + 1) s k key x id) from ((Ext.refl _ _).alloc _).alloc _)
  have II := Go.Lib.hid I
  have HH := Go.Lib.hid h
  have HF := Go.Lib.hid hf
  have hc : I64 ((i : Int) + 1) := by unfold I64; omega
  have I4 := Go.Lib.hid (And.intro hc (And.intro hs (And.intro hk hid)))
  have H1 := Go.Lib.hid h1
  have h2 : nullB ⟨(i : Int) + 1, s, ⟨k, key, x, id⟩⟩ = false := by
    cases hn : nullB ⟨(i : Int) + 1, s, ⟨k, key, x, id⟩⟩
    · rfl
    · rw [null_not_right hn] at h1; cases h1
  have H2 := Go.Lib.hid h2
  have HO := Go.Lib.hid (rightB_facts h1).2.2.2.2
  have wr : IntKind.i64.wrap (g.done + 1) = g.done + 1 := by have := I.ep; have := I.dn; exact IntWalk.i64_in _ (by omega)
  have wi : IntKind.i64.wrap ((i : Int) + 1 - 1) = (i : Int) := by rw [show (i : Int) + 1 - 1 = i from by omega]; exact IntWalk.i64_in _ (by omega)
  have hlt := h.lt
  have hml := h.mp.lt
  have HST := Go.Lib.hid hst
  clear h1 h2 hc hs hk hid I h hf hst
  go_enter Try.func16, Try.ntmps16
  go_wp2_with fail
  refine (deeds_Right _ s k key x id _).mono ?_
  rintro e w1 ⟨rfl, y1⟩
  rw [H1.out]
  have D2 := Go.Lib.hid (DW.out.ext y1 (fun f => f) (fun f => f))
  have A2 := Go.Lib.hid (A1.out.trans y1)
  clear y1
  have L2 := Go.Lib.hid (HH.out.extN A2.out)
  go_wp2_with fail
  refine (ledger_Full b m g II.out _ L2.out).mono ?_
  rintro e w3 ⟨rfl, n, rfl⟩
  rw [HF.out]
  obtain ⟨a1, c1, a2, c2, t1, t2, t3, t4⟩ := tick_row n L2.out
  have T4 := Go.Lib.hid t4; clear t3 t4
  have x3 : Ext (One b) w1 ((w1.drewN n).setCell ⟨b, 3, none⟩ (.int .i64 (g.done + 1))) := ((Ext.refl _ _).drewN n).set1 _
  have D3 := Go.Lib.hid (D2.out.ext x3 (fun s => by have s : w.heap.size = b := s; omega) (fun s => by have s : w.heap.size + 1 = b := s; omega))
  have X3 := Go.Lib.hid x3; clear x3
  obtain ⟨q0, q1, q2, q3, q4, q5⟩ := D3.out.cells
  go_wp2_with fail
  refine (deeds_Null _ s k key x id I4.out.1 I4.out.2.1 I4.out.2.2.1 I4.out.2.2.2 _).mono ?_
  rintro e w5 ⟨rfl, y5⟩
  rw [H2.out]
  clear q0 q1 q2 q3 q4 q5 t1 t2
  have D5 := Go.Lib.hid (D3.out.ext y5 (fun f => f) (fun f => f))
  have L5 := Go.Lib.hid (T4.out.extN y5)
  have Y5 := Go.Lib.hid (((A2.out.ofNon (S := Two b m)).step X3.out (fun k _ s => .inl s)).trans y5.ofNon)
  clear y5
  obtain ⟨q0, q1, q2, q3, q4, q5⟩ := D5.out.cells
  obtain ⟨v0, v1, v2, z0, z1, z2⟩ := cl_cells L5.out hi
  have u0 : w5.cell? ⟨b, 5 + i * 3, none⟩ = some (.int .i64 (g.cl i).stamp) := v0
  have u1 : w5.cell? ⟨b, 5 + i * 3 + 1, none⟩ = some (.int .i64 (g.cl i).code) := v1
  have u2 : w5.cell? ⟨b, 5 + i * 3 + 2, none⟩ = some (.float .f64 (g.cl i).real) := v2
  clear v0 v1 v2
  obtain ⟨p1, p2, p3, p4⟩ := D5.out.res
  have hst := HST.out; clear HST
  obtain ⟨y00, y0', y1'⟩ := res2 (v0 := .int .i64 7) (v1 := .float .f64 0) p1 p2
  generalize (g.cl i).stamp = st at *
  have hd := decide_eq_true hst
  clear hst
  go_wp2_with fail
  go_region
  go_wp2_with fail
  go_region
  go_wp2
  refine bodyPost_ret (by simp [results, Try.results16, go_sem, y00, y0', y1']; try rfl) rfl ?_
  obtain ⟨E1, E2⟩ := do_end (.int .i64 7) (.float .f64 0) D5.out Y5.out hlt hml L5.out
  exact ⟨rfl, E1.drewN 2, E2.extN ((Ext.refl _ _).drewN 2)⟩

set_option maxHeartbeats 1000000 in
set_option maxRecDepth 100000 in
theorem do_again (b m : Nat) (g : Lg) (I : Inv g) (i : Nat) (hi : i < 8) (s k : Int) (key : ByteArray) (x : Nat) (id : Int) (hs : I64 s) (hk : I64 k) (hid : I64 id) (hx : x < 18446744073709551616)
    (h1 : rightB ⟨(i : Int) + 1, s, ⟨k, key, x, id⟩⟩ = true) (hf : fullB g = false) (hst : s = (g.cl i).stamp) (w : World) (h : LD w b m g) :
    Calls Try.prog 16 #[.pointer (some ⟨b, 0, none⟩), .agg #[.int .i64 ((i : Int) + 1), .int .i64 s, .int .i64 k, .string key, .float .f64 x, .int .i64 id]] w fun e w' =>
    e = .returned (.tuple #[.agg #[.int .i64 (g.cl i).code, .float .f64 (g.cl i).real], .int .i64 0]) ∧ Ext (Two b m) w w' ∧ LD w' b m (tick g) := by
  have DW := Go.Lib.hid (DoW.of (w := w) (c := (i : Int) + 1) (s := s) (k := k) (key := key) (x := x) (id := id))
  have A1 := Go.Lib.hid (show Ext Non w (doBase w ((i : Int) + 1) s k key x id) from ((Ext.refl _ _).alloc _).alloc _)
  have II := Go.Lib.hid I
  have HH := Go.Lib.hid h
  have HF := Go.Lib.hid hf
  have hc : I64 ((i : Int) + 1) := by unfold I64; omega
  have I4 := Go.Lib.hid (And.intro hc (And.intro hs (And.intro hk hid)))
  have H1 := Go.Lib.hid h1
  have h2 : nullB ⟨(i : Int) + 1, s, ⟨k, key, x, id⟩⟩ = false := by
    cases hn : nullB ⟨(i : Int) + 1, s, ⟨k, key, x, id⟩⟩
    · rfl
    · rw [null_not_right hn] at h1; cases h1
  have H2 := Go.Lib.hid h2
  have HO := Go.Lib.hid (rightB_facts h1).2.2.2.2
  have wr : IntKind.i64.wrap (g.done + 1) = g.done + 1 := by have := I.ep; have := I.dn; exact IntWalk.i64_in _ (by omega)
  have wi : IntKind.i64.wrap ((i : Int) + 1 - 1) = (i : Int) := by rw [show (i : Int) + 1 - 1 = i from by omega]; exact IntWalk.i64_in _ (by omega)
  have hlt := h.lt
  have hml := h.mp.lt
  have HST := Go.Lib.hid hst
  clear h1 h2 hc hs hk hid I h hf hst
  go_enter Try.func16, Try.ntmps16
  go_wp2_with fail
  refine (deeds_Right _ s k key x id _).mono ?_
  rintro e w1 ⟨rfl, y1⟩
  rw [H1.out]
  have D2 := Go.Lib.hid (DW.out.ext y1 (fun f => f) (fun f => f))
  have A2 := Go.Lib.hid (A1.out.trans y1)
  clear y1
  have L2 := Go.Lib.hid (HH.out.extN A2.out)
  go_wp2_with fail
  refine (ledger_Full b m g II.out _ L2.out).mono ?_
  rintro e w3 ⟨rfl, n, rfl⟩
  rw [HF.out]
  obtain ⟨a1, c1, a2, c2, t1, t2, t3, t4⟩ := tick_row n L2.out
  have T4 := Go.Lib.hid t4; clear t3 t4
  have x3 : Ext (One b) w1 ((w1.drewN n).setCell ⟨b, 3, none⟩ (.int .i64 (g.done + 1))) := ((Ext.refl _ _).drewN n).set1 _
  have D3 := Go.Lib.hid (D2.out.ext x3 (fun s => by have s : w.heap.size = b := s; omega) (fun s => by have s : w.heap.size + 1 = b := s; omega))
  have X3 := Go.Lib.hid x3; clear x3
  obtain ⟨q0, q1, q2, q3, q4, q5⟩ := D3.out.cells
  go_wp2_with fail
  refine (deeds_Null _ s k key x id I4.out.1 I4.out.2.1 I4.out.2.2.1 I4.out.2.2.2 _).mono ?_
  rintro e w5 ⟨rfl, y5⟩
  rw [H2.out]
  clear q0 q1 q2 q3 q4 q5 t1 t2
  have D5 := Go.Lib.hid (D3.out.ext y5 (fun f => f) (fun f => f))
  have L5 := Go.Lib.hid (T4.out.extN y5)
  have Y5 := Go.Lib.hid (((A2.out.ofNon (S := Two b m)).step X3.out (fun k _ s => .inl s)).trans y5.ofNon)
  clear y5
  obtain ⟨q0, q1, q2, q3, q4, q5⟩ := D5.out.cells
  obtain ⟨v0, v1, v2, z0, z1, z2⟩ := cl_cells L5.out hi
  have u0 : w5.cell? ⟨b, 5 + i * 3, none⟩ = some (.int .i64 (g.cl i).stamp) := v0
  have u1 : w5.cell? ⟨b, 5 + i * 3 + 1, none⟩ = some (.int .i64 (g.cl i).code) := v1
  have u2 : w5.cell? ⟨b, 5 + i * 3 + 2, none⟩ = some (.float .f64 (g.cl i).real) := v2
  clear v0 v1 v2
  obtain ⟨p1, p2, p3, p4⟩ := D5.out.res
  have hst := HST.out; clear HST
  obtain ⟨cd, ecd⟩ : ∃ c, c = (g.cl i).code := ⟨_, rfl⟩
  obtain ⟨rl, erl⟩ : ∃ c, c = (g.cl i).real := ⟨_, rfl⟩
  rw [← ecd] at u1; rw [← erl] at u2; rw [← hst] at u0
  have EC := Go.Lib.hid ecd; have ER := Go.Lib.hid erl; clear ecd erl hst
  obtain ⟨y00, y0', y1'⟩ := res2 (v0 := .int .i64 cd) (v1 := .float .f64 rl) p1 p2
  go_wp2_with fail
  go_region
  go_wp2_with fail
  go_region
  go_wp2_with fail
  go_region
  go_wp2
  refine bodyPost_ret (by simp [results, Try.results16, go_sem, y00, y0', y1']; try rfl) rfl ?_
  obtain ⟨E1, E2⟩ := do_end (.int .i64 cd) (.float .f64 rl) D5.out Y5.out hlt hml L5.out
  rw [← EC.out, ← ER.out]
  exact ⟨rfl, E1.drewN 3, E2.extN ((Ext.refl _ _).drewN 3)⟩

set_option maxHeartbeats 1000000 in
set_option maxRecDepth 100000 in
theorem do_new (b m : Nat) (g : Lg) (I : Inv g) (i : Nat) (hi : i < 8) (s k : Int) (key : ByteArray) (x : Nat) (id : Int) (hs : I64 s) (hk : I64 k) (hid : I64 id) (hx : x < 18446744073709551616)
    (h1 : rightB ⟨(i : Int) + 1, s, ⟨k, key, x, id⟩⟩ = true) (hf : fullB g = false) (hst : (g.cl i).stamp < s) (w : World) (h : LD w b m g) :
    Calls Try.prog 16 #[.pointer (some ⟨b, 0, none⟩), .agg #[.int .i64 ((i : Int) + 1), .int .i64 s, .int .i64 k, .string key, .float .f64 x, .int .i64 id]] w fun e w' =>
    e = .returned (.tuple #[.agg #[.int .i64 (applyR (tick g) ⟨k, key, x, id⟩).code, .float .f64 (applyR (tick g) ⟨k, key, x, id⟩).real], .int .i64 0]) ∧ Ext (Two b m) w w' ∧ LD w' b m (setCl (applyL (tick g) ⟨k, key, x, id⟩) i ⟨s, (applyR (tick g) ⟨k, key, x, id⟩).code, (applyR (tick g) ⟨k, key, x, id⟩).real⟩) := by
  have DW := Go.Lib.hid (DoW.of (w := w) (c := (i : Int) + 1) (s := s) (k := k) (key := key) (x := x) (id := id))
  have A1 := Go.Lib.hid (show Ext Non w (doBase w ((i : Int) + 1) s k key x id) from ((Ext.refl _ _).alloc _).alloc _)
  have II := Go.Lib.hid I
  have HH := Go.Lib.hid h
  have HF := Go.Lib.hid hf
  have hc : I64 ((i : Int) + 1) := by unfold I64; omega
  have I4 := Go.Lib.hid (And.intro hc (And.intro hs (And.intro hk hid)))
  have H1 := Go.Lib.hid h1
  have h2 : nullB ⟨(i : Int) + 1, s, ⟨k, key, x, id⟩⟩ = false := by
    cases hn : nullB ⟨(i : Int) + 1, s, ⟨k, key, x, id⟩⟩
    · rfl
    · rw [null_not_right hn] at h1; cases h1
  have H2 := Go.Lib.hid h2
  have HO := Go.Lib.hid (rightB_facts h1).2.2.2.2
  have wr : IntKind.i64.wrap (g.done + 1) = g.done + 1 := by have := I.ep; have := I.dn; exact IntWalk.i64_in _ (by omega)
  have wi : IntKind.i64.wrap ((i : Int) + 1 - 1) = (i : Int) := by rw [show (i : Int) + 1 - 1 = i from by omega]; exact IntWalk.i64_in _ (by omega)
  have hlt := h.lt
  have hml := h.mp.lt
  have HST := Go.Lib.hid hst
  clear h1 h2 hc hs hk hid I h hf hst
  go_enter Try.func16, Try.ntmps16
  go_wp2_with fail
  refine (deeds_Right _ s k key x id _).mono ?_
  rintro e w1 ⟨rfl, y1⟩
  rw [H1.out]
  have D2 := Go.Lib.hid (DW.out.ext y1 (fun f => f) (fun f => f))
  have A2 := Go.Lib.hid (A1.out.trans y1)
  clear y1
  have L2 := Go.Lib.hid (HH.out.extN A2.out)
  go_wp2_with fail
  refine (ledger_Full b m g II.out _ L2.out).mono ?_
  rintro e w3 ⟨rfl, n, rfl⟩
  rw [HF.out]
  obtain ⟨a1, c1, a2, c2, t1, t2, t3, t4⟩ := tick_row n L2.out
  have T4 := Go.Lib.hid t4; clear t3 t4
  have x3 : Ext (One b) w1 ((w1.drewN n).setCell ⟨b, 3, none⟩ (.int .i64 (g.done + 1))) := ((Ext.refl _ _).drewN n).set1 _
  have D3 := Go.Lib.hid (D2.out.ext x3 (fun s => by have s : w.heap.size = b := s; omega) (fun s => by have s : w.heap.size + 1 = b := s; omega))
  have X3 := Go.Lib.hid x3; clear x3
  obtain ⟨q0, q1, q2, q3, q4, q5⟩ := D3.out.cells
  go_wp2_with fail
  refine (deeds_Null _ s k key x id I4.out.1 I4.out.2.1 I4.out.2.2.1 I4.out.2.2.2 _).mono ?_
  rintro e w5 ⟨rfl, y5⟩
  rw [H2.out]
  clear q0 q1 q2 q3 q4 q5 t1 t2
  have D5 := Go.Lib.hid (D3.out.ext y5 (fun f => f) (fun f => f))
  have L5 := Go.Lib.hid (T4.out.extN y5)
  have Y5 := Go.Lib.hid (((A2.out.ofNon (S := Two b m)).step X3.out (fun k _ s => .inl s)).trans y5.ofNon)
  clear y5
  obtain ⟨q0, q1, q2, q3, q4, q5⟩ := D5.out.cells
  obtain ⟨v0, v1, v2, z0, z1, z2⟩ := cl_cells L5.out hi
  have u0 : w5.cell? ⟨b, 5 + i * 3, none⟩ = some (.int .i64 (g.cl i).stamp) := v0
  have u1 : w5.cell? ⟨b, 5 + i * 3 + 1, none⟩ = some (.int .i64 (g.cl i).code) := v1
  have u2 : w5.cell? ⟨b, 5 + i * 3 + 2, none⟩ = some (.float .f64 (g.cl i).real) := v2
  clear v0 v1 v2
  obtain ⟨p1, p2, p3, p4⟩ := D5.out.res
  have hst := HST.out; clear HST
  have I5 := Go.Lib.hid (inv_tick II.out HF.out)
  obtain ⟨st, est⟩ : ∃ c, c = (g.cl i).stamp := ⟨_, rfl⟩
  rw [← est] at u0 hst
  have hd1 := decide_eq_false (show ¬ s < st by omega)
  have hd2 := decide_eq_true hst
  clear hst est
  have hb : ∀ w', Ext (Two b m) w5 w' → w'.cell? ⟨w.heap.size, 1, none⟩ = some (.int .i64 s) ∧ w'.cell? ⟨w.heap.size, 2, none⟩ = some (.int .i64 k) ∧ w'.cell? ⟨w.heap.size, 3, none⟩ = some (.string key) ∧
      w'.cell? ⟨w.heap.size, 4, none⟩ = some (.float .f64 x) ∧ w'.cell? ⟨w.heap.size, 5, none⟩ = some (.int .i64 id) := by
    intro w' y
    exact (D5.out.ext y (fun s => by rcases s with s | s <;> omega) (fun s => by rcases s with s | s <;> omega)).cells.2
  have B := Go.Lib.hid hb; clear hb
  have N0 := (Ext.refl Non w5).drewN 3
  have W0 := (Ext.refl (Two b m) w5).drewN 3
  go_wp2_with fail
  go_region
  go_wp2_with fail
  go_region
  go_wp2_with fail
  go_region
  go_wp2_with fail
  go_region_held3 (fun w' => w'.cell? ⟨w.heap.size, 1, none⟩ = some (.int .i64 s) ∧ w'.cell? ⟨w.heap.size, 2, none⟩ = some (.int .i64 k) ∧ w'.cell? ⟨w.heap.size, 3, none⟩ = some (.string key) ∧
      w'.cell? ⟨w.heap.size, 4, none⟩ = some (.float .f64 x) ∧ w'.cell? ⟨w.heap.size, 5, none⟩ = some (.int .i64 id))
    (first | exact B.out _ (W6.trans ((cl_put L6.out hi ⟨s, (applyR (tick g) ⟨k, key, x, id⟩).code, (applyR (tick g) ⟨k, key, x, id⟩).real⟩).2.mono (fun k _ h => .inl h))) | exact B.out _ (by (first | exact W6 | exact Ext.drew W6 | exact Ext.alloc W6 _ | exact Ext.alloc (Ext.drew W6) _ | exact Ext.drew (Ext.alloc W6 _) | exact Ext.alloc (Ext.alloc W6 _) _ | exact Ext.alloc (Ext.alloc (Ext.drew W6) _) _ | exact Ext.alloc (Ext.drew (Ext.alloc W6 _)) _ | exact Ext.drew (Ext.alloc (Ext.alloc W6 _) _))) | exact B.out _ (by (first | exact W0 | exact Ext.drew W0 | exact Ext.alloc W0 _ | exact Ext.alloc (Ext.drew W0) _ | exact Ext.drew (Ext.alloc W0 _) | exact Ext.alloc (Ext.alloc W0 _) _ | exact Ext.alloc (Ext.alloc (Ext.drew W0) _) _ | exact Ext.alloc (Ext.drew (Ext.alloc W0 _)) _ | exact Ext.drew (Ext.alloc (Ext.alloc W0 _) _))))
    (first
    | (go_at_call 33
       refine Calls.mono (ledger_apply b m (tick g) I5.out k key x id HO.out hx _ (L5.out.extN (by (first | exact N0 | exact Ext.drew N0 | exact Ext.alloc N0 _ | exact Ext.alloc (Ext.drew N0) _ | exact Ext.drew (Ext.alloc N0 _) | exact Ext.alloc (Ext.alloc N0 _) _ | exact Ext.alloc (Ext.alloc (Ext.drew N0) _) _ | exact Ext.alloc (Ext.drew (Ext.alloc N0 _)) _ | exact Ext.drew (Ext.alloc (Ext.alloc N0 _) _))))) ?_
       rintro e w6 ⟨rfl, y6, l6⟩
       have W6 : Ext (Two b m) w5 w6 := (by (first | exact W0 | exact Ext.drew W0 | exact Ext.alloc W0 _ | exact Ext.alloc (Ext.drew W0) _ | exact Ext.drew (Ext.alloc W0 _) | exact Ext.alloc (Ext.alloc W0 _) _ | exact Ext.alloc (Ext.alloc (Ext.drew W0) _) _ | exact Ext.alloc (Ext.drew (Ext.alloc W0 _)) _ | exact Ext.drew (Ext.alloc (Ext.alloc W0 _) _)) : Ext (Two b m) w5 _).trans y6
       obtain ⟨v0, v1, v2, z0, z1, z2⟩ := cl_cells l6 hi
       have L6 := Go.Lib.hid l6))
  obtain ⟨l7, x7⟩ := cl_put L6.out hi ⟨s, (applyR (tick g) ⟨k, key, x, id⟩).code, (applyR (tick g) ⟨k, key, x, id⟩).real⟩
  clear v0 v1 v2 z0 z1 z2 u0 u1 u2
  obtain ⟨v0, v1, v2, z0, z1, z2⟩ := cl_cells l7 hi
  have ec : (setCl (applyL (tick g) ⟨k, key, x, id⟩) i ⟨s, (applyR (tick g) ⟨k, key, x, id⟩).code, (applyR (tick g) ⟨k, key, x, id⟩).real⟩).cl i = ⟨s, (applyR (tick g) ⟨k, key, x, id⟩).code, (applyR (tick g) ⟨k, key, x, id⟩).real⟩ := if_pos rfl
  rw [ec] at v0 v1 v2
  clear ec
  have L7 := Go.Lib.hid l7
  have X7 := Go.Lib.hid (W6.trans (x7.mono (fun k _ h => .inl h)))
  have D7 := Go.Lib.hid (D5.out.ext X7.out (fun s => by rcases s with s | s <;> omega) (fun s => by rcases s with s | s <;> omega))
  obtain ⟨p1', p2', p3', p4'⟩ := D7.out.res
  obtain ⟨y00, y0', y1'⟩ := res2 (v0 := .int .i64 (applyR (tick g) ⟨k, key, x, id⟩).code) (v1 := .float .f64 (applyR (tick g) ⟨k, key, x, id⟩).real) p1' p2'
  clear p1 p2 p3 p4 l6 l7 x7 y6
  go_wp2
  refine bodyPost_ret (by simp [results, Try.results16, go_sem, y00, y0', y1']; try rfl) rfl ?_
  obtain ⟨E1, E2⟩ := do_end (.int .i64 (applyR (tick g) ⟨k, key, x, id⟩).code) (.float .f64 (applyR (tick g) ⟨k, key, x, id⟩).real) D7.out (Y5.out.trans X7.out) hlt hml L7.out
  exact ⟨rfl, E1, E2⟩
end Go.Proofs.Ytfefeepljbfcdaa
