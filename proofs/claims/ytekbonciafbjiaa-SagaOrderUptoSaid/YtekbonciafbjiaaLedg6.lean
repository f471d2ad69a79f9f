/- Contracts of layer 12 (ledger): Do, its other ways. -/
import Derived.Test.YtekbonciafbjiaaLedg5
namespace Go.Proofs.Ytekbonciafbjiaa
open Go.RowKit F64
set_option linter.unusedSimpArgs false
set_option linter.unusedVariables false
attribute [local go_sem] run_store_float

theorem tick_row {w1 : World} {b m : Nat} {g : Lg} (n : Nat) (L1 : LD w1 b m g) : ∃ a1 c1 a2 c2, (w1.drewN n).cell? ⟨b, 3, none⟩ = some (.int .i64 g.done) ∧ (w1.drewN n).frozen? ⟨b, 3, none⟩ = false ∧
    LRow ((w1.drewN n).setCell ⟨b, 3, none⟩ (.int .i64 (g.done + 1))) b m (tick g) a1 c1 a2 c2 ∧ LD ((w1.drewN n).setCell ⟨b, 3, none⟩ (.int .i64 (g.done + 1))) b m (tick g) := by
  obtain ⟨a1, c1, a2, c2, r, i1, i2, f1, f2⟩ := L1.ex
  have r2 : LRow (w1.drewN n) b m g a1 c1 a2 c2 := r
  have r3 : LRow ((w1.drewN n).setCell ⟨b, 3, none⟩ (.int .i64 (g.done + 1))) b m (tick g) a1 c1 a2 c2 := heap_set_same (k := 3) r2 _
  exact ⟨a1, c1, a2, c2, cell_of_heap r2 rfl, froz_of_heap r2, r3, L1.set (((Ext.refl _ _).drewN n).set1 _) r3 i1 i2 f1 f2 rfl⟩

set_option maxHeartbeats 1000000 in
set_option maxRecDepth 100000 in
theorem do_full (b m : Nat) (g : Lg) (I : Inv g) (c s k : Int) (key : ByteArray) (x : Nat) (id : Int) (hc : I64 c) (hs : I64 s) (hk : I64 k) (hid : I64 id)
    (h0 : rightB ⟨c, s, ⟨k, key, x, id⟩⟩ = true ∨ nullB ⟨c, s, ⟨k, key, x, id⟩⟩ = true) (hf : fullB g = true) (w : World) (h : LD w b m g) :
    Calls Try.prog 56 #[.pointer (some ⟨b, 0, none⟩), .agg #[.int .i64 c, .int .i64 s, .int .i64 k, .string key, .float .f64 x, .int .i64 id]] w fun e w' =>
    e = .returned (.tuple #[.agg #[.int .i64 0, .float .f64 0], .int .i64 18]) ∧ Ext Non w w' := by
  have DW := Go.Lib.hid (DoW.of (w := w) (c := c) (s := s) (k := k) (key := key) (x := x) (id := id))
  have A1 := Go.Lib.hid (show Ext Non w (doBase w c s k key x id) from ((Ext.refl _ _).alloc _).alloc _)
  have II := Go.Lib.hid I
  have HH := Go.Lib.hid h
  have HF := Go.Lib.hid hf
  have I4 := Go.Lib.hid (And.intro hc (And.intro hs (And.intro hk hid)))
  cases h1 : rightB ⟨c, s, ⟨k, key, x, id⟩⟩
  · have h2 : nullB ⟨c, s, ⟨k, key, x, id⟩⟩ = true := h0.resolve_left (by rw [h1]; simp)
    have H1 := Go.Lib.hid h1; have H2 := Go.Lib.hid h2
    clear h0 h1 h2 hc hs hk hid I h hf
    go_enter Try.func56, Try.ntmps56
    go_wp2_with fail
    refine (deeds_Right c s k key x id _).mono ?_
    rintro e w1 ⟨rfl, y1⟩
    rw [H1.out]
    have D1 := DW.out.ext y1 (fun f => f) (fun f => f)
    obtain ⟨q0, q1, q2, q3, q4, q5⟩ := D1.cells
    go_wp2_with fail
    refine (deeds_Null c s k key x id I4.out.1 I4.out.2.1 I4.out.2.2.1 I4.out.2.2.2 _).mono ?_
    rintro e w2 ⟨rfl, y2⟩
    rw [H2.out]
    have D2 := Go.Lib.hid (D1.ext y2 (fun f => f) (fun f => f))
    have A2 := Go.Lib.hid ((A1.out.trans y1).trans y2)
    clear D1 q0 q1 q2 q3 q4 q5 y1 y2
    go_wp2_with fail
    refine (ledger_Full b m g II.out _ (HH.out.extN A2.out)).mono ?_
    rintro e w3 ⟨rfl, n, rfl⟩
    rw [HF.out]
    obtain ⟨p1, p2, p3, p4⟩ := (D2.out.ext ((Ext.refl Non _).drewN n) (fun f => f) (fun f => f)).res
    obtain ⟨y00, y0', y1'⟩ := res2 (v0 := .int .i64 0) (v1 := .float .f64 0) p1 p2
    go_wp2
    refine bodyPost_ret (by simp [results, Try.results56, go_sem, y00, y0', y1']; try rfl) rfl ?_
    exact ⟨rfl, ((A2.out.drewN n).setCell (.inr (Nat.le_succ _)) _).setCell (.inr (Nat.le_succ _)) _⟩
  · have H1 := Go.Lib.hid h1
    clear h0 h1 hc hs hk hid I h hf
    go_enter Try.func56, Try.ntmps56
    go_wp2_with fail
    refine (deeds_Right c s k key x id _).mono ?_
    rintro e w1 ⟨rfl, y1⟩
    rw [H1.out]
    have D2 := Go.Lib.hid (DW.out.ext y1 (fun f => f) (fun f => f))
    have A2 := Go.Lib.hid (A1.out.trans y1)
    clear y1
    go_wp2_with fail
    refine (ledger_Full b m g II.out _ (HH.out.extN A2.out)).mono ?_
    rintro e w3 ⟨rfl, n, rfl⟩
    rw [HF.out]
    obtain ⟨p1, p2, p3, p4⟩ := (D2.out.ext ((Ext.refl Non _).drewN n) (fun f => f) (fun f => f)).res
    obtain ⟨y00, y0', y1'⟩ := res2 (v0 := .int .i64 0) (v1 := .float .f64 0) p1 p2
    go_wp2
    refine bodyPost_ret (by simp [results, Try.results56, go_sem, y00, y0', y1']; try rfl) rfl ?_
    exact ⟨rfl, ((A2.out.drewN n).setCell (.inr (Nat.le_succ _)) _).setCell (.inr (Nat.le_succ _)) _⟩

set_option maxHeartbeats 1000000 in
set_option maxRecDepth 100000 in
theorem do_null (b m : Nat) (g : Lg) (I : Inv g) (c s k : Int) (key : ByteArray) (x : Nat) (id : Int) (hc : I64 c) (hs : I64 s) (hk : I64 k) (hid : I64 id)
    (h2 : nullB ⟨c, s, ⟨k, key, x, id⟩⟩ = true) (hf : fullB g = false) (w : World) (h : LD w b m g) :
    Calls Try.prog 56 #[.pointer (some ⟨b, 0, none⟩), .agg #[.int .i64 c, .int .i64 s, .int .i64 k, .string key, .float .f64 x, .int .i64 id]] w fun e w' =>
    e = .returned (.tuple #[.agg #[.int .i64 8, .float .f64 0], .int .i64 0]) ∧ Ext (Two b m) w w' ∧ LD w' b m (tick g) := by
  have DW := Go.Lib.hid (DoW.of (w := w) (c := c) (s := s) (k := k) (key := key) (x := x) (id := id))
  have A1 := Go.Lib.hid (show Ext Non w (doBase w c s k key x id) from ((Ext.refl _ _).alloc _).alloc _)
  have II := Go.Lib.hid I
  have HH := Go.Lib.hid h
  have HF := Go.Lib.hid hf
  have I4 := Go.Lib.hid (And.intro hc (And.intro hs (And.intro hk hid)))
  have H1 := Go.Lib.hid (null_not_right h2)
  have H2 := Go.Lib.hid h2
  have wr : IntKind.i64.wrap (g.done + 1) = g.done + 1 := by have := I.ep; have := I.dn; exact IntWalk.i64_in _ (by omega)
  have hlt := h.lt
  have hml := h.mp.lt
  clear h2 hc hs hk hid I h hf
  go_enter Try.func56, Try.ntmps56
  go_wp2_with fail
  refine (deeds_Right c s k key x id _).mono ?_
  rintro e w1 ⟨rfl, y1⟩
  rw [H1.out]
  have D1 := DW.out.ext y1 (fun f => f) (fun f => f)
  obtain ⟨q0, q1, q2, q3, q4, q5⟩ := D1.cells
  go_wp2_with fail
  refine (deeds_Null c s k key x id I4.out.1 I4.out.2.1 I4.out.2.2.1 I4.out.2.2.2 _).mono ?_
  rintro e w2 ⟨rfl, y2⟩
  rw [H2.out]
  have D2 := Go.Lib.hid (D1.ext y2 (fun f => f) (fun f => f))
  have A2 := Go.Lib.hid ((A1.out.trans y1).trans y2)
  clear D1 q0 q1 q2 q3 q4 q5 y1 y2
  have L2 := Go.Lib.hid (HH.out.extN A2.out)
  go_wp2_with fail
  refine (ledger_Full b m g II.out _ L2.out).mono ?_
  rintro e w3 ⟨rfl, n, rfl⟩
  rw [HF.out]
  obtain ⟨a1, c1, a2, c2, t1, t2, t3, t4⟩ := tick_row n L2.out
  have T4 := Go.Lib.hid t4; clear t3 t4
  have x3 : Ext (One b) w2 ((w2.drewN n).setCell ⟨b, 3, none⟩ (.int .i64 (g.done + 1))) := ((Ext.refl _ _).drewN n).set1 _
  have D3 := Go.Lib.hid (D2.out.ext x3 (fun s => by have s : w.heap.size = b := s; omega) (fun s => by have s : w.heap.size + 1 = b := s; omega))
  have X3 := Go.Lib.hid x3; clear x3
  obtain ⟨q0, q1, q2, q3, q4, q5⟩ := D3.out.cells
  go_wp2_with fail
  refine (deeds_Null c s k key x id I4.out.1 I4.out.2.1 I4.out.2.2.1 I4.out.2.2.2 _).mono ?_
  rintro e w5 ⟨rfl, y5⟩
  rw [H2.out]
  clear q0 q1 q2 q3 q4 q5 t1 t2
  have D5 := Go.Lib.hid (D3.out.ext y5 (fun f => f) (fun f => f))
  obtain ⟨p1, p2, p3, p4⟩ := D5.out.res
  obtain ⟨y00, y0', y1'⟩ := res2 (v0 := .int .i64 8) (v1 := .float .f64 0) p1 p2
  have L5 := Go.Lib.hid (T4.out.extN y5)
  have Y5 := Go.Lib.hid (((A2.out.ofNon (S := Two b m)).step X3.out (fun k _ s => .inl s)).trans y5.ofNon)
  clear y5
  go_wp2
  refine bodyPost_ret (by simp [results, Try.results56, go_sem, y00, y0', y1']; try rfl) rfl ?_
  obtain ⟨E1, E2⟩ := do_end (.int .i64 8) (.float .f64 0) D5.out Y5.out hlt hml L5.out
  exact ⟨rfl, E1, E2⟩
end Go.Proofs.Ytekbonciafbjiaa
