/- Joined texts: LedgZ2. What each proves stands at its head; no conditions beside those in its theorems. -/
import Derived.Test.YtfefeepljbfcdaaGreatPjAV
/- Contracts of layer 12 (ledger), apply: for ledgers whose rows do not lie in a given block. Printed by wip/genz.py. -/
namespace Go.Proofs.YtfefeepljbfcdaaGreat.Z
open Go.RowKit F64
set_option linter.unusedSimpArgs false
set_option linter.unusedVariables false
attribute [local go_sem] run_store_float
variable {zn : Nat}
theorem ledger_move_ok (b m : Nat) (g : Lg) (a : Option Addr) (cap : Nat) (xs : List Int) (w : World) (h : LD zn w b m g) (hi : Ints w a cap xs) (hf : intZ zn w a) : Calls Tryz.prog 90 #[.pointer (some ⟨b, 0, none⟩), .slice a xs.length cap, .int .i64 0] w fun e w' =>
  e = .returned (.agg #[.int .i64 0, .float .f64 0]) ∧ Ext (One b) w w' ∧ LD zn w' b m (setNext g xs) := by
 obtain ⟨a1, c1, a2, c2, r, i1, i2, f1, f2⟩ := h.ex
 have hlt := h.lt
 have q2 : w.cell? ⟨b, 2, none⟩ = some (.slice a2 g.next.length c2) := cell_of_heap r rfl
 have z2 : w.frozen? ⟨b, 2, none⟩ = false := froz_of_heap r
 have R0 := hI_ r
 have HH := hI_ h
 have FF := hI_ (And.intro i1 (And.intro f1 (And.intro hi hf)))
 have hne : b ≠ w.heap.size := Nat.ne_of_lt hlt
 clear h i1 i2 f1 f2 hi hf r
 go_enter Tryz.func90, Tryz.ntmps90
 go_wp2
 go_returns
 have r1 := heap_set_same (k := 2) R0.out (.slice a xs.length cap)
 obtain ⟨i1, f1, hi, hf⟩ := FF.out
 have L : LD zn (w.setCell ⟨b, 2, none⟩ (.slice a xs.length cap)) b m (setNext g xs) := HH.out.set ((Ext.refl _ _).set1 _) r1 i1 hi f1 hf rfl
 exact ⟨rfl, ((Ext.refl _ _).set1 _).trans ((Ext.refl _ _).alloc _), L.extN ((Ext.refl _ _).alloc _)⟩
theorem ap_end {w w3 : World} {b m : Nat} {k : Int} {key : ByteArray} {x : Nat} {id : Int} {S : Nat → Prop} {g' : Lg} (v0 v1 : Value) (h : ApW w w3 b k key x id) (y : Ext S w w3) (hb : b < w.heap.size) (hm : m < w.heap.size) (L : LD zn w3 b m g') :
  Ext S w ((w3.setCell ⟨w.heap.size + 1, 0, none⟩ v0).setCell ⟨w.heap.size + 1, 1, none⟩ v1) ∧ LD zn ((w3.setCell ⟨w.heap.size + 1, 0, none⟩ v0).setCell ⟨w.heap.size + 1, 1, none⟩ v1) b m g' := by
 have z : Ext (One (w.heap.size + 1)) w3 ((w3.setCell ⟨w.heap.size + 1, 0, none⟩ v0).setCell ⟨w.heap.size + 1, 1, none⟩ v1) := ((Ext.refl _ w3).set1 _).set1 _
 refine ⟨y.step z (fun i hi s => ?_), L.ext z (fun s => ?_) (fun s => ?_) h.noInts⟩
 ·have s : i = w.heap.size + 1 := s; omega
 ·have s : b = w.heap.size + 1 := s; omega
 ·have s : m = w.heap.size + 1 := s; omega
set_option maxHeartbeats 1000000 in
set_option maxRecDepth 100000 in
theorem apply_join (b m : Nat) (g : Lg) (key : ByteArray) (x : Nat) (id : Int) (w : World) (h : LD zn w b m g) : Calls Tryz.prog 55 #[.pointer (some ⟨b, 0, none⟩), .agg #[.int .i64 6, .string key, .float .f64 x, .int .i64 id]] w fun e w' =>
    e = .returned (.agg #[.int .i64 (moveC (joinE g.next id)), .float .f64 0]) ∧ Ext (Two b m) w w' ∧ LD zn w' b m (moveL g (joinL g.next id) (joinE g.next id)) := by
  obtain ⟨a1, c1, a2, c2, r, i1, i2, f1, f2⟩ := h.ex
  have q2 : w.cell? ⟨b, 2, none⟩ = some (.slice a2 g.next.length c2) := cell_of_heap r rfl
  have hlt := h.lt
  have hml := h.mp.lt
  have HH := hI_ h
  have I2 := hI_ i2
  clear h r i1 i2 f1 f2
  have AP := hI_ (ApW.of (w := w) (b := b) (k := 6) (key := key) (x := x) (id := id))
  have A1 : Ext Non w ((w.alloc (.cells #[.int .i64 6, .string key, .float .f64 x, .int .i64 id] 52)).alloc (.cells #[.int .i64 0, .float .f64 0] 48)) := ((Ext.refl _ _).alloc _).alloc _
  have W0 := Ext.refl Non ((w.alloc (.cells #[.int .i64 6, .string key, .float .f64 x, .int .i64 id] 52)).alloc (.cells #[.int .i64 0, .float .f64 0] 48))
  have W1 := Ext.refl (fun k => k = b ∨ k = w.heap.size + 1) ((w.alloc (.cells #[.int .i64 6, .string key, .float .f64 x, .int .i64 id] 52)).alloc (.cells #[.int .i64 0, .float .f64 0] 48))
  have hbx : ∀ w', Ext (fun k => k = b ∨ k = w.heap.size + 1) ((w.alloc (.cells #[.int .i64 6, .string key, .float .f64 x, .int .i64 id] 52)).alloc (.cells #[.int .i64 0, .float .f64 0] 48)) w' → w'.cell? ⟨w.heap.size, 3, none⟩ = some (.int .i64 id) := by
    intro w' y
    have e := (y.block w.heap.size (by simp; omega) (fun s => by rcases s with s | s <;> omega)).trans AP.out.o
    exact cell_of_heap (cur := [.int .i64 6, .string key, .float .f64 x, .int .i64 id]) e rfl
  have BX := hI_ hbx; clear hbx
  by_cases hj : joinE g.next id = 0
  · have HJ := hI_ hj
    have HE : Hid (moveL g (joinL g.next id) (joinE g.next id) = setNext g (joinL g.next id) ∧ moveC (joinE g.next id) = 0) := hI_ (by unfold moveL moveC; rw [if_pos hj, if_pos hj]; exact ⟨rfl, rfl⟩)
    clear hj
    rw [HE.out.1, HE.out.2]
    go_enter Tryz.func55, Tryz.ntmps55
    go_wp2_with fail
    go_region_with
      (first
      | (go_at_call 91
         refine Calls.mono (join_ok _ _ _ _ HJ.out _ (I2.out.extN (by (first | exact A1 | exact Ext.drew A1 | exact Ext.alloc A1 _ | exact Ext.alloc (Ext.drew A1) _ | exact Ext.drew (Ext.alloc A1 _) | exact Ext.alloc (Ext.alloc A1 _) _ | exact Ext.alloc (Ext.alloc (Ext.drew A1) _) _ | exact Ext.alloc (Ext.drew (Ext.alloc A1 _)) _ | exact Ext.drew (Ext.alloc (Ext.alloc A1 _) _))))) ?_
         rintro e w2 ⟨a, cp, rfl, y, hI, hf⟩
         have W2 := (by (first | exact W1 | exact Ext.drew W1 | exact Ext.alloc W1 _ | exact Ext.alloc (Ext.drew W1) _ | exact Ext.drew (Ext.alloc W1 _) | exact Ext.alloc (Ext.alloc W1 _) _ | exact Ext.alloc (Ext.alloc (Ext.drew W1) _) _ | exact Ext.alloc (Ext.drew (Ext.alloc W1 _)) _ | exact Ext.drew (Ext.alloc (Ext.alloc W1 _) _)) : Ext (fun k => k = b ∨ k = w.heap.size + 1) _ _).trans y.ofNon
         have A2 : Ext Non w w2 := (by (first | exact A1 | exact Ext.drew A1 | exact Ext.alloc A1 _ | exact Ext.alloc (Ext.drew A1) _ | exact Ext.drew (Ext.alloc A1 _) | exact Ext.alloc (Ext.alloc A1 _) _ | exact Ext.alloc (Ext.alloc (Ext.drew A1) _) _ | exact Ext.alloc (Ext.drew (Ext.alloc A1 _)) _ | exact Ext.drew (Ext.alloc (Ext.alloc A1 _) _)) : Ext Non w _).trans y
         have P2 := AP.out.ext (S := Non) ((by (first | exact W0 | exact Ext.drew W0 | exact Ext.alloc W0 _ | exact Ext.alloc (Ext.drew W0) _ | exact Ext.drew (Ext.alloc W0 _) | exact Ext.alloc (Ext.alloc W0 _) _ | exact Ext.alloc (Ext.alloc (Ext.drew W0) _) _ | exact Ext.alloc (Ext.drew (Ext.alloc W0 _)) _ | exact Ext.drew (Ext.alloc (Ext.alloc W0 _) _)) : Ext Non _ _).trans y) (fun f => f) (fun f => f))
      | (go_at_call 90
         refine Calls.mono (ledger_move_ok b m g a cp _ _ (HH.out.extN (by (first | exact A2 | exact Ext.drew A2 | exact Ext.alloc A2 _ | exact Ext.alloc (Ext.drew A2) _ | exact Ext.drew (Ext.alloc A2 _) | exact Ext.alloc (Ext.alloc A2 _) _ | exact Ext.alloc (Ext.alloc (Ext.drew A2) _) _ | exact Ext.alloc (Ext.drew (Ext.alloc A2 _)) _ | exact Ext.drew (Ext.alloc (Ext.alloc A2 _) _)))) hI (hf.typedZ (by have := HH.out.zlt; first | omega | (simp; omega)))) ?_
         rintro e w3 ⟨rfl, y3, L3⟩
         have W3 := W2.trans (y3.mono fun k _ s => .inl s)
         have P3 := P2.ext y3 (fun s => by have s : w.heap.size = b := s; omega) (fun s => by have s : w.heap.size + 1 = b := s; omega)
         have p1 : w3.cell? ⟨w.heap.size + 1, 0, none⟩ = some (.int .i64 0) := cell_of_heap (cur := [.int .i64 0, .float .f64 0]) P3.r rfl
         have p2 : w3.cell? ⟨w.heap.size + 1, 1, none⟩ = some (.float .f64 0) := cell_of_heap (cur := [.int .i64 0, .float .f64 0]) P3.r rfl
         have p3 : w3.frozen? ⟨w.heap.size + 1, 0, none⟩ = false := froz_of_heap (cur := [.int .i64 0, .float .f64 0]) P3.r
         have p4 : w3.frozen? ⟨w.heap.size + 1, 1, none⟩ = false := froz_of_heap (cur := [.int .i64 0, .float .f64 0]) P3.r))
    all_goals
      obtain ⟨y00, y0, y1⟩ := res2 (v0 := .int .i64 0) (v1 := .float .f64 0) p1 p2
      go_wp2
      refine bodyPost_ret (by simp [results, Tryz.results55, go_sem, y00, y0, y1]; try rfl) rfl ?_
      have Y3 : Ext (Two b m) w w3 := (A2.ofNon (S := Two b m)).step y3 (fun k _ s => .inl s)
      obtain ⟨E1, E2⟩ := ap_end (.int .i64 0) (.float .f64 0) P3 Y3 hlt hml L3
      exact ⟨rfl, E1, E2⟩
  · have HJ := hI_ hj
    have HE : Hid (moveL g (joinL g.next id) (joinE g.next id) = g) := hI_ (by unfold moveL; rw [if_neg hj])
    have HC := hI_ (join_codes g.next id hj)
    clear hj
    rw [HE.out]
    go_enter Tryz.func55, Tryz.ntmps55
    go_wp2_with fail
    go_region_with
      (first
      | (go_at_call 91
         refine Calls.mono (join_no _ _ _ _ HJ.out _ (I2.out.extN (by (first | exact A1 | exact Ext.drew A1 | exact Ext.alloc A1 _ | exact Ext.alloc (Ext.drew A1) _ | exact Ext.drew (Ext.alloc A1 _) | exact Ext.alloc (Ext.alloc A1 _) _ | exact Ext.alloc (Ext.alloc (Ext.drew A1) _) _ | exact Ext.alloc (Ext.drew (Ext.alloc A1 _)) _ | exact Ext.drew (Ext.alloc (Ext.alloc A1 _) _))))) ?_
         rintro e w2 ⟨rfl, rfl⟩)
      | (go_at_call 90
         refine Calls.mono (ledger_move_no b 0 0 none _ HC.out _) ?_
         rintro e w3 ⟨rfl, y3⟩
         have W3 := (by (first | exact W1 | exact Ext.drew W1 | exact Ext.alloc W1 _ | exact Ext.alloc (Ext.drew W1) _ | exact Ext.drew (Ext.alloc W1 _) | exact Ext.alloc (Ext.alloc W1 _) _ | exact Ext.alloc (Ext.alloc (Ext.drew W1) _) _ | exact Ext.alloc (Ext.drew (Ext.alloc W1 _)) _ | exact Ext.drew (Ext.alloc (Ext.alloc W1 _) _)) : Ext (fun k => k = b ∨ k = w.heap.size + 1) _ _).trans y3.ofNon
         have P3 := AP.out.ext (S := Non) ((by (first | exact W0 | exact Ext.drew W0 | exact Ext.alloc W0 _ | exact Ext.alloc (Ext.drew W0) _ | exact Ext.drew (Ext.alloc W0 _) | exact Ext.alloc (Ext.alloc W0 _) _ | exact Ext.alloc (Ext.alloc (Ext.drew W0) _) _ | exact Ext.alloc (Ext.drew (Ext.alloc W0 _)) _ | exact Ext.drew (Ext.alloc (Ext.alloc W0 _) _)) : Ext Non _ _).trans y3) (fun f => f) (fun f => f)
         have A3 : Ext Non w w3 := (by (first | exact A1 | exact Ext.drew A1 | exact Ext.alloc A1 _ | exact Ext.alloc (Ext.drew A1) _ | exact Ext.drew (Ext.alloc A1 _) | exact Ext.alloc (Ext.alloc A1 _) _ | exact Ext.alloc (Ext.alloc (Ext.drew A1) _) _ | exact Ext.alloc (Ext.drew (Ext.alloc A1 _)) _ | exact Ext.drew (Ext.alloc (Ext.alloc A1 _) _)) : Ext Non w _).trans y3
         have p1 : w3.cell? ⟨w.heap.size + 1, 0, none⟩ = some (.int .i64 0) := cell_of_heap (cur := [.int .i64 0, .float .f64 0]) P3.r rfl
         have p2 : w3.cell? ⟨w.heap.size + 1, 1, none⟩ = some (.float .f64 0) := cell_of_heap (cur := [.int .i64 0, .float .f64 0]) P3.r rfl
         have p3 : w3.frozen? ⟨w.heap.size + 1, 0, none⟩ = false := froz_of_heap (cur := [.int .i64 0, .float .f64 0]) P3.r
         have p4 : w3.frozen? ⟨w.heap.size + 1, 1, none⟩ = false := froz_of_heap (cur := [.int .i64 0, .float .f64 0]) P3.r))
    all_goals
      obtain ⟨y00, y0, y1⟩ := res2 (v0 := .int .i64 (moveC (joinE g.next id))) (v1 := .float .f64 0) p1 p2
      go_wp2
      refine bodyPost_ret (by simp [results, Tryz.results55, go_sem, y00, y0, y1]; try rfl) rfl ?_
      obtain ⟨E1, E2⟩ := ap_end (.int .i64 (moveC (joinE g.next id))) (.float .f64 0) P3 (A3.ofNon (S := Two b m)) hlt hml (HH.out.extN A3)
      exact ⟨rfl, E1, E2⟩
set_option maxHeartbeats 1000000 in
set_option maxRecDepth 100000 in
theorem apply_leave (b m : Nat) (g : Lg) (key : ByteArray) (x : Nat) (id : Int) (w : World) (h : LD zn w b m g) : Calls Tryz.prog 55 #[.pointer (some ⟨b, 0, none⟩), .agg #[.int .i64 7, .string key, .float .f64 x, .int .i64 id]] w fun e w' =>
    e = .returned (.agg #[.int .i64 (moveC (leaveE g.next id)), .float .f64 0]) ∧ Ext (Two b m) w w' ∧ LD zn w' b m (moveL g (leaveL g.next id) (leaveE g.next id)) := by
  obtain ⟨a1, c1, a2, c2, r, i1, i2, f1, f2⟩ := h.ex
  have q2 : w.cell? ⟨b, 2, none⟩ = some (.slice a2 g.next.length c2) := cell_of_heap r rfl
  have hlt := h.lt
  have hml := h.mp.lt
  have HH := hI_ h
  have I2 := hI_ i2
  clear h r i1 i2 f1 f2
  have AP := hI_ (ApW.of (w := w) (b := b) (k := 7) (key := key) (x := x) (id := id))
  have A1 : Ext Non w ((w.alloc (.cells #[.int .i64 7, .string key, .float .f64 x, .int .i64 id] 52)).alloc (.cells #[.int .i64 0, .float .f64 0] 48)) := ((Ext.refl _ _).alloc _).alloc _
  have W0 := Ext.refl Non ((w.alloc (.cells #[.int .i64 7, .string key, .float .f64 x, .int .i64 id] 52)).alloc (.cells #[.int .i64 0, .float .f64 0] 48))
  have W1 := Ext.refl (fun k => k = b ∨ k = w.heap.size + 1) ((w.alloc (.cells #[.int .i64 7, .string key, .float .f64 x, .int .i64 id] 52)).alloc (.cells #[.int .i64 0, .float .f64 0] 48))
  have hbx : ∀ w', Ext (fun k => k = b ∨ k = w.heap.size + 1) ((w.alloc (.cells #[.int .i64 7, .string key, .float .f64 x, .int .i64 id] 52)).alloc (.cells #[.int .i64 0, .float .f64 0] 48)) w' → w'.cell? ⟨w.heap.size, 3, none⟩ = some (.int .i64 id) := by
    intro w' y
    have e := (y.block w.heap.size (by simp; omega) (fun s => by rcases s with s | s <;> omega)).trans AP.out.o
    exact cell_of_heap (cur := [.int .i64 7, .string key, .float .f64 x, .int .i64 id]) e rfl
  have BX := hI_ hbx; clear hbx
  by_cases hj : leaveE g.next id = 0
  · have HJ := hI_ hj
    have HE : Hid (moveL g (leaveL g.next id) (leaveE g.next id) = setNext g (leaveL g.next id) ∧ moveC (leaveE g.next id) = 0) := hI_ (by unfold moveL moveC; rw [if_pos hj, if_pos hj]; exact ⟨rfl, rfl⟩)
    clear hj
    rw [HE.out.1, HE.out.2]
    go_enter Tryz.func55, Tryz.ntmps55
    go_wp2_with fail
    go_region_with
      (first
      | (go_at_call 92
         refine Calls.mono (leave_ok _ _ _ _ HJ.out _ (I2.out.extN (by (first | exact A1 | exact Ext.drew A1 | exact Ext.alloc A1 _ | exact Ext.alloc (Ext.drew A1) _ | exact Ext.drew (Ext.alloc A1 _) | exact Ext.alloc (Ext.alloc A1 _) _ | exact Ext.alloc (Ext.alloc (Ext.drew A1) _) _ | exact Ext.alloc (Ext.drew (Ext.alloc A1 _)) _ | exact Ext.drew (Ext.alloc (Ext.alloc A1 _) _))))) ?_
         rintro e w2 ⟨a, cp, rfl, y, hI, hf⟩
         have W2 := (by (first | exact W1 | exact Ext.drew W1 | exact Ext.alloc W1 _ | exact Ext.alloc (Ext.drew W1) _ | exact Ext.drew (Ext.alloc W1 _) | exact Ext.alloc (Ext.alloc W1 _) _ | exact Ext.alloc (Ext.alloc (Ext.drew W1) _) _ | exact Ext.alloc (Ext.drew (Ext.alloc W1 _)) _ | exact Ext.drew (Ext.alloc (Ext.alloc W1 _) _)) : Ext (fun k => k = b ∨ k = w.heap.size + 1) _ _).trans y.ofNon
         have A2 : Ext Non w w2 := (by (first | exact A1 | exact Ext.drew A1 | exact Ext.alloc A1 _ | exact Ext.alloc (Ext.drew A1) _ | exact Ext.drew (Ext.alloc A1 _) | exact Ext.alloc (Ext.alloc A1 _) _ | exact Ext.alloc (Ext.alloc (Ext.drew A1) _) _ | exact Ext.alloc (Ext.drew (Ext.alloc A1 _)) _ | exact Ext.drew (Ext.alloc (Ext.alloc A1 _) _)) : Ext Non w _).trans y
         have P2 := AP.out.ext (S := Non) ((by (first | exact W0 | exact Ext.drew W0 | exact Ext.alloc W0 _ | exact Ext.alloc (Ext.drew W0) _ | exact Ext.drew (Ext.alloc W0 _) | exact Ext.alloc (Ext.alloc W0 _) _ | exact Ext.alloc (Ext.alloc (Ext.drew W0) _) _ | exact Ext.alloc (Ext.drew (Ext.alloc W0 _)) _ | exact Ext.drew (Ext.alloc (Ext.alloc W0 _) _)) : Ext Non _ _).trans y) (fun f => f) (fun f => f))
      | (go_at_call 90
         refine Calls.mono (ledger_move_ok b m g a cp _ _ (HH.out.extN (by (first | exact A2 | exact Ext.drew A2 | exact Ext.alloc A2 _ | exact Ext.alloc (Ext.drew A2) _ | exact Ext.drew (Ext.alloc A2 _) | exact Ext.alloc (Ext.alloc A2 _) _ | exact Ext.alloc (Ext.alloc (Ext.drew A2) _) _ | exact Ext.alloc (Ext.drew (Ext.alloc A2 _)) _ | exact Ext.drew (Ext.alloc (Ext.alloc A2 _) _)))) hI (hf.typedZ (by have := HH.out.zlt; first | omega | (simp; omega)))) ?_
         rintro e w3 ⟨rfl, y3, L3⟩
         have W3 := W2.trans (y3.mono fun k _ s => .inl s)
         have P3 := P2.ext y3 (fun s => by have s : w.heap.size = b := s; omega) (fun s => by have s : w.heap.size + 1 = b := s; omega)
         have p1 : w3.cell? ⟨w.heap.size + 1, 0, none⟩ = some (.int .i64 0) := cell_of_heap (cur := [.int .i64 0, .float .f64 0]) P3.r rfl
         have p2 : w3.cell? ⟨w.heap.size + 1, 1, none⟩ = some (.float .f64 0) := cell_of_heap (cur := [.int .i64 0, .float .f64 0]) P3.r rfl
         have p3 : w3.frozen? ⟨w.heap.size + 1, 0, none⟩ = false := froz_of_heap (cur := [.int .i64 0, .float .f64 0]) P3.r
         have p4 : w3.frozen? ⟨w.heap.size + 1, 1, none⟩ = false := froz_of_heap (cur := [.int .i64 0, .float .f64 0]) P3.r))
    all_goals
      obtain ⟨y00, y0, y1⟩ := res2 (v0 := .int .i64 0) (v1 := .float .f64 0) p1 p2
      go_wp2
      refine bodyPost_ret (by simp [results, Tryz.results55, go_sem, y00, y0, y1]; try rfl) rfl ?_
      have Y3 : Ext (Two b m) w w3 := (A2.ofNon (S := Two b m)).step y3 (fun k _ s => .inl s)
      obtain ⟨E1, E2⟩ := ap_end (.int .i64 0) (.float .f64 0) P3 Y3 hlt hml L3
      exact ⟨rfl, E1, E2⟩
  · have HJ := hI_ hj
    have HE : Hid (moveL g (leaveL g.next id) (leaveE g.next id) = g) := hI_ (by unfold moveL; rw [if_neg hj])
    have HC := hI_ (leave_codes g.next id hj)
    clear hj
    rw [HE.out]
    go_enter Tryz.func55, Tryz.ntmps55
    go_wp2_with fail
    go_region_with
      (first
      | (go_at_call 92
         refine Calls.mono (leave_no _ _ _ _ HJ.out _ (I2.out.extN (by (first | exact A1 | exact Ext.drew A1 | exact Ext.alloc A1 _ | exact Ext.alloc (Ext.drew A1) _ | exact Ext.drew (Ext.alloc A1 _) | exact Ext.alloc (Ext.alloc A1 _) _ | exact Ext.alloc (Ext.alloc (Ext.drew A1) _) _ | exact Ext.alloc (Ext.drew (Ext.alloc A1 _)) _ | exact Ext.drew (Ext.alloc (Ext.alloc A1 _) _))))) ?_
         rintro e w2 ⟨rfl, rfl⟩)
      | (go_at_call 90
         refine Calls.mono (ledger_move_no b 0 0 none _ HC.out _) ?_
         rintro e w3 ⟨rfl, y3⟩
         have W3 := (by (first | exact W1 | exact Ext.drew W1 | exact Ext.alloc W1 _ | exact Ext.alloc (Ext.drew W1) _ | exact Ext.drew (Ext.alloc W1 _) | exact Ext.alloc (Ext.alloc W1 _) _ | exact Ext.alloc (Ext.alloc (Ext.drew W1) _) _ | exact Ext.alloc (Ext.drew (Ext.alloc W1 _)) _ | exact Ext.drew (Ext.alloc (Ext.alloc W1 _) _)) : Ext (fun k => k = b ∨ k = w.heap.size + 1) _ _).trans y3.ofNon
         have P3 := AP.out.ext (S := Non) ((by (first | exact W0 | exact Ext.drew W0 | exact Ext.alloc W0 _ | exact Ext.alloc (Ext.drew W0) _ | exact Ext.drew (Ext.alloc W0 _) | exact Ext.alloc (Ext.alloc W0 _) _ | exact Ext.alloc (Ext.alloc (Ext.drew W0) _) _ | exact Ext.alloc (Ext.drew (Ext.alloc W0 _)) _ | exact Ext.drew (Ext.alloc (Ext.alloc W0 _) _)) : Ext Non _ _).trans y3) (fun f => f) (fun f => f)
         have A3 : Ext Non w w3 := (by (first | exact A1 | exact Ext.drew A1 | exact Ext.alloc A1 _ | exact Ext.alloc (Ext.drew A1) _ | exact Ext.drew (Ext.alloc A1 _) | exact Ext.alloc (Ext.alloc A1 _) _ | exact Ext.alloc (Ext.alloc (Ext.drew A1) _) _ | exact Ext.alloc (Ext.drew (Ext.alloc A1 _)) _ | exact Ext.drew (Ext.alloc (Ext.alloc A1 _) _)) : Ext Non w _).trans y3
         have p1 : w3.cell? ⟨w.heap.size + 1, 0, none⟩ = some (.int .i64 0) := cell_of_heap (cur := [.int .i64 0, .float .f64 0]) P3.r rfl
         have p2 : w3.cell? ⟨w.heap.size + 1, 1, none⟩ = some (.float .f64 0) := cell_of_heap (cur := [.int .i64 0, .float .f64 0]) P3.r rfl
         have p3 : w3.frozen? ⟨w.heap.size + 1, 0, none⟩ = false := froz_of_heap (cur := [.int .i64 0, .float .f64 0]) P3.r
         have p4 : w3.frozen? ⟨w.heap.size + 1, 1, none⟩ = false := froz_of_heap (cur := [.int .i64 0, .float .f64 0]) P3.r))
    all_goals
      obtain ⟨y00, y0, y1⟩ := res2 (v0 := .int .i64 (moveC (leaveE g.next id))) (v1 := .float .f64 0) p1 p2
      go_wp2
      refine bodyPost_ret (by simp [results, Tryz.results55, go_sem, y00, y0, y1]; try rfl) rfl ?_
      obtain ⟨E1, E2⟩ := ap_end (.int .i64 (moveC (leaveE g.next id))) (.float .f64 0) P3 (A3.ofNon (S := Two b m)) hlt hml (HH.out.extN A3)
      exact ⟨rfl, E1, E2⟩
theorem LD.setMap {w w' : World} {b m : Nat} {g : Lg} {ks : Ks} (h : LD zn w b m g) (x : Ext (One m) w w') (hm : MapW w' m ks) : LD zn w' b m (setKeys g ks) := by
 have ns : NoInts (One m) w := fun k s => h.noInts k (.inr s)
 have hb := h.lt
 have hne := h.ne
 obtain ⟨a1, c1, a2, c2, r, i1, i2, f1, f2⟩ := h.ex
 exact ⟨⟨a1, c1, a2, c2, (x.block b hb (fun s => hne s)).trans r, i1.extT f1 x ns, i2.extT f2 x ns, f1.ext x ns, f2.ext x ns⟩, hm, Nat.lt_of_lt_of_le h.zlt x.size⟩
set_option maxHeartbeats 1000000 in
set_option maxRecDepth 100000 in
theorem apply_get (b m : Nat) (g : Lg) (key : ByteArray) (x : Nat) (id : Int) (w : World) (h : LD zn w b m g) (hk : hasK g.keys key = true) : Calls Tryz.prog 55 #[.pointer (some ⟨b, 0, none⟩), .agg #[.int .i64 5, .string key, .float .f64 x, .int .i64 id]] w fun e w' =>
  e = .returned (.agg #[.int .i64 0, .float .f64 (valK g.keys key)]) ∧ Ext (Two b m) w w' ∧ LD zn w' b m (setKeys g (setK g.keys key (valK g.keys key))) := by
 obtain ⟨a1, c1, a2, c2, r, i1, i2, f1, f2⟩ := h.ex
 have q4 : w.cell? ⟨b, 4, none⟩ = some (.map (some m)) := cell_of_heap r rfl
 have hlt := h.lt
 have hml := h.mp.lt
 have HH := hI_ h
 clear r i1 i2 f1 f2
 have AP := hI_ (ApW.of (w := w) (b := b) (k := 5) (key := key) (x := x) (id := id))
 have A1 : Ext Non w ((w.alloc (.cells #[.int .i64 5, .string key, .float .f64 x, .int .i64 id] 52)).alloc (.cells #[.int .i64 0, .float .f64 0] 48)) := ((Ext.refl _ _).alloc _).alloc _
 have hl : ∀ w', Ext Non w w' → (Instr.lookup 59 (.map (some m)) (.string key) true).run Tryz.prog w' = .ok (.tuple #[.float .f64 (valK g.keys key), .bool true]) w' := by
  intro w' y
  have := (h.mp.ext y (fun f => f)).lookup Tryz.underlying59 Tryz.underlying9 (zeroF w') key
  rw [hk] at this
  exact this
 have hl1 := hl _ (A1.drew)
 clear h hl hk
 generalize valK g.keys key = v at *
 go_enter Tryz.func55, Tryz.ntmps55
 go_wp2_with fail
 go_region
 go_wp2_with fail
 have A3 := A1.drew.drew
 obtain ⟨w5, hu, hM, hX⟩ := (HH.out.mp.ext A3 (fun f => f)).update Tryz.underlying59 Tryz.underlying9 key v
 have P5 := AP.out.ext (S := One m) ((((Ext.refl (One m) _).drew.drew)).trans hX) (fun s => by have s : w.heap.size = m := s; omega) (fun s => by have s : w.heap.size + 1 = m := s; omega)
 have L5 := hI_ ((HH.out.extN A3).setMap hX hM)
 have Y5 : Ext (Two b m) w w5 := (A3.ofNon (S := Two b m)).step hX (fun k _ s => .inr s)
 have p1 : w5.cell? ⟨w.heap.size + 1, 0, none⟩ = some (.int .i64 0) := cell_of_heap (cur := [.int .i64 0, .float .f64 0]) P5.r rfl
 have p2 : w5.cell? ⟨w.heap.size + 1, 1, none⟩ = some (.float .f64 0) := cell_of_heap (cur := [.int .i64 0, .float .f64 0]) P5.r rfl
 have p3 : w5.frozen? ⟨w.heap.size + 1, 0, none⟩ = false := froz_of_heap (cur := [.int .i64 0, .float .f64 0]) P5.r
 have p4 : w5.frozen? ⟨w.heap.size + 1, 1, none⟩ = false := froz_of_heap (cur := [.int .i64 0, .float .f64 0]) P5.r
 go_region
 obtain ⟨y00, y0, y1⟩ := res2 (v0 := .int .i64 0) (v1 := .float .f64 v) p1 p2
 go_wp2
 refine bodyPost_ret (by simp [results, Tryz.results55, go_sem, y00, y0, y1]; try rfl) rfl ?_
 obtain ⟨E1, E2⟩ := ap_end (.int .i64 0) (.float .f64 v) P5 Y5 hlt hml L5.out
 exact ⟨rfl, E1, E2⟩
set_option maxHeartbeats 1000000 in
set_option maxRecDepth 100000 in
theorem apply_put (b m : Nat) (g : Lg) (key : ByteArray) (x : Nat) (id : Int) (w : World) (h : LD zn w b m g) (hk : hasK g.keys key = true) : Calls Tryz.prog 55 #[.pointer (some ⟨b, 0, none⟩), .agg #[.int .i64 1, .string key, .float .f64 x, .int .i64 id]] w fun e w' =>
  e = .returned (.agg #[.int .i64 0, .float .f64 (canonN x)]) ∧ Ext (Two b m) w w' ∧ LD zn w' b m (setKeys g (setK g.keys key (canonN x))) := by
 obtain ⟨a1, c1, a2, c2, r, i1, i2, f1, f2⟩ := h.ex
 have q4 : w.cell? ⟨b, 4, none⟩ = some (.map (some m)) := cell_of_heap r rfl
 have hlt := h.lt
 have hml := h.mp.lt
 have HH := hI_ h
 clear r i1 i2 f1 f2
 have AP := hI_ (ApW.of (w := w) (b := b) (k := 1) (key := key) (x := x) (id := id))
 have A1 : Ext Non w ((w.alloc (.cells #[.int .i64 1, .string key, .float .f64 x, .int .i64 id] 52)).alloc (.cells #[.int .i64 0, .float .f64 0] 48)) := ((Ext.refl _ _).alloc _).alloc _
 have hl : ∀ w', Ext Non w w' → (Instr.lookup 59 (.map (some m)) (.string key) true).run Tryz.prog w' = .ok (.tuple #[.float .f64 (valK g.keys key), .bool true]) w' := by
  intro w' y
  have := (h.mp.ext y (fun f => f)).lookup Tryz.underlying59 Tryz.underlying9 (zeroF w') key
  rw [hk] at this
  exact this
 have hl1 := hl _ (A1.drew)
 clear h hl hk
 generalize valK g.keys key = v at *
 go_enter Tryz.func55, Tryz.ntmps55
 go_wp2_with fail
 go_region
 go_wp2_with (go_at_call 87; refine (reals_Canon _ _).mono ?_; rintro e w' ⟨rfl, rfl⟩)
 have A3 := A1.drew.drew
 obtain ⟨w5, hu, hM, hX⟩ := (HH.out.mp.ext A3 (fun f => f)).update Tryz.underlying59 Tryz.underlying9 key (canonN x)
 have P5 := AP.out.ext (S := One m) ((((Ext.refl (One m) _).drew.drew)).trans hX) (fun s => by have s : w.heap.size = m := s; omega) (fun s => by have s : w.heap.size + 1 = m := s; omega)
 have L5 := hI_ ((HH.out.extN A3).setMap hX hM)
 have Y5 : Ext (Two b m) w w5 := (A3.ofNon (S := Two b m)).step hX (fun k _ s => .inr s)
 have p1 : w5.cell? ⟨w.heap.size + 1, 0, none⟩ = some (.int .i64 0) := cell_of_heap (cur := [.int .i64 0, .float .f64 0]) P5.r rfl
 have p2 : w5.cell? ⟨w.heap.size + 1, 1, none⟩ = some (.float .f64 0) := cell_of_heap (cur := [.int .i64 0, .float .f64 0]) P5.r rfl
 have p3 : w5.frozen? ⟨w.heap.size + 1, 0, none⟩ = false := froz_of_heap (cur := [.int .i64 0, .float .f64 0]) P5.r
 have p4 : w5.frozen? ⟨w.heap.size + 1, 1, none⟩ = false := froz_of_heap (cur := [.int .i64 0, .float .f64 0]) P5.r
 go_region
 obtain ⟨y00, y0, y1⟩ := res2 (v0 := .int .i64 0) (v1 := .float .f64 (canonN x)) p1 p2
 go_wp2
 refine bodyPost_ret (by simp [results, Tryz.results55, go_sem, y00, y0, y1]; try rfl) rfl ?_
 obtain ⟨E1, E2⟩ := ap_end (.int .i64 0) (.float .f64 (canonN x)) P5 Y5 hlt hml L5.out
 exact ⟨rfl, E1, E2⟩
set_option maxHeartbeats 1000000 in
set_option maxRecDepth 100000 in
theorem apply_add (b m : Nat) (g : Lg) (key : ByteArray) (x : Nat) (id : Int) (w : World) (h : LD zn w b m g) (hk : hasK g.keys key = true) : Calls Tryz.prog 55 #[.pointer (some ⟨b, 0, none⟩), .agg #[.int .i64 2, .string key, .float .f64 x, .int .i64 id]] w fun e w' =>
  e = .returned (.agg #[.int .i64 0, .float .f64 (addN (valK g.keys key) x)]) ∧ Ext (Two b m) w w' ∧ LD zn w' b m (setKeys g (setK g.keys key (addN (valK g.keys key) x))) := by
 obtain ⟨a1, c1, a2, c2, r, i1, i2, f1, f2⟩ := h.ex
 have q4 : w.cell? ⟨b, 4, none⟩ = some (.map (some m)) := cell_of_heap r rfl
 have hlt := h.lt
 have hml := h.mp.lt
 have HH := hI_ h
 clear r i1 i2 f1 f2
 have AP := hI_ (ApW.of (w := w) (b := b) (k := 2) (key := key) (x := x) (id := id))
 have A1 : Ext Non w ((w.alloc (.cells #[.int .i64 2, .string key, .float .f64 x, .int .i64 id] 52)).alloc (.cells #[.int .i64 0, .float .f64 0] 48)) := ((Ext.refl _ _).alloc _).alloc _
 have hl : ∀ w', Ext Non w w' → (Instr.lookup 59 (.map (some m)) (.string key) true).run Tryz.prog w' = .ok (.tuple #[.float .f64 (valK g.keys key), .bool true]) w' := by
  intro w' y
  have := (h.mp.ext y (fun f => f)).lookup Tryz.underlying59 Tryz.underlying9 (zeroF w') key
  rw [hk] at this
  exact this
 have hl1 := hl _ (A1.drew)
 clear h hl hk
 generalize valK g.keys key = v at *
 go_enter Tryz.func55, Tryz.ntmps55
 go_wp2_with fail
 go_region
 go_wp2_with (go_at_call 93; refine (reals_Add _ _ _).mono ?_; rintro e w6 ⟨rfl, n, rfl⟩)
 have A3 := A1.drewN (1 + n + 1)
 obtain ⟨w5, hu, hM, hX⟩ := (HH.out.mp.ext A3 (fun f => f)).update Tryz.underlying59 Tryz.underlying9 key (addN v x)
 have P5 := AP.out.ext (S := One m) ((((Ext.refl (One m) _).drewN (1 + n + 1))).trans hX) (fun s => by have s : w.heap.size = m := s; omega) (fun s => by have s : w.heap.size + 1 = m := s; omega)
 have L5 := hI_ ((HH.out.extN A3).setMap hX hM)
 have Y5 : Ext (Two b m) w w5 := (A3.ofNon (S := Two b m)).step hX (fun k _ s => .inr s)
 have p1 : w5.cell? ⟨w.heap.size + 1, 0, none⟩ = some (.int .i64 0) := cell_of_heap (cur := [.int .i64 0, .float .f64 0]) P5.r rfl
 have p2 : w5.cell? ⟨w.heap.size + 1, 1, none⟩ = some (.float .f64 0) := cell_of_heap (cur := [.int .i64 0, .float .f64 0]) P5.r rfl
 have p3 : w5.frozen? ⟨w.heap.size + 1, 0, none⟩ = false := froz_of_heap (cur := [.int .i64 0, .float .f64 0]) P5.r
 have p4 : w5.frozen? ⟨w.heap.size + 1, 1, none⟩ = false := froz_of_heap (cur := [.int .i64 0, .float .f64 0]) P5.r
 go_region
 obtain ⟨y00, y0, y1⟩ := res2 (v0 := .int .i64 0) (v1 := .float .f64 (addN v x)) p1 p2
 go_wp2
 refine bodyPost_ret (by simp [results, Tryz.results55, go_sem, y00, y0, y1]; try rfl) rfl ?_
 obtain ⟨E1, E2⟩ := ap_end (.int .i64 0) (.float .f64 (addN v x)) P5 Y5 hlt hml L5.out
 exact ⟨rfl, E1, E2⟩
set_option maxHeartbeats 1000000 in
set_option maxRecDepth 100000 in
theorem apply_max (b m : Nat) (g : Lg) (key : ByteArray) (x : Nat) (id : Int) (w : World) (h : LD zn w b m g) (hk : hasK g.keys key = true) (hv : (valK g.keys key) < 18446744073709551616) (hx : x < 18446744073709551616) : Calls Tryz.prog 55 #[.pointer (some ⟨b, 0, none⟩), .agg #[.int .i64 3, .string key, .float .f64 x, .int .i64 id]] w fun e w' =>
  e = .returned (.agg #[.int .i64 0, .float .f64 (mostN (valK g.keys key) x)]) ∧ Ext (Two b m) w w' ∧ LD zn w' b m (setKeys g (setK g.keys key (mostN (valK g.keys key) x))) := by
 obtain ⟨a1, c1, a2, c2, r, i1, i2, f1, f2⟩ := h.ex
 have q4 : w.cell? ⟨b, 4, none⟩ = some (.map (some m)) := cell_of_heap r rfl
 have hlt := h.lt
 have hml := h.mp.lt
 have HH := hI_ h
 clear r i1 i2 f1 f2
 have AP := hI_ (ApW.of (w := w) (b := b) (k := 3) (key := key) (x := x) (id := id))
 have A1 : Ext Non w ((w.alloc (.cells #[.int .i64 3, .string key, .float .f64 x, .int .i64 id] 52)).alloc (.cells #[.int .i64 0, .float .f64 0] 48)) := ((Ext.refl _ _).alloc _).alloc _
 have hl : ∀ w', Ext Non w w' → (Instr.lookup 59 (.map (some m)) (.string key) true).run Tryz.prog w' = .ok (.tuple #[.float .f64 (valK g.keys key), .bool true]) w' := by
  intro w' y
  have := (h.mp.ext y (fun f => f)).lookup Tryz.underlying59 Tryz.underlying9 (zeroF w') key
  rw [hk] at this
  exact this
 have hl1 := hl _ (A1.drew)
 clear h hl hk
 generalize valK g.keys key = v at *
 go_enter Tryz.func55, Tryz.ntmps55
 go_wp2_with fail
 go_region
 go_wp2_with (go_at_call 94; refine (reals_Most _ _ hv hx _).mono ?_; rintro e w' ⟨rfl, rfl⟩)
 have A3 := A1.drew.drew
 obtain ⟨w5, hu, hM, hX⟩ := (HH.out.mp.ext A3 (fun f => f)).update Tryz.underlying59 Tryz.underlying9 key (mostN v x)
 have P5 := AP.out.ext (S := One m) ((((Ext.refl (One m) _).drew.drew)).trans hX) (fun s => by have s : w.heap.size = m := s; omega) (fun s => by have s : w.heap.size + 1 = m := s; omega)
 have L5 := hI_ ((HH.out.extN A3).setMap hX hM)
 have Y5 : Ext (Two b m) w w5 := (A3.ofNon (S := Two b m)).step hX (fun k _ s => .inr s)
 have p1 : w5.cell? ⟨w.heap.size + 1, 0, none⟩ = some (.int .i64 0) := cell_of_heap (cur := [.int .i64 0, .float .f64 0]) P5.r rfl
 have p2 : w5.cell? ⟨w.heap.size + 1, 1, none⟩ = some (.float .f64 0) := cell_of_heap (cur := [.int .i64 0, .float .f64 0]) P5.r rfl
 have p3 : w5.frozen? ⟨w.heap.size + 1, 0, none⟩ = false := froz_of_heap (cur := [.int .i64 0, .float .f64 0]) P5.r
 have p4 : w5.frozen? ⟨w.heap.size + 1, 1, none⟩ = false := froz_of_heap (cur := [.int .i64 0, .float .f64 0]) P5.r
 go_region
 obtain ⟨y00, y0, y1⟩ := res2 (v0 := .int .i64 0) (v1 := .float .f64 (mostN v x)) p1 p2
 go_wp2
 refine bodyPost_ret (by simp [results, Tryz.results55, go_sem, y00, y0, y1]; try rfl) rfl ?_
 obtain ⟨E1, E2⟩ := ap_end (.int .i64 0) (.float .f64 (mostN v x)) P5 Y5 hlt hml L5.out
 exact ⟨rfl, E1, E2⟩
set_option maxHeartbeats 1000000 in
set_option maxRecDepth 100000 in
theorem apply_new (b m : Nat) (g : Lg) (key : ByteArray) (x : Nat) (id : Int) (w : World) (h : LD zn w b m g) (hk : hasK g.keys key = false) (hn : g.keys.length ≠ 16) : Calls Tryz.prog 55 #[.pointer (some ⟨b, 0, none⟩), .agg #[.int .i64 1, .string key, .float .f64 x, .int .i64 id]] w fun e w' =>
  e = .returned (.agg #[.int .i64 0, .float .f64 (canonN x)]) ∧ Ext (Two b m) w w' ∧ LD zn w' b m (setKeys g (setK g.keys key (canonN x))) := by
 obtain ⟨a1, c1, a2, c2, r, i1, i2, f1, f2⟩ := h.ex
 have q4 : w.cell? ⟨b, 4, none⟩ = some (.map (some m)) := cell_of_heap r rfl
 have hlt := h.lt
 have hml := h.mp.lt
 have HH := hI_ h
 clear r i1 i2 f1 f2
 have AP := hI_ (ApW.of (w := w) (b := b) (k := 1) (key := key) (x := x) (id := id))
 have A1 : Ext Non w ((w.alloc (.cells #[.int .i64 1, .string key, .float .f64 x, .int .i64 id] 52)).alloc (.cells #[.int .i64 0, .float .f64 0] 48)) := ((Ext.refl _ _).alloc _).alloc _
 have hl : ∀ w', Ext Non w w' → (Instr.lookup 59 (.map (some m)) (.string key) true).run Tryz.prog w' = .ok (.tuple #[.float .f64 (valK g.keys key), .bool false]) w' := by
  intro w' y
  have := (h.mp.ext y (fun f => f)).lookup Tryz.underlying59 Tryz.underlying9 (zeroF w') key
  rw [hk] at this
  exact this
 have hl1 := hl _ (A1.drew)
 have hlen := (h.mp.ext A1.drew (fun f => f)).len Tryz.underlying59 3
 have ht : ((g.keys.length : Int) == 16) = false := by rw [beq_eq_false_iff_ne]; omega
 clear h hl hk
 generalize valK g.keys key = v at *
 go_enter Tryz.func55, Tryz.ntmps55
 go_wp2_with fail
 go_region
 go_wp2_with (go_at_call 87; refine (reals_Canon _ _).mono ?_; rintro e w' ⟨rfl, rfl⟩)
 have A3 := A1.drew.drew
 obtain ⟨w5, hu, hM, hX⟩ := (HH.out.mp.ext A3 (fun f => f)).update Tryz.underlying59 Tryz.underlying9 key (canonN x)
 have P5 := AP.out.ext (S := One m) ((((Ext.refl (One m) _).drew.drew)).trans hX) (fun s => by have s : w.heap.size = m := s; omega) (fun s => by have s : w.heap.size + 1 = m := s; omega)
 have L5 := hI_ ((HH.out.extN A3).setMap hX hM)
 have Y5 : Ext (Two b m) w w5 := (A3.ofNon (S := Two b m)).step hX (fun k _ s => .inr s)
 have p1 : w5.cell? ⟨w.heap.size + 1, 0, none⟩ = some (.int .i64 0) := cell_of_heap (cur := [.int .i64 0, .float .f64 0]) P5.r rfl
 have p2 : w5.cell? ⟨w.heap.size + 1, 1, none⟩ = some (.float .f64 0) := cell_of_heap (cur := [.int .i64 0, .float .f64 0]) P5.r rfl
 have p3 : w5.frozen? ⟨w.heap.size + 1, 0, none⟩ = false := froz_of_heap (cur := [.int .i64 0, .float .f64 0]) P5.r
 have p4 : w5.frozen? ⟨w.heap.size + 1, 1, none⟩ = false := froz_of_heap (cur := [.int .i64 0, .float .f64 0]) P5.r
 go_region
 obtain ⟨y00, y0, y1⟩ := res2 (v0 := .int .i64 0) (v1 := .float .f64 (canonN x)) p1 p2
 go_wp2
 refine bodyPost_ret (by simp [results, Tryz.results55, go_sem, y00, y0, y1]; try rfl) rfl ?_
 obtain ⟨E1, E2⟩ := ap_end (.int .i64 0) (.float .f64 (canonN x)) P5 Y5 hlt hml L5.out
 exact ⟨rfl, E1, E2⟩
set_option maxHeartbeats 1000000 in
set_option maxRecDepth 100000 in
theorem apply_cut (b m : Nat) (g : Lg) (key : ByteArray) (x : Nat) (id : Int) (w : World) (h : LD zn w b m g) (hk : hasK g.keys key = true) : Calls Tryz.prog 55 #[.pointer (some ⟨b, 0, none⟩), .agg #[.int .i64 4, .string key, .float .f64 x, .int .i64 id]] w fun e w' =>
  e = .returned (.agg #[.int .i64 0, .float .f64 (valK g.keys key)]) ∧ Ext (Two b m) w w' ∧ LD zn w' b m (setKeys g (delK g.keys key)) := by
 obtain ⟨a1, c1, a2, c2, r, i1, i2, f1, f2⟩ := h.ex
 have q4 : w.cell? ⟨b, 4, none⟩ = some (.map (some m)) := cell_of_heap r rfl
 have hlt := h.lt
 have hml := h.mp.lt
 have HH := hI_ h
 clear r i1 i2 f1 f2
 have AP := hI_ (ApW.of (w := w) (b := b) (k := 4) (key := key) (x := x) (id := id))
 have A1 : Ext Non w ((w.alloc (.cells #[.int .i64 4, .string key, .float .f64 x, .int .i64 id] 52)).alloc (.cells #[.int .i64 0, .float .f64 0] 48)) := ((Ext.refl _ _).alloc _).alloc _
 have hl : ∀ w', Ext Non w w' → (Instr.lookup 59 (.map (some m)) (.string key) true).run Tryz.prog w' = .ok (.tuple #[.float .f64 (valK g.keys key), .bool true]) w' := by
  intro w' y
  have := (h.mp.ext y (fun f => f)).lookup Tryz.underlying59 Tryz.underlying9 (zeroF w') key
  rw [hk] at this
  exact this
 have hl1 := hl _ (A1.drew)
 clear h hl hk
 generalize valK g.keys key = v at *
 go_enter Tryz.func55, Tryz.ntmps55
 go_wp2_with fail
 go_region
 go_wp2_with fail
 have A3 := A1.drew.drew
 obtain ⟨w5, hu, hM, hX⟩ := (HH.out.mp.ext A3 (fun f => f)).delete Tryz.underlying59 Tryz.underlying9 key 0
 have P5 := AP.out.ext (S := One m) ((((Ext.refl (One m) _).drew.drew)).trans hX) (fun s => by have s : w.heap.size = m := s; omega) (fun s => by have s : w.heap.size + 1 = m := s; omega)
 have L5 := hI_ ((HH.out.extN A3).setMap hX hM)
 have Y5 : Ext (Two b m) w w5 := (A3.ofNon (S := Two b m)).step hX (fun k _ s => .inr s)
 have p1 : w5.cell? ⟨w.heap.size + 1, 0, none⟩ = some (.int .i64 0) := cell_of_heap (cur := [.int .i64 0, .float .f64 0]) P5.r rfl
 have p2 : w5.cell? ⟨w.heap.size + 1, 1, none⟩ = some (.float .f64 0) := cell_of_heap (cur := [.int .i64 0, .float .f64 0]) P5.r rfl
 have p3 : w5.frozen? ⟨w.heap.size + 1, 0, none⟩ = false := froz_of_heap (cur := [.int .i64 0, .float .f64 0]) P5.r
 have p4 : w5.frozen? ⟨w.heap.size + 1, 1, none⟩ = false := froz_of_heap (cur := [.int .i64 0, .float .f64 0]) P5.r
 go_region
 obtain ⟨y00, y0, y1⟩ := res2 (v0 := .int .i64 0) (v1 := .float .f64 v) p1 p2
 go_wp2
 refine bodyPost_ret (by simp [results, Tryz.results55, go_sem, y00, y0, y1]; try rfl) rfl ?_
 obtain ⟨E1, E2⟩ := ap_end (.int .i64 0) (.float .f64 v) P5 Y5 hlt hml L5.out
 exact ⟨rfl, E1, E2⟩
set_option maxHeartbeats 1000000 in
set_option maxRecDepth 100000 in
theorem apply_none (b m : Nat) (g : Lg) (k : Int) (key : ByteArray) (x : Nat) (id : Int) (w : World) (h : LD zn w b m g) (hk : hasK g.keys key = false) (hks : k = 2 ∨ k = 3 ∨ k = 4 ∨ k = 5) : Calls Tryz.prog 55 #[.pointer (some ⟨b, 0, none⟩), .agg #[.int .i64 k, .string key, .float .f64 x, .int .i64 id]] w fun e w' =>
  e = .returned (.agg #[.int .i64 1, .float .f64 0]) ∧ Ext Non w w' := by
 obtain ⟨a1, c1, a2, c2, r, i1, i2, f1, f2⟩ := h.ex
 have q4 : w.cell? ⟨b, 4, none⟩ = some (.map (some m)) := cell_of_heap r rfl
 have hlt := h.lt
 clear r i1 i2 f1 f2
 have A1 : Ext Non w ((w.alloc (.cells #[.int .i64 k, .string key, .float .f64 x, .int .i64 id] 52)).alloc (.cells #[.int .i64 0, .float .f64 0] 48)) := ((Ext.refl _ _).alloc _).alloc _
 have hl : ∀ w', Ext Non w w' → (Instr.lookup 59 (.map (some m)) (.string key) true).run Tryz.prog w' = .ok (.tuple #[.float .f64 (valK g.keys key), .bool false]) w' := by
  intro w' y
  have := (h.mp.ext y (fun f => f)).lookup Tryz.underlying59 Tryz.underlying9 (zeroF w') key
  rw [hk] at this
  exact this
 have hl1 := hl _ (A1.drew)
 clear h hl hk
 generalize valK g.keys key = v at *
 rcases hks with rfl | rfl | rfl | rfl
 all_goals
  go_enter Tryz.func55, Tryz.ntmps55
  go_wp2_with fail
  go_region
  go_wp2
  go_returns
  exact ⟨rfl, (((Ext.refl _ _).alloc _).alloc _).drew⟩
set_option maxHeartbeats 1000000 in
set_option maxRecDepth 100000 in
theorem apply_full (b m : Nat) (g : Lg) (k : Int) (key : ByteArray) (x : Nat) (id : Int) (w : World) (h : LD zn w b m g) (hk : hasK g.keys key = false) (hks : k = 1) (hn : g.keys.length = 16) : Calls Tryz.prog 55 #[.pointer (some ⟨b, 0, none⟩), .agg #[.int .i64 k, .string key, .float .f64 x, .int .i64 id]] w fun e w' =>
  e = .returned (.agg #[.int .i64 2, .float .f64 0]) ∧ Ext Non w w' := by
 obtain ⟨a1, c1, a2, c2, r, i1, i2, f1, f2⟩ := h.ex
 have q4 : w.cell? ⟨b, 4, none⟩ = some (.map (some m)) := cell_of_heap r rfl
 have hlt := h.lt
 clear r i1 i2 f1 f2
 have A1 : Ext Non w ((w.alloc (.cells #[.int .i64 k, .string key, .float .f64 x, .int .i64 id] 52)).alloc (.cells #[.int .i64 0, .float .f64 0] 48)) := ((Ext.refl _ _).alloc _).alloc _
 have hl : ∀ w', Ext Non w w' → (Instr.lookup 59 (.map (some m)) (.string key) true).run Tryz.prog w' = .ok (.tuple #[.float .f64 (valK g.keys key), .bool false]) w' := by
  intro w' y
  have := (h.mp.ext y (fun f => f)).lookup Tryz.underlying59 Tryz.underlying9 (zeroF w') key
  rw [hk] at this
  exact this
 have hl1 := hl _ (A1.drew)
 have hlen := (h.mp.ext A1.drew (fun f => f)).len Tryz.underlying59 3
 rw [hn] at hlen
 clear h hl hk
 generalize valK g.keys key = v at *
 subst hks
 all_goals
  go_enter Tryz.func55, Tryz.ntmps55
  go_wp2_with fail
  go_region
  go_wp2
  go_returns
  exact ⟨rfl, (((Ext.refl _ _).alloc _).alloc _).drew⟩
end Go.Proofs.YtfefeepljbfcdaaGreat.Z
