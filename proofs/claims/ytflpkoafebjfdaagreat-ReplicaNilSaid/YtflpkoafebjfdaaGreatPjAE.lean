/- Joined texts: Patience. What each proves stands at its head; no conditions beside those in its theorems. -/
import Derived.Test.YtflpkoafebjfdaaGreatProg
import Derived.Test.YtflpkoafebjfdaaGreatPjAB
/- Contracts of layer 17 (patience), and of its reference. -/
namespace Go.Proofs.YtflpkoafebjfdaaGreat
open Go.RowKit
set_option linter.unusedSimpArgs false
set_option linter.unusedVariables false

/-- A block of three cells: a number, a bool, a number (a timer; a reference's timer). -/
structure T3 (w : World) (b : Nat) (f : Int) (r : Bool) (e : Int) : Prop where
  c0 : w.cell? ⟨b, 0, none⟩ = some (.int .i64 f)
  c1 : w.cell? ⟨b, 1, none⟩ = some (.bool r)
  c2 : w.cell? ⟨b, 2, none⟩ = some (.int .i64 e)
  z0 : w.frozen? ⟨b, 0, none⟩ = false
  z1 : w.frozen? ⟨b, 1, none⟩ = false
  z2 : w.frozen? ⟨b, 2, none⟩ = false
theorem T3.lt {w : World} {b : Nat} {f : Int} {r : Bool} {e : Int} (h : T3 w b f r e) : b < w.heap.size := lt_of_cell h.c0
theorem T3.ext {w w' : World} {b : Nat} {f : Int} {r : Bool} {e : Int} {S : Nat → Prop} (h : T3 w b f r e) (k : Ext S w w') (hs : ¬ S b) : T3 w' b f r e := by
  have hb := h.lt
  exact ⟨(k.cell hb hs).trans h.c0, (k.cell hb hs).trans h.c1, (k.cell hb hs).trans h.c2, (k.froz hb hs).trans h.z0, (k.froz hb hs).trans h.z1, (k.froz hb hs).trans h.z2⟩
theorem T3.drewN {w : World} {b : Nat} {f : Int} {r : Bool} {e : Int} (h : T3 w b f r e) (n : Nat) : T3 (w.drewN n) b f r e := ⟨h.c0, h.c1, h.c2, h.z0, h.z1, h.z2⟩
theorem T3.drew {w : World} {b : Nat} {f : Int} {r : Bool} {e : Int} (h : T3 w b f r e) : T3 w.drew b f r e := ⟨h.c0, h.c1, h.c2, h.z0, h.z1, h.z2⟩
theorem T3.set1 {w : World} {b : Nat} {f : Int} {r : Bool} {e : Int} (h : T3 w b f r e) (x : Bool) : T3 (w.setCell ⟨b, 1, none⟩ (.bool x)) b f x e :=
  ⟨(World.cell?_setCell_other _ _ _ _ (by simp)).trans h.c0, World.cell?_setCell_same _ _ _ h.c1, (World.cell?_setCell_other _ _ _ _ (by simp)).trans h.c2, by simp [h.z0], by simp [h.z1], by simp [h.z2]⟩
theorem T3.set2 {w : World} {b : Nat} {f : Int} {r : Bool} {e : Int} (h : T3 w b f r e) (x : Int) : T3 (w.setCell ⟨b, 2, none⟩ (.int .i64 x)) b f r x :=
  ⟨(World.cell?_setCell_other _ _ _ _ (by simp)).trans h.c0, (World.cell?_setCell_other _ _ _ _ (by simp)).trans h.c1, World.cell?_setCell_same _ _ _ h.c2, by simp [h.z0], by simp [h.z1], by simp [h.z2]⟩

def waitI (f : Nat) : Int := 8 * 2 ^ f
def clipI (n : Int) : Int := min (max n 0) 1099511627776
/-- When it ends: as it was if it runs already. -/
def startE (r : Bool) (e now wait : Int) : Int := if r = true then e else clipI now + wait
def failF (f : Nat) : Nat := if f < 6 then f + 1 else f
theorem clip_bd (n : Int) : 0 ≤ clipI n ∧ clipI n ≤ 1099511627776 := by unfold clipI; omega
theorem wait_bd (f : Nat) (h : f ≤ 6) : 8 ≤ waitI f ∧ waitI f ≤ 512 := by
  have : f = 0 ∨ f = 1 ∨ f = 2 ∨ f = 3 ∨ f = 4 ∨ f = 5 ∨ f = 6 := by omega
  rcases this with rfl | rfl | rfl | rfl | rfl | rfl | rfl <;> decide
theorem pat_clip (n : Int) (w : World) : Calls Tryz.prog 161 #[.int .i64 n] w fun e w' => e = .returned (.int .i64 (clipI n)) ∧ w = w' := by
  go_enter Tryz.func161, Tryz.ntmps161
  go_wp2
  all_goals
    go_ret
    exact ⟨ret_int (by unfold clipI; omega), rfl⟩
theorem pat_Wait (b f : Nat) (r : Bool) (e : Int) (w : World) (h : T3 w b f r e) (hf : f ≤ 6) : Calls Tryz.prog 256 #[.pointer (some ⟨b, 0, none⟩)] w fun e w' => e = .returned (.int .i64 (waitI f)) ∧ w = w' := by
  obtain ⟨c0, c1, c2, z0, z1, z2⟩ := h
  have hh : f = 0 ∨ f = 1 ∨ f = 2 ∨ f = 3 ∨ f = 4 ∨ f = 5 ∨ f = 6 := by omega
  rcases hh with rfl | rfl | rfl | rfl | rfl | rfl | rfl
  all_goals
    go_enter Tryz.func256, Tryz.ntmps256
    go_wp2
    go_ret
    exact ⟨rfl, rfl⟩
theorem pat_Start (b f : Nat) (r : Bool) (e now : Int) (w : World) (h : T3 w b f r e) (hf : f ≤ 6) : Calls Tryz.prog 166 #[.pointer (some ⟨b, 0, none⟩), .int .i64 now] w fun e' w' =>
    e' = .returned (.tuple #[]) ∧ Ext (One b) w w' ∧ T3 w' b f true (startE r e now (waitI f)) := by
  have T := Go.Lib.hid h
  obtain ⟨c0, c1, c2, z0, z1, z2⟩ := h
  have cb := clip_bd now
  have wb := wait_bd f hf
  cases r
  · have hE : startE false e now (waitI f) = clipI now + waitI f := rfl
    rw [hE]; clear hE
    go_enter Tryz.func166, Tryz.ntmps166
    go_wp2_with (first | (go_at_call 161; refine (pat_clip _ _).mono ?_; rintro e w' ⟨rfl, rfl⟩) | (go_at_call 256; refine (pat_Wait b f true e _ (T.out.set1 true) hf).mono ?_; rintro e w' ⟨rfl, rfl⟩))
    go_returns
    exact ⟨rfl, ((Ext.refl _ _).set1 _).set1 _, (T.out.set1 true).set2 _⟩
  · have hE : startE true e now (waitI f) = e := rfl
    rw [hE]; clear hE
    go_enter Tryz.func166, Tryz.ntmps166
    go_wp2
    go_returns
    exact ⟨rfl, Ext.refl _ _, T.out⟩
theorem pat_New (w : World) : Calls Tryz.prog 43 #[] w fun e' w' => e' = .returned (.pointer (some ⟨w.heap.size, 0, none⟩)) ∧ Ext Non w w' ∧ T3 w' w.heap.size 0 false 0 := by
  go_enter Tryz.func43, Tryz.ntmps43
  go_wp2
  go_ret
  refine ⟨rfl, (Ext.refl _ _).alloc _, ?_⟩
  constructor <;> simp [go_sem]

end Go.Proofs.YtflpkoafebjfdaaGreat
