/- Contracts of layer 17 (patience), and of its reference. -/
import Derived.Test.YtpinccdapjfkpaaProg
import Derived.Test.YtpinccdapjfkpaaKit
namespace Go.Proofs.Ytpinccdapjfkpaa
open Go.RowKit
set_option linter.unusedSimpArgs false
set_option linter.unusedVariables false

/-- A block of three cells: a number, a bool, a number (a timer; a reference's timer). -/
structure T3 (w : World) (b : Nat) (f : Int) (r : Bool) (e : Int) : Prop where
  c0 : w.cell? ⟨b, 0, none⟩ = some (.int .i64 f)
  c1 : w.cell? ⟨b, 1, none⟩ = some (.bool r)
  c2 : w.cell? ⟨b, 2, none⟩ = some (.int .i64 e)
  z0 : w.frozen? ⟨b, 0, none⟩ = false
  z1 : w.frozen? ⟨b, 1, none⟩ = false
  z2 : w.frozen? ⟨b, 2, none⟩ = false
theorem T3.lt {w : World} {b : Nat} {f : Int} {r : Bool} {e : Int} (h : T3 w b f r e) : b < w.heap.size := lt_of_cell h.c0
theorem T3.ext {w w' : World} {b : Nat} {f : Int} {r : Bool} {e : Int} {S : Nat → Prop} (h : T3 w b f r e) (k : Ext S w w') (hs : ¬ S b) : T3 w' b f r e := by
  have hb := h.lt
  exact ⟨(k.cell hb hs).trans h.c0, (k.cell hb hs).trans h.c1, (k.cell hb hs).trans h.c2, (k.froz hb hs).trans h.z0, (k.froz hb hs).trans h.z1, (k.froz hb hs).trans h.z2⟩
theorem T3.drewN {w : World} {b : Nat} {f : Int} {r : Bool} {e : Int} (h : T3 w b f r e) (n : Nat) : T3 (w.drewN n) b f r e := ⟨h.c0, h.c1, h.c2, h.z0, h.z1, h.z2⟩
theorem T3.drew {w : World} {b : Nat} {f : Int} {r : Bool} {e : Int} (h : T3 w b f r e) : T3 w.drew b f r e := ⟨h.c0, h.c1, h.c2, h.z0, h.z1, h.z2⟩
theorem T3.set0 {w : World} {b : Nat} {f : Int} {r : Bool} {e : Int} (h : T3 w b f r e) (x : Int) : T3 (w.setCell ⟨b, 0, none⟩ (.int .i64 x)) b x r e :=
  ⟨World.cell?_setCell_same _ _ _ h.c0, (World.cell?_setCell_other _ _ _ _ (by simp)).trans h.c1, (World.cell?_setCell_other _ _ _ _ (by simp)).trans h.c2, by simp [h.z0], by simp [h.z1], by simp [h.z2]⟩
theorem T3.set1 {w : World} {b : Nat} {f : Int} {r : Bool} {e : Int} (h : T3 w b f r e) (x : Bool) : T3 (w.setCell ⟨b, 1, none⟩ (.bool x)) b f x e :=
  ⟨(World.cell?_setCell_other _ _ _ _ (by simp)).trans h.c0, World.cell?_setCell_same _ _ _ h.c1, (World.cell?_setCell_other _ _ _ _ (by simp)).trans h.c2, by simp [h.z0], by simp [h.z1], by simp [h.z2]⟩
theorem T3.set2 {w : World} {b : Nat} {f : Int} {r : Bool} {e : Int} (h : T3 w b f r e) (x : Int) : T3 (w.setCell ⟨b, 2, none⟩ (.int .i64 x)) b f r x :=
  ⟨(World.cell?_setCell_other _ _ _ _ (by simp)).trans h.c0, (World.cell?_setCell_other _ _ _ _ (by simp)).trans h.c1, World.cell?_setCell_same _ _ _ h.c2, by simp [h.z0], by simp [h.z1], by simp [h.z2]⟩

def waitI (f : Nat) : Int := 8 * 2 ^ f
def clipI (n : Int) : Int := min (max n 0) 1099511627776
/-- When it ends: as it was if it runs already. -/
def startE (r : Bool) (e now wait : Int) : Int := if r = true then e else clipI now + wait
def failF (f : Nat) : Nat := if f < 6 then f + 1 else f
theorem clip_bd (n : Int) : 0 ≤ clipI n ∧ clipI n ≤ 1099511627776 := by unfold clipI; omega
theorem wait_bd (f : Nat) (h : f ≤ 6) : 8 ≤ waitI f ∧ waitI f ≤ 512 := by
  have : f = 0 ∨ f = 1 ∨ f = 2 ∨ f = 3 ∨ f = 4 ∨ f = 5 ∨ f = 6 := by omega
  rcases this with rfl | rfl | rfl | rfl | rfl | rfl | rfl <;> decide
theorem wait_lt (f : Nat) (h : f ≤ 6) : waitI f < 512 ↔ f < 6 := by
  have : f = 0 ∨ f = 1 ∨ f = 2 ∨ f = 3 ∨ f = 4 ∨ f = 5 ∨ f = 6 := by omega
  rcases this with rfl | rfl | rfl | rfl | rfl | rfl | rfl <;> decide
theorem fail_le (f : Nat) (h : f ≤ 6) : failF f ≤ 6 := by unfold failF; split <;> omega
theorem wait_fail (f : Nat) (h : f ≤ 6) : waitI (failF f) = min (2 * waitI f) 512 := by
  have : f = 0 ∨ f = 1 ∨ f = 2 ∨ f = 3 ∨ f = 4 ∨ f = 5 ∨ f = 6 := by omega
  rcases this with rfl | rfl | rfl | rfl | rfl | rfl | rfl <;> decide

theorem pat_clip (n : Int) (w : World) : Calls Try.prog 46 #[.int .i64 n] w fun e w' => e = .returned (.int .i64 (clipI n)) ∧ w = w' := by
  go_enter Try.func46, Try.ntmps46
  go_wp2
  all_goals
    go_ret
    exact ⟨ret_int (by unfold clipI; omega), rfl⟩
theorem pat_Wait (b f : Nat) (r : Bool) (e : Int) (w : World) (h : T3 w b f r e) (hf : f ≤ 6) : Calls Try.prog 28 #[.pointer (some ⟨b, 0, none⟩)] w fun e w' => e = .returned (.int .i64 (waitI f)) ∧ w = w' := by
  obtain ⟨c0, c1, c2, z0, z1, z2⟩ := h
  have hh : f = 0 ∨ f = 1 ∨ f = 2 ∨ f = 3 ∨ f = 4 ∨ f = 5 ∨ f = 6 := by omega
  rcases hh with rfl | rfl | rfl | rfl | rfl | rfl | rfl
  all_goals
    go_enter Try.func28, Try.ntmps28
    go_wp2
    go_ret
    exact ⟨rfl, rfl⟩
theorem pat_Running (b : Nat) (f : Int) (r : Bool) (e : Int) (w : World) (h : T3 w b f r e) : Calls Try.prog 32 #[.pointer (some ⟨b, 0, none⟩)] w fun e w' => e = .returned (.bool r) ∧ w = w' := by
  obtain ⟨c0, c1, c2, z0, z1, z2⟩ := h
  go_enter Try.func32, Try.ntmps32
  go_wp2
  go_ret
  exact ⟨rfl, rfl⟩
theorem pat_Due (b : Nat) (f : Int) (r : Bool) (e now : Int) (w : World) (h : T3 w b f r e) : Calls Try.prog 30 #[.pointer (some ⟨b, 0, none⟩), .int .i64 now] w fun e' w' => e' = .returned (.bool (r && decide (e ≤ clipI now))) ∧ ∃ n, w' = w.drewN n := by
  have T := Go.Lib.hid h
  obtain ⟨c0, c1, c2, z0, z1, z2⟩ := h
  cases r
  all_goals
    go_enter Try.func30, Try.ntmps30
    go_wp2_with fail
    go_quiet (first | (go_at_call 32; exact quiet_eq (pat_Running b f _ e _ (T.out.drewN _))) | (go_at_call 46; exact quiet_eq (pat_clip _ _)))
    go_wp2
    go_ret
    exact ⟨by simp, _, rfl⟩
theorem pat_Start (b f : Nat) (r : Bool) (e now : Int) (w : World) (h : T3 w b f r e) (hf : f ≤ 6) : Calls Try.prog 29 #[.pointer (some ⟨b, 0, none⟩), .int .i64 now] w fun e' w' =>
    e' = .returned (.tuple #[]) ∧ Ext (One b) w w' ∧ T3 w' b f true (startE r e now (waitI f)) := by
  have T := Go.Lib.hid h
  obtain ⟨c0, c1, c2, z0, z1, z2⟩ := h
  have cb := clip_bd now
  have wb := wait_bd f hf
  cases r
  · have hE : startE false e now (waitI f) = clipI now + waitI f := rfl
    rw [hE]; clear hE
    go_enter Try.func29, Try.ntmps29
    go_wp2_with (first | (go_at_call 46; refine (pat_clip _ _).mono ?_; rintro e w' ⟨rfl, rfl⟩) | (go_at_call 28; refine (pat_Wait b f true e _ (T.out.set1 true) hf).mono ?_; rintro e w' ⟨rfl, rfl⟩))
    go_returns
    exact ⟨rfl, ((Ext.refl _ _).set1 _).set1 _, (T.out.set1 true).set2 _⟩
  · have hE : startE true e now (waitI f) = e := rfl
    rw [hE]; clear hE
    go_enter Try.func29, Try.ntmps29
    go_wp2
    go_returns
    exact ⟨rfl, Ext.refl _ _, T.out⟩
theorem pat_Stop (b : Nat) (f : Int) (r : Bool) (e : Int) (w : World) (h : T3 w b f r e) : Calls Try.prog 31 #[.pointer (some ⟨b, 0, none⟩)] w fun e' w' =>
    e' = .returned (.tuple #[]) ∧ Ext (One b) w w' ∧ T3 w' b f false e := by
  have T := Go.Lib.hid h
  obtain ⟨c0, c1, c2, z0, z1, z2⟩ := h
  go_enter Try.func31, Try.ntmps31
  go_wp2
  go_returns
  exact ⟨rfl, (Ext.refl _ _).set1 _, T.out.set1 false⟩
theorem pat_Calm (b : Nat) (f : Int) (r : Bool) (e : Int) (w : World) (h : T3 w b f r e) : Calls Try.prog 48 #[.pointer (some ⟨b, 0, none⟩)] w fun e' w' =>
    e' = .returned (.tuple #[]) ∧ Ext (One b) w w' ∧ T3 w' b 0 r e := by
  have T := Go.Lib.hid h
  obtain ⟨c0, c1, c2, z0, z1, z2⟩ := h
  go_enter Try.func48, Try.ntmps48
  go_wp2
  go_returns
  exact ⟨rfl, (Ext.refl _ _).set1 _, T.out.set0 0⟩
theorem pat_Fail (b f : Nat) (r : Bool) (e : Int) (w : World) (h : T3 w b f r e) (hf : f ≤ 6) : Calls Try.prog 27 #[.pointer (some ⟨b, 0, none⟩)] w fun e' w' =>
    e' = .returned (.tuple #[]) ∧ Ext (One b) w w' ∧ T3 w' b (failF f : Nat) r e := by
  have T := Go.Lib.hid h
  obtain ⟨c0, c1, c2, z0, z1, z2⟩ := h
  have wl := wait_lt f hf
  by_cases h6 : f < 6
  · have hE : failF f = f + 1 := by simp [failF, h6]
    rw [hE]; clear hE
    have hw : decide (waitI f < 512) = true := decide_eq_true (wl.2 h6)
    clear wl
    go_enter Try.func27, Try.ntmps27
    go_wp2_with (first | (go_at_call 28; refine (pat_Wait b f r e _ T.out hf).mono ?_; rintro e w' ⟨rfl, rfl⟩))
    go_returns
    exact ⟨rfl, (Ext.refl _ _).set1 _, T.out.set0 _⟩
  · have hE : failF f = f := by simp [failF, h6]
    rw [hE]; clear hE
    have hw : decide (waitI f < 512) = false := decide_eq_false fun h => h6 (wl.1 h)
    clear wl h6
    go_enter Try.func27, Try.ntmps27
    go_wp2_with (first | (go_at_call 28; refine (pat_Wait b f r e _ T.out hf).mono ?_; rintro e w' ⟨rfl, rfl⟩))
    go_returns
    exact ⟨rfl, Ext.refl _ _, T.out⟩
theorem pat_New (w : World) : Calls Try.prog 26 #[] w fun e' w' => e' = .returned (.pointer (some ⟨w.heap.size, 0, none⟩)) ∧ Ext Non w w' ∧ T3 w' w.heap.size 0 false 0 := by
  go_enter Try.func26, Try.ntmps26
  go_wp2
  go_ret
  refine ⟨rfl, (Ext.refl _ _).alloc _, ?_⟩
  constructor <;> simp [go_sem]

/-! ### The reference -/
theorem ref_Time (n : Int) (w : World) : Calls Try.prog 49 #[.int .i64 n] w fun e w' => e = .returned (.int .i64 (clipI n)) ∧ w = w' := by
  go_enter Try.func49, Try.ntmps49
  go_wp2
  all_goals
    go_ret
    exact ⟨ret_int (by unfold clipI; omega), rfl⟩
theorem ref17_New (w : World) : Calls Try.prog 35 #[] w fun e' w' => e' = .returned (.agg #[.int .i64 8, .bool false, .int .i64 0]) ∧ Ext Non w w' := by
  go_enter Try.func35, Try.ntmps35
  go_wp2
  go_returns
  exact ⟨rfl, (Ext.refl _ _).alloc _⟩
theorem ref17_Start (b : Nat) (f : Int) (r : Bool) (e now : Int) (w : World) (h : T3 w b f r e) (h0 : 8 ≤ f) (h1 : f ≤ 512) : Calls Try.prog 37 #[.pointer (some ⟨b, 0, none⟩), .int .i64 now] w fun e' w' =>
    e' = .returned (.tuple #[]) ∧ Ext (One b) w w' ∧ T3 w' b f true (startE r e now f) := by
  have T := Go.Lib.hid h
  obtain ⟨c0, c1, c2, z0, z1, z2⟩ := h
  have cb := clip_bd now
  cases r
  · have hE : startE false e now f = clipI now + f := rfl
    rw [hE]; clear hE
    have hw : IntKind.i64.wrap (clipI now + f) = clipI now + f := IntWalk.i64_in _ (by omega)
    go_enter Try.func37, Try.ntmps37
    go_wp2_with fail
    go_region_with (first | (go_at_call 49; refine (ref_Time _ _).mono ?_; rintro e w' ⟨rfl, rfl⟩))
    all_goals
      go_wp2
      go_returns
      exact ⟨rfl, (((Ext.refl _ _).set1 _).set1 _).drew, ((T.out.set1 true).set2 _).drew⟩
  · have hE : startE true e now f = e := rfl
    rw [hE]; clear hE
    go_enter Try.func37, Try.ntmps37
    go_wp2
    go_returns
    exact ⟨rfl, Ext.refl _ _, T.out⟩
theorem ref17_Stop (b : Nat) (f : Int) (r : Bool) (e : Int) (w : World) (h : T3 w b f r e) : Calls Try.prog 38 #[.pointer (some ⟨b, 0, none⟩)] w fun e' w' =>
    e' = .returned (.tuple #[]) ∧ Ext (One b) w w' ∧ T3 w' b f false e := by
  have T := Go.Lib.hid h
  obtain ⟨c0, c1, c2, z0, z1, z2⟩ := h
  go_enter Try.func38, Try.ntmps38
  go_wp2
  go_returns
  exact ⟨rfl, (Ext.refl _ _).set1 _, T.out.set1 false⟩
theorem ref17_Calm (b : Nat) (f : Int) (r : Bool) (e : Int) (w : World) (h : T3 w b f r e) : Calls Try.prog 40 #[.pointer (some ⟨b, 0, none⟩)] w fun e' w' =>
    e' = .returned (.tuple #[]) ∧ Ext (One b) w w' ∧ T3 w' b 8 r e := by
  have T := Go.Lib.hid h
  obtain ⟨c0, c1, c2, z0, z1, z2⟩ := h
  go_enter Try.func40, Try.ntmps40
  go_wp2
  go_returns
  exact ⟨rfl, (Ext.refl _ _).set1 _, T.out.set0 8⟩
def dblI (f : Int) : Int := min (2 * f) 512
theorem ref17_Fail (b : Nat) (f : Int) (r : Bool) (e : Int) (w : World) (h : T3 w b f r e) (h0 : 8 ≤ f) (h1 : f ≤ 512) : Calls Try.prog 39 #[.pointer (some ⟨b, 0, none⟩)] w fun e' w' =>
    e' = .returned (.tuple #[]) ∧ Ext (One b) w w' ∧ T3 w' b (dblI f) r e := by
  have T := Go.Lib.hid h
  obtain ⟨c0, c1, c2, z0, z1, z2⟩ := h
  by_cases h2 : 512 < 2 * f
  · have e1 : dblI f = 512 := by unfold dblI; omega
    rw [e1]; clear e1
    go_enter Try.func39, Try.ntmps39
    go_wp2
    go_returns
    exact ⟨rfl, (Ext.refl _ _).set1 _, T.out.set0 _⟩
  · have e1 : dblI f = 2 * f := by unfold dblI; omega
    rw [e1]; clear e1
    go_enter Try.func39, Try.ntmps39
    go_wp2
    go_returns
    exact ⟨rfl, (Ext.refl _ _).set1 _, T.out.set0 _⟩
theorem ref17_Due (b : Nat) (f : Int) (r : Bool) (e now : Int) (w : World) (h : T3 w b f r e) : Calls Try.prog 41 #[.pointer (some ⟨b, 0, none⟩), .int .i64 now] w fun e' w' => e' = .returned (.bool (r && decide (e ≤ clipI now))) ∧ ∃ n, w' = w.drewN n := by
  have T := Go.Lib.hid h
  obtain ⟨c0, c1, c2, z0, z1, z2⟩ := h
  cases r
  all_goals
    go_enter Try.func41, Try.ntmps41
    go_wp2_with fail
    go_quiet (first | (go_at_call 49; exact quiet_eq (ref_Time _ _)))
    go_wp2
    go_ret
    exact ⟨by simp, _, rfl⟩
end Go.Proofs.Ytpinccdapjfkpaa
