/- Joined texts: Law12b. What each proves stands at its head; no conditions beside those in its theorems. -/
import Derived.Test.YtekbonciafbjiaaGreatPjAA
import Derived.Test.YtekbonciafbjiaaGreatPjAC
import Derived.Test.YtekbonciafbjiaaGreatPjAD
import Derived.Test.YtekbonciafbjiaaGreatPjAG
import Derived.Test.YtekbonciafbjiaaGreatPjAI
import Derived.Test.YtekbonciafbjiaaGreatPjAN
import Derived.Test.YtekbonciafbjiaaGreatPjAJ
import Derived.Test.YtekbonciafbjiaaGreatPjAS
import Derived.Test.YtekbonciafbjiaaGreatPjAT
import Derived.Test.YtekbonciafbjiaaGreatPjAU
import Derived.Test.YtekbonciafbjiaaGreatPjAV
/- The small functions of the statements of layer 12, continued; lives. -/
namespace Go.Proofs.YtekbonciafbjiaaGreat
open Go.RowKit F64
set_option linter.unusedSimpArgs false
set_option linter.unusedVariables false
attribute [local go_sem] run_store_float

set_option maxHeartbeats 1000000 in
theorem ref_Same (p1 : Int) (a1 : Option Addr) (c1 : Nat) (xs : List Int) (p2 : Int) (a2 : Option Addr) (c2 : Nat) (ys : List Int) (w : World) (h1 : Ints w a1 c1 xs) (h2 : Ints w a2 c2 ys) :
    Calls Tryz.prog 16 #[.agg #[.int .i64 p1, .slice a1 xs.length c1], .agg #[.int .i64 p2, .slice a2 ys.length c2]] w fun e w' => e = .returned (.bool (decide (p1 = p2) && decide (xs = ys))) ∧ Ext Non w w' := by
  have H1 := Go.Lib.hid h1
  have H2 := Go.Lib.hid h2
  clear h1 h2
  by_cases hp : p1 = p2
  · subst hp
    go_enter Tryz.func16, Tryz.ntmps16
    go_wp2_with fail
    refine (ref_SameInts _ _ _ _ _ _ _ (H1.out.extN (((Ext.refl _ _).alloc _).alloc _)) (H2.out.extN (((Ext.refl _ _).alloc _).alloc _))).mono ?_
    rintro e w1 ⟨rfl, y⟩
    generalize hd : decide (xs = ys) = d
    have HD := Go.Lib.hid hd; clear hd
    go_wp2
    go_returns
    exact ⟨by simp; exact HD.out.symm, (((Ext.refl _ _).alloc _).alloc _).trans y⟩
  · have hb : (p1 == p2) = false := by rw [beq_eq_false_iff_ne]; exact hp
    have HF := Go.Lib.hid (show (decide (p1 = p2) && decide (xs = ys)) = false by rw [decide_eq_false hp]; rfl)
    go_enter Tryz.func16, Tryz.ntmps16
    go_wp2
    go_returns
    exact ⟨by rw [HF.out]; rfl, ((Ext.refl _ _).alloc _).alloc _⟩
theorem ref_SameResult (k1 k2 : Int) (x1 x2 : Nat) (w : World) : Calls Tryz.prog 17 #[.agg #[.int .i64 k1, .float .f64 x1], .agg #[.int .i64 k2, .float .f64 x2]] w fun e w' => e = .returned (.bool (decide (k1 = k2) && decide (canonN x1 = canonN x2))) ∧ Ext Non w w' := by
  by_cases hp : k1 = k2
  · subst hp
    have hb : (((canonN x1 : Nat) : Int) == ((canonN x2 : Nat) : Int)) = decide (canonN x1 = canonN x2) := by rw [Bool.eq_iff_iff]; simp; omega
    have HF := Go.Lib.hid (show (decide (k1 = k1) && decide (canonN x1 = canonN x2)) = decide (canonN x1 = canonN x2) by simp)
    go_enter Tryz.func17, Tryz.ntmps17
    go_wp2_with fail
    go_quiet (first | (go_at_call 42; exact quiet_eq (ref_Bits _ _)))
    go_wp2
    go_returns
    exact ⟨by rw [HF.out, ← hb]; rfl, (((Ext.refl _ _).alloc _).alloc _).drewN _⟩
  · have hb : (k1 == k2) = false := by rw [beq_eq_false_iff_ne]; exact hp
    have HF := Go.Lib.hid (show (decide (k1 = k2) && decide (canonN x1 = canonN x2)) = false by rw [decide_eq_false hp]; rfl)
    go_enter Tryz.func17, Tryz.ntmps17
    go_wp2_with fail
    go_quiet (fail)
    go_wp2
    go_returns
    exact ⟨by rw [HF.out]; rfl, (((Ext.refl _ _).alloc _).alloc _).drewN _⟩

def l4 : List Int := [0, 1, 2, 3]
theorem l4_ok : membersB l4 = true := by decide
end Go.Proofs.YtekbonciafbjiaaGreat
