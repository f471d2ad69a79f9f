/- Contracts of layer 2 (reals), and of its reference. -/
import Derived.Test.YtakbkpklfihfiaaProg
import Derived.Test.YtakbkpklfihfiaaF64
import Derived.Test.YtakbkpklfihfiaaKit
namespace Go.Proofs.Ytakbkpklfihfiaa
open Go.RowKit F64
set_option linter.unusedSimpArgs false
set_option linter.unusedVariables false

@[go_sem] theorem run_frombits (n : Int) (w : World) : (callFunc 77 #[.int .u64 n]).run Try.prog w = .ok (.value (.float .f64 n.toNat)) w := by kernel_rfl
@[go_sem] theorem run_bits (n : Nat) (w : World) : (callFunc 119 #[.float .f64 n]).run Try.prog w = .ok (.value (.int .u64 n)) w := by kernel_rfl
@[go_sem] theorem sp_feq (a b : Nat) : (FloatKind.f64.format.order a b == some Ordering.eq) = feq a b := rfl
@[go_sem] theorem sp_fneq (a b : Nat) : (FloatKind.f64.format.order a b != some Ordering.eq) = !feq a b := rfl
@[go_sem] theorem sp_flt (a b : Nat) : (FloatKind.f64.format.order a b == some Ordering.lt) = flt a b := rfl

theorem reals_Canon (x : Nat) (w : World) : Calls Try.prog 130 #[.float .f64 x] w fun e w' => e = .returned (.float .f64 (canonN x)) ∧ w = w' := by
  have H := feq_self x
  cases hw : wild x
  · have hc : canonN x = x := by simp [canonN, hw]
    rw [hc]
    rw [hw] at H; clear hw hc
    go_enter Try.func130, Try.ntmps130
    go_wp2
    go_ret
    exact ⟨rfl, rfl⟩
  · have hc : canonN x = nanN := by simp [canonN, hw]
    rw [hc]
    rw [hw] at H; clear hw hc
    go_enter Try.func130, Try.ntmps130
    go_wp2
    go_ret
    exact ⟨rfl, rfl⟩
theorem reals_Bits (x : Nat) (w : World) : Calls Try.prog 108 #[.float .f64 x] w fun e w' => e = .returned (.int .u64 (canonN x)) ∧ w = w' := by
  go_enter Try.func108, Try.ntmps108
  go_wp2_with (go_at_call 130; refine (reals_Canon _ _).mono ?_; rintro e w' ⟨rfl, rfl⟩)
  go_ret
  exact ⟨rfl, rfl⟩


/-- Wild, of the reference. -/
theorem ref_Wild (n : Nat) (w : World) : Calls Try.prog 120 #[.int .u64 n] w fun e w' => e = .returned (.bool (wild n)) ∧ w = w' := by
  go_enter Try.func120, Try.ntmps120
  go_wp2
  all_goals
    go_ret
    exact ⟨ret_bool (by unfold wild; rw [Bool.eq_iff_iff]; simp; omega), rfl⟩
theorem ref_Bits (x : Nat) (w : World) : Calls Try.prog 76 #[.float .f64 x] w fun e w' => e = .returned (.int .u64 (canonN x)) ∧ w = w' := by
  unfold canonN
  cases hw : wild x
  all_goals
    go_enter Try.func76, Try.ntmps76
    go_wp2_with (go_at_call 120; refine (ref_Wild _ _).mono ?_; rintro e w' ⟨rfl, rfl⟩)
    go_ret
    exact ⟨rfl, rfl⟩
end Go.Proofs.Ytakbkpklfihfiaa
