/- Joined texts: Reals. What each proves stands at its head; no conditions beside those in its theorems. -/
import Derived.Test.YtfefeepljbfcdaaGreatProg
import Derived.Test.YtfefeepljbfcdaaGreatPjAD
import Derived.Test.YtfefeepljbfcdaaGreatPjAA
/- Contracts of layer 2 (reals), and of its reference. -/
namespace Go.Proofs.YtfefeepljbfcdaaGreat
open Go.RowKit F64
set_option linter.unusedSimpArgs false
set_option linter.unusedVariables false

@[go_sem] theorem run_frombits (n : Int) (w : World) : (callFunc 58 #[.int .u64 n]).run Tryz.prog w = .ok (.value (.float .f64 n.toNat)) w := by kernel_rfl
@[go_sem] theorem run_bits (n : Nat) (w : World) : (callFunc 70 #[.float .f64 n]).run Tryz.prog w = .ok (.value (.int .u64 n)) w := by kernel_rfl
@[go_sem] theorem sp_feq (a b : Nat) : (FloatKind.f64.format.order a b == some Ordering.eq) = feq a b := rfl
@[go_sem] theorem sp_fneq (a b : Nat) : (FloatKind.f64.format.order a b != some Ordering.eq) = !feq a b := rfl
@[go_sem] theorem sp_flt (a b : Nat) : (FloatKind.f64.format.order a b == some Ordering.lt) = flt a b := rfl

theorem reals_Canon (x : Nat) (w : World) : Calls Tryz.prog 87 #[.float .f64 x] w fun e w' => e = .returned (.float .f64 (canonN x)) ∧ w = w' := by
  have H := feq_self x
  cases hw : wild x
  · have hc : canonN x = x := by simp [canonN, hw]
    rw [hc]
    rw [hw] at H; clear hw hc
    go_enter Tryz.func87, Tryz.ntmps87
    go_wp2
    go_ret
    exact ⟨rfl, rfl⟩
  · have hc : canonN x = nanN := by simp [canonN, hw]
    rw [hc]
    rw [hw] at H; clear hw hc
    go_enter Tryz.func87, Tryz.ntmps87
    go_wp2
    go_ret
    exact ⟨rfl, rfl⟩
theorem reals_Bits (x : Nat) (w : World) : Calls Tryz.prog 50 #[.float .f64 x] w fun e w' => e = .returned (.int .u64 (canonN x)) ∧ w = w' := by
  go_enter Tryz.func50, Tryz.ntmps50
  go_wp2_with (go_at_call 87; refine (reals_Canon _ _).mono ?_; rintro e w' ⟨rfl, rfl⟩)
  go_ret
  exact ⟨rfl, rfl⟩


theorem math_Signbit (x : Nat) (hx : x < 18446744073709551616) (w : World) : Calls Tryz.prog 134 #[.float .f64 x] w fun e w' => e = .returned (.bool (negB x)) ∧ w = w' := by
  go_enter Tryz.func134, Tryz.ntmps134
  go_wp2
  go_ret
  exact ⟨ret_bool (by rw [negB_iff hx, Bool.eq_iff_iff]; unfold wrap64; simp; omega), rfl⟩

theorem reals_Less (x y : Nat) (hx : x < 18446744073709551616) (hy : y < 18446744073709551616) (w : World) : Calls Tryz.prog 116 #[.float .f64 x, .float .f64 y] w fun e w' => e = .returned (.bool (lessN x y)) ∧ w = w' := by
  have L := less_cases x y hx hy
  have H1 := feq_self x
  have H2 := feq_self y
  cases hw : wild x
  · cases hv : wild y
    · rw [hw, hv] at L; rw [hw] at H1; rw [hv] at H2; clear hw hv
      cases h3 : feq x y
      · rw [h3] at L; simp only [Bool.false_eq_true, if_false] at L; rw [L]; clear L
        go_enter Tryz.func116, Tryz.ntmps116
        go_wp2
        go_ret
        exact ⟨rfl, rfl⟩
      · rw [h3] at L; simp only [Bool.false_eq_true, if_false, if_true] at L; rw [L]; clear L
        cases hn : negB x
        all_goals
          go_enter Tryz.func116, Tryz.ntmps116
          go_wp2_with (go_at_call 134; refine (math_Signbit _ (by with_reducible first | exact hx | exact hy) _).mono ?_; rintro e w' ⟨rfl, rfl⟩)
          go_ret
          exact ⟨rfl, rfl⟩
    · rw [hw, hv] at L; rw [hw] at H1; rw [hv] at H2; clear hw hv
      simp only [Bool.false_eq_true, if_false, if_true] at L; rw [L]; clear L
      go_enter Tryz.func116, Tryz.ntmps116
      go_wp2
      go_ret
      exact ⟨rfl, rfl⟩
  · rw [hw] at L; rw [hw] at H1; clear hw H2
    simp only [if_true] at L; rw [L]; clear L
    go_enter Tryz.func116, Tryz.ntmps116
    go_wp2
    go_ret
    exact ⟨rfl, rfl⟩

theorem reals_Add (x y : Nat) (w : World) : Calls Tryz.prog 93 #[.float .f64 x, .float .f64 y] w fun e w' => e = .returned (.float .f64 (addN x y)) ∧ ∃ n, w' = w.drewN n := by
  cases h : Ieee.double.add x y with
  | some r =>
    have e1 : addN x y = canonN r := by unfold addN; rw [h]
    rw [e1]
    have hr : ∀ t (w : World), (binOp .add t (.float .f64 x) (.float .f64 y)).run Tryz.prog w = .ok (.float .f64 r) w := fun t w => run_float_arith w .add t .f64 x y r h
    clear h e1
    go_enter Tryz.func93, Tryz.ntmps93
    go_wp2_with (go_at_call 87; refine (reals_Canon _ _).mono ?_; rintro e w' ⟨rfl, rfl⟩)
    go_ret
    exact ⟨rfl, 0, rfl⟩
  | none =>
    rw [addN_none h]
    have hr : ∀ t (w : World), ∃ r, wild r = true ∧ (binOp .add t (.float .f64 x) (.float .f64 y)).run Tryz.prog w = .ok (.float .f64 r) w.drew := by
      intro t w
      refine ⟨Question.cut (.nanBits .f64 x y) (w.tape w.drawn (.nanBits .f64 x y)), ?_, ?_⟩
      · exact cut_wild _
      · have h' : Ieee.Format.add FloatKind.f64.format x y = none := h
        simp [binOp, Op.floatArith, h', Question.forced]
    obtain ⟨r, h1, h2⟩ := hr 46 w
    have e1 : canonN r = nanN := by simp [canonN, h1]
    clear hr h h1
    go_enter Tryz.func93, Tryz.ntmps93
    go_wp2_with (go_at_call 87; refine (reals_Canon _ _).mono ?_; rintro e w' ⟨rfl, rfl⟩)
    go_ret
    exact ⟨by rw [← e1]; rfl, 1, rfl⟩

/-- Wild, of the reference. -/
theorem ref_Wild (n : Nat) (w : World) : Calls Tryz.prog 71 #[.int .u64 n] w fun e w' => e = .returned (.bool (wild n)) ∧ w = w' := by
  go_enter Tryz.func71, Tryz.ntmps71
  go_wp2
  all_goals
    go_ret
    exact ⟨ret_bool (by unfold wild; rw [Bool.eq_iff_iff]; simp; omega), rfl⟩
theorem ref_Bits (x : Nat) (w : World) : Calls Tryz.prog 31 #[.float .f64 x] w fun e w' => e = .returned (.int .u64 (canonN x)) ∧ w = w' := by
  unfold canonN
  cases hw : wild x
  all_goals
    go_enter Tryz.func31, Tryz.ntmps31
    go_wp2_with (go_at_call 71; refine (ref_Wild _ _).mono ?_; rintro e w' ⟨rfl, rfl⟩)
    go_ret
    exact ⟨rfl, rfl⟩
set_option maxRecDepth 100000 in
theorem ref_Place (n : Nat) (hn : n < 18446744073709551616) (w : World) : Calls Tryz.prog 119 #[.int .u64 n] w fun e w' => e = .returned (.int .u64 (placeN n)) ∧ w = w' := by
  cases hw : wild n
  · by_cases h2 : 9223372036854775808 ≤ n
    · have e1 : (placeN n : Int) = 9223372036854775807 - (n : Int) % 9223372036854775808 := by simp [placeN, hw, h2]; omega
      have t1 : decide ((9223372036854775808 : Int) ≤ (n : Int)) = true := by simp; omega
      have H := Go.Lib.hid e1; clear e1 h2 hn
      go_enter Tryz.func119, Tryz.ntmps119
      go_wp2_with (go_at_call 71; refine (ref_Wild _ _).mono ?_; rintro e w' ⟨rfl, rfl⟩)
      go_ret
      exact ⟨ret_int (by rw [H.out]), rfl⟩
    · have e1 : (placeN n : Int) = 9223372036854775808 + (n : Int) := by simp [placeN, hw, h2]
      have t1 : decide ((9223372036854775808 : Int) ≤ (n : Int)) = false := by simp; omega
      have H := Go.Lib.hid e1; clear e1
      have Hn := Go.Lib.hid h2; clear h2 hn
      go_enter Tryz.func119, Tryz.ntmps119
      go_wp2_with (go_at_call 71; refine (ref_Wild _ _).mono ?_; rintro e w' ⟨rfl, rfl⟩)
      go_ret
      exact ⟨ret_int (by rw [H.out]; have := Hn.out; simp only [IntKind.wrap_u64]; omega), rfl⟩
  · have e1 : (placeN n : Int) = 18446744073709551615 := by simp [placeN, hw]
    rw [e1]; clear e1
    go_enter Tryz.func119, Tryz.ntmps119
    go_wp2_with (go_at_call 71; refine (ref_Wild _ _).mono ?_; rintro e w' ⟨rfl, rfl⟩)
    go_ret
    exact ⟨rfl, rfl⟩
theorem reals_Most (x y : Nat) (hx : x < 18446744073709551616) (hy : y < 18446744073709551616) (w : World) : Calls Tryz.prog 94 #[.float .f64 x, .float .f64 y] w fun e w' => e = .returned (.float .f64 (mostN x y)) ∧ w = w' := by
  cases h : lessN x y
  all_goals
    have e1 : mostN x y = if lessN x y = true then canonN y else canonN x := rfl
    rw [h] at e1
    simp only [Bool.false_eq_true, if_false, if_true] at e1
    rw [e1]; clear e1
    go_enter Tryz.func94, Tryz.ntmps94
    go_wp2_with (first | (go_at_call 116; refine (reals_Less _ _ hx hy _).mono ?_; rintro e w' ⟨rfl, rfl⟩) | (go_at_call 87; refine (reals_Canon _ _).mono ?_; rintro e w' ⟨rfl, rfl⟩))
    go_ret
    exact ⟨rfl, rfl⟩
theorem ref_Add (x y : Nat) (w : World) : Calls Tryz.prog 102 #[.float .f64 x, .float .f64 y] w fun e w' => e = .returned (.int .u64 (addN x y)) ∧ ∃ n, w' = w.drewN n := by
  cases h : Ieee.double.add x y with
  | some r =>
    have e1 : addN x y = canonN r := by unfold addN; rw [h]
    rw [e1]
    have hr : ∀ t (w : World), (binOp .add t (.float .f64 x) (.float .f64 y)).run Tryz.prog w = .ok (.float .f64 r) w := fun t w => run_float_arith w .add t .f64 x y r h
    clear h e1
    go_enter Tryz.func102, Tryz.ntmps102
    go_wp2_with (go_at_call 31; refine (ref_Bits _ _).mono ?_; rintro e w' ⟨rfl, rfl⟩)
    go_ret
    exact ⟨rfl, 0, rfl⟩
  | none =>
    rw [addN_none h]
    have hr : ∀ t (w : World), ∃ r, wild r = true ∧ (binOp .add t (.float .f64 x) (.float .f64 y)).run Tryz.prog w = .ok (.float .f64 r) w.drew := by
      intro t w
      refine ⟨Question.cut (.nanBits .f64 x y) (w.tape w.drawn (.nanBits .f64 x y)), ?_, ?_⟩
      · exact cut_wild _
      · have h' : Ieee.Format.add FloatKind.f64.format x y = none := h
        simp [binOp, Op.floatArith, h', Question.forced]
    obtain ⟨r, h1, h2⟩ := hr 46 w
    have e1 : canonN r = nanN := by simp [canonN, h1]
    clear hr h h1
    go_enter Tryz.func102, Tryz.ntmps102
    go_wp2_with (go_at_call 31; refine (ref_Bits _ _).mono ?_; rintro e w' ⟨rfl, rfl⟩)
    go_ret
    exact ⟨by rw [← e1]; rfl, 1, rfl⟩
theorem ref_Most (x y : Nat) (hx : x < 18446744073709551616) (hy : y < 18446744073709551616) (w : World) : Calls Tryz.prog 103 #[.float .f64 x, .float .f64 y] w fun e w' => e = .returned (.int .u64 (mostN x y)) ∧ w = w' := by
  have cx := canon_lt hx
  have cy := canon_lt hy
  have px := place_canon x
  have py := place_canon y
  have e1 : mostN x y = if lessN x y = true then canonN y else canonN x := rfl
  cases h : lessN x y
  all_goals
    rw [h] at e1
    simp only [Bool.false_eq_true, if_false, if_true] at e1
    rw [e1]; clear e1
    have t1 : decide (placeN x < placeN y) = lessN x y := rfl
    rw [h] at t1; clear h
    have C := Go.Lib.hid cx; have D := Go.Lib.hid cy; clear cx cy
    go_enter Tryz.func103, Tryz.ntmps103
    go_wp2_with (first | (go_at_call 31; refine (ref_Bits _ _).mono ?_; rintro e w' ⟨rfl, rfl⟩) | (go_at_call 119; refine (ref_Place _ (by with_reducible first | exact C.out | exact D.out) _).mono ?_; rintro e w' ⟨rfl, rfl⟩))
    go_ret
    exact ⟨rfl, rfl⟩
end Go.Proofs.YtfefeepljbfcdaaGreat
