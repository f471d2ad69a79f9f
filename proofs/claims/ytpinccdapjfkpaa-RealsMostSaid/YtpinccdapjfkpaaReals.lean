/- Contracts of layer 2 (reals), and of its reference. -/
import Derived.Test.YtpinccdapjfkpaaProg
import Derived.Test.YtpinccdapjfkpaaF64
import Derived.WalkKit
import Derived.WalkLawsBesides
import Derived.Lib.Hide
namespace Go.Proofs.Ytpinccdapjfkpaa
open Go.RowKit F64
set_option linter.unusedSimpArgs false
set_option linter.unusedVariables false

@[go_sem] theorem run_frombits (n : Int) (w : World) : (callFunc 44 #[.int .u64 n]).run Try.prog w = .ok (.value (.float .f64 n.toNat)) w := by kernel_rfl
@[go_sem] theorem run_bits (n : Nat) (w : World) : (callFunc 19 #[.float .f64 n]).run Try.prog w = .ok (.value (.int .u64 n)) w := by kernel_rfl
@[go_sem] theorem sp_feq (a b : Nat) : (FloatKind.f64.format.order a b == some Ordering.eq) = feq a b := rfl
@[go_sem] theorem sp_fneq (a b : Nat) : (FloatKind.f64.format.order a b != some Ordering.eq) = !feq a b := rfl
@[go_sem] theorem sp_flt (a b : Nat) : (FloatKind.f64.format.order a b == some Ordering.lt) = flt a b := rfl

theorem reals_Canon (x : Nat) (w : World) : Calls Try.prog 20 #[.float .f64 x] w fun e w' => e = .returned (.float .f64 (canonN x)) ∧ w = w' := by
  have H := feq_self x
  cases hw : wild x
  · have hc : canonN x = x := by simp [canonN, hw]
    rw [hc]
    rw [hw] at H; clear hw hc
    go_enter Try.func20, Try.ntmps20
    go_wp2
    go_ret
    exact ⟨rfl, rfl⟩
  · have hc : canonN x = nanN := by simp [canonN, hw]
    rw [hc]
    rw [hw] at H; clear hw hc
    go_enter Try.func20, Try.ntmps20
    go_wp2
    go_ret
    exact ⟨rfl, rfl⟩
theorem reals_Bits (x : Nat) (w : World) : Calls Try.prog 17 #[.float .f64 x] w fun e w' => e = .returned (.int .u64 (canonN x)) ∧ w = w' := by
  go_enter Try.func17, Try.ntmps17
  go_wp2_with (go_at_call 20; refine (reals_Canon _ _).mono ?_; rintro e w' ⟨rfl, rfl⟩)
  go_ret
  exact ⟨rfl, rfl⟩

theorem ret_bool {a b : Bool} (h : a = b) : Ending.returned (.bool a) = .returned (.bool b) := by rw [h]
theorem ret_int {k : IntKind} {a b : Int} (h : a = b) : Ending.returned (.int k a) = .returned (.int k b) := by rw [h]

theorem reals_Same (x y : Nat) (w : World) : Calls Try.prog 23 #[.float .f64 x, .float .f64 y] w fun e w' => e = .returned (.bool (decide (canonN x = canonN y))) ∧ w = w' := by
  go_enter Try.func23, Try.ntmps23
  go_wp2_with (go_at_call 17; refine (reals_Bits _ _).mono ?_; rintro e w' ⟨rfl, rfl⟩)
  go_ret
  exact ⟨ret_bool (by rw [Bool.eq_iff_iff]; simp; omega), rfl⟩
theorem reals_From (n : Nat) (w : World) : Calls Try.prog 15 #[.int .u64 n] w fun e w' => e = .returned (.tuple #[.float .f64 (fromN n), .bool (fromB n)]) ∧ w = w' := by
  have H := feq_self n
  cases hw : wild n
  · have e1 : fromB n = true := by simp [fromB, hw]
    have e2 : fromN n = n := by simp [fromN, e1]
    rw [e1, e2]; rw [hw] at H; clear hw e1 e2
    go_enter Try.func15, Try.ntmps15
    go_wp2
    go_ret2
    exact ⟨rfl, rfl⟩
  · by_cases h2 : n = nanN
    · have e1 : fromB n = true := by simp [fromB, h2]
      have e2 : fromN n = n := by simp [fromN, e1]
      rw [e1, e2]; rw [hw] at H; clear hw e1 e2
      have h3 : ((n : Int) == 9221120237041090560) = true := by unfold nanN at h2; rw [beq_iff_eq]; omega
      have h4 : ((n : Int) != 9221120237041090560) = false := by unfold nanN at h2; rw [bne_eq_false_iff_eq]; omega
      clear h2
      go_enter Try.func15, Try.ntmps15
      go_wp2
      go_ret2
      exact ⟨rfl, rfl⟩
    · have e1 : fromB n = false := by simp [fromB, hw, h2]
      have e2 : fromN n = 0 := by simp [fromN, e1]
      rw [e1, e2]; rw [hw] at H; clear hw e1 e2
      have h3 : ((n : Int) == 9221120237041090560) = false := by unfold nanN at h2; rw [beq_eq_false_iff_ne]; omega
      have h4 : ((n : Int) != 9221120237041090560) = true := by unfold nanN at h2; rw [bne_iff_ne]; omega
      clear h2
      go_enter Try.func15, Try.ntmps15
      go_wp2
      go_ret2
      exact ⟨rfl, rfl⟩

theorem math_Signbit (x : Nat) (hx : x < 18446744073709551616) (w : World) : Calls Try.prog 47 #[.float .f64 x] w fun e w' => e = .returned (.bool (negB x)) ∧ w = w' := by
  go_enter Try.func47, Try.ntmps47
  go_wp2
  go_ret
  exact ⟨ret_bool (by rw [negB_iff hx, Bool.eq_iff_iff]; unfold wrap64; simp; omega), rfl⟩

theorem reals_Less (x y : Nat) (hx : x < 18446744073709551616) (hy : y < 18446744073709551616) (w : World) : Calls Try.prog 33 #[.float .f64 x, .float .f64 y] w fun e w' => e = .returned (.bool (lessN x y)) ∧ w = w' := by
  have L := less_cases x y hx hy
  have H1 := feq_self x
  have H2 := feq_self y
  cases hw : wild x
  · cases hv : wild y
    · rw [hw, hv] at L; rw [hw] at H1; rw [hv] at H2; clear hw hv
      cases h3 : feq x y
      · rw [h3] at L; simp only [Bool.false_eq_true, if_false] at L; rw [L]; clear L
        go_enter Try.func33, Try.ntmps33
        go_wp2
        go_ret
        exact ⟨rfl, rfl⟩
      · rw [h3] at L; simp only [Bool.false_eq_true, if_false, if_true] at L; rw [L]; clear L
        cases hn : negB x
        all_goals
          go_enter Try.func33, Try.ntmps33
          go_wp2_with (first | (go_at_call 47; refine (math_Signbit _ hx _).mono ?_; rintro e w' ⟨rfl, rfl⟩) | (go_at_call 47; refine (math_Signbit _ hy _).mono ?_; rintro e w' ⟨rfl, rfl⟩))
          go_ret
          exact ⟨rfl, rfl⟩
    · rw [hw, hv] at L; rw [hw] at H1; rw [hv] at H2; clear hw hv
      simp only [Bool.false_eq_true, if_false, if_true] at L; rw [L]; clear L
      go_enter Try.func33, Try.ntmps33
      go_wp2
      go_ret
      exact ⟨rfl, rfl⟩
  · rw [hw] at L; rw [hw] at H1; clear hw H2
    simp only [if_true] at L; rw [L]; clear L
    go_enter Try.func33, Try.ntmps33
    go_wp2
    go_ret
    exact ⟨rfl, rfl⟩

theorem reals_Add (x y : Nat) (w : World) : Calls Try.prog 21 #[.float .f64 x, .float .f64 y] w fun e w' => e = .returned (.float .f64 (addN x y)) ∧ ∃ n, w' = w.drewN n := by
  cases h : Ieee.double.add x y with
  | some r =>
    have e1 : addN x y = canonN r := by unfold addN; rw [h]
    rw [e1]
    have hr : ∀ t (w : World), (binOp .add t (.float .f64 x) (.float .f64 y)).run Try.prog w = .ok (.float .f64 r) w := fun t w => run_float_arith w .add t .f64 x y r h
    clear h e1
    go_enter Try.func21, Try.ntmps21
    go_wp2_with (go_at_call 20; refine (reals_Canon _ _).mono ?_; rintro e w' ⟨rfl, rfl⟩)
    go_ret
    exact ⟨rfl, 0, rfl⟩
  | none =>
    rw [addN_none h]
    have hr : ∀ t (w : World), ∃ r, wild r = true ∧ (binOp .add t (.float .f64 x) (.float .f64 y)).run Try.prog w = .ok (.float .f64 r) w.drew := by
      intro t w
      refine ⟨Question.cut (.nanBits .f64 x y) (w.tape w.drawn (.nanBits .f64 x y)), ?_, ?_⟩
      · exact cut_wild _
      · have h' : Ieee.Format.add FloatKind.f64.format x y = none := h
        simp [binOp, Op.floatArith, h', Question.forced]
    obtain ⟨r, h1, h2⟩ := hr 24 w
    have e1 : canonN r = nanN := by simp [canonN, h1]
    clear hr h h1
    go_enter Try.func21, Try.ntmps21
    go_wp2_with (go_at_call 20; refine (reals_Canon _ _).mono ?_; rintro e w' ⟨rfl, rfl⟩)
    go_ret
    exact ⟨by rw [← e1]; rfl, 1, rfl⟩

/-- Wild, of the reference. -/
theorem ref_Wild (n : Nat) (w : World) : Calls Try.prog 45 #[.int .u64 n] w fun e w' => e = .returned (.bool (wild n)) ∧ w = w' := by
  go_enter Try.func45, Try.ntmps45
  go_wp2
  all_goals
    go_ret
    exact ⟨ret_bool (by unfold wild; rw [Bool.eq_iff_iff]; simp; omega), rfl⟩
theorem ref_Bits (x : Nat) (w : World) : Calls Try.prog 18 #[.float .f64 x] w fun e w' => e = .returned (.int .u64 (canonN x)) ∧ w = w' := by
  unfold canonN
  cases hw : wild x
  all_goals
    go_enter Try.func18, Try.ntmps18
    go_wp2_with (go_at_call 45; refine (ref_Wild _ _).mono ?_; rintro e w' ⟨rfl, rfl⟩)
    go_ret
    exact ⟨rfl, rfl⟩
theorem ref_From (n : Nat) (w : World) : Calls Try.prog 16 #[.int .u64 n] w fun e w' => e = .returned (.tuple #[.float .f64 (fromN n), .bool (fromB n)]) ∧ w = w' := by
  cases hw : wild n
  · have e1 : fromB n = true := by simp [fromB, hw]
    have e2 : fromN n = n := by simp [fromN, e1]
    rw [e1, e2]; clear e1 e2
    go_enter Try.func16, Try.ntmps16
    go_wp2_with (go_at_call 45; refine (ref_Wild _ _).mono ?_; rintro e w' ⟨rfl, rfl⟩)
    go_ret2
    exact ⟨rfl, rfl⟩
  · by_cases h2 : n = nanN
    · have e1 : fromB n = true := by simp [fromB, h2]
      have e2 : fromN n = n := by simp [fromN, e1]
      rw [e1, e2]; clear e1 e2
      have h3 : ((n : Int) == 9221120237041090560) = true := by unfold nanN at h2; rw [beq_iff_eq]; omega
      have h4 : ((n : Int) != 9221120237041090560) = false := by unfold nanN at h2; rw [bne_eq_false_iff_eq]; omega
      clear h2
      go_enter Try.func16, Try.ntmps16
      go_wp2_with (go_at_call 45; refine (ref_Wild _ _).mono ?_; rintro e w' ⟨rfl, rfl⟩)
      go_ret2
      exact ⟨rfl, rfl⟩
    · have e1 : fromB n = false := by simp [fromB, hw, h2]
      have e2 : fromN n = 0 := by simp [fromN, e1]
      rw [e1, e2]; clear e1 e2
      have h3 : ((n : Int) == 9221120237041090560) = false := by unfold nanN at h2; rw [beq_eq_false_iff_ne]; omega
      have h4 : ((n : Int) != 9221120237041090560) = true := by unfold nanN at h2; rw [bne_iff_ne]; omega
      clear h2
      go_enter Try.func16, Try.ntmps16
      go_wp2_with (go_at_call 45; refine (ref_Wild _ _).mono ?_; rintro e w' ⟨rfl, rfl⟩)
      go_ret2
      exact ⟨rfl, rfl⟩
set_option maxRecDepth 100000 in
theorem ref_Place (n : Nat) (hn : n < 18446744073709551616) (w : World) : Calls Try.prog 34 #[.int .u64 n] w fun e w' => e = .returned (.int .u64 (placeN n)) ∧ w = w' := by
  cases hw : wild n
  · by_cases h2 : 9223372036854775808 ≤ n
    · have e1 : (placeN n : Int) = 9223372036854775807 - (n : Int) % 9223372036854775808 := by simp [placeN, hw, h2]; omega
      have t1 : decide ((9223372036854775808 : Int) ≤ (n : Int)) = true := by simp; omega
      have H := Go.Lib.hid e1; clear e1 h2 hn
      go_enter Try.func34, Try.ntmps34
      go_wp2_with (go_at_call 45; refine (ref_Wild _ _).mono ?_; rintro e w' ⟨rfl, rfl⟩)
      go_ret
      exact ⟨ret_int (by rw [H.out]), rfl⟩
    · have e1 : (placeN n : Int) = 9223372036854775808 + (n : Int) := by simp [placeN, hw, h2]
      have t1 : decide ((9223372036854775808 : Int) ≤ (n : Int)) = false := by simp; omega
      have H := Go.Lib.hid e1; clear e1
      have Hn := Go.Lib.hid h2; clear h2 hn
      go_enter Try.func34, Try.ntmps34
      go_wp2_with (go_at_call 45; refine (ref_Wild _ _).mono ?_; rintro e w' ⟨rfl, rfl⟩)
      go_ret
      exact ⟨ret_int (by rw [H.out]; have := Hn.out; simp only [IntKind.wrap_u64]; omega), rfl⟩
  · have e1 : (placeN n : Int) = 18446744073709551615 := by simp [placeN, hw]
    rw [e1]; clear e1
    go_enter Try.func34, Try.ntmps34
    go_wp2_with (go_at_call 45; refine (ref_Wild _ _).mono ?_; rintro e w' ⟨rfl, rfl⟩)
    go_ret
    exact ⟨rfl, rfl⟩
theorem reals_Most (x y : Nat) (hx : x < 18446744073709551616) (hy : y < 18446744073709551616) (w : World) : Calls Try.prog 42 #[.float .f64 x, .float .f64 y] w fun e w' => e = .returned (.float .f64 (mostN x y)) ∧ w = w' := by
  cases h : lessN x y
  all_goals
    have e1 : mostN x y = if lessN x y = true then canonN y else canonN x := rfl
    rw [h] at e1
    simp only [Bool.false_eq_true, if_false, if_true] at e1
    rw [e1]; clear e1
    go_enter Try.func42, Try.ntmps42
    go_wp2_with (first | (go_at_call 33; refine (reals_Less _ _ hx hy _).mono ?_; rintro e w' ⟨rfl, rfl⟩) | (go_at_call 20; refine (reals_Canon _ _).mono ?_; rintro e w' ⟨rfl, rfl⟩))
    go_ret
    exact ⟨rfl, rfl⟩
theorem ref_Add (x y : Nat) (w : World) : Calls Try.prog 22 #[.float .f64 x, .float .f64 y] w fun e w' => e = .returned (.int .u64 (addN x y)) ∧ ∃ n, w' = w.drewN n := by
  cases h : Ieee.double.add x y with
  | some r =>
    have e1 : addN x y = canonN r := by unfold addN; rw [h]
    rw [e1]
    have hr : ∀ t (w : World), (binOp .add t (.float .f64 x) (.float .f64 y)).run Try.prog w = .ok (.float .f64 r) w := fun t w => run_float_arith w .add t .f64 x y r h
    clear h e1
    go_enter Try.func22, Try.ntmps22
    go_wp2_with (go_at_call 18; refine (ref_Bits _ _).mono ?_; rintro e w' ⟨rfl, rfl⟩)
    go_ret
    exact ⟨rfl, 0, rfl⟩
  | none =>
    rw [addN_none h]
    have hr : ∀ t (w : World), ∃ r, wild r = true ∧ (binOp .add t (.float .f64 x) (.float .f64 y)).run Try.prog w = .ok (.float .f64 r) w.drew := by
      intro t w
      refine ⟨Question.cut (.nanBits .f64 x y) (w.tape w.drawn (.nanBits .f64 x y)), ?_, ?_⟩
      · exact cut_wild _
      · have h' : Ieee.Format.add FloatKind.f64.format x y = none := h
        simp [binOp, Op.floatArith, h', Question.forced]
    obtain ⟨r, h1, h2⟩ := hr 24 w
    have e1 : canonN r = nanN := by simp [canonN, h1]
    clear hr h h1
    go_enter Try.func22, Try.ntmps22
    go_wp2_with (go_at_call 18; refine (ref_Bits _ _).mono ?_; rintro e w' ⟨rfl, rfl⟩)
    go_ret
    exact ⟨by rw [← e1]; rfl, 1, rfl⟩
theorem ref_Most (x y : Nat) (hx : x < 18446744073709551616) (hy : y < 18446744073709551616) (w : World) : Calls Try.prog 43 #[.float .f64 x, .float .f64 y] w fun e w' => e = .returned (.int .u64 (mostN x y)) ∧ w = w' := by
  have cx := canon_lt hx
  have cy := canon_lt hy
  have px := place_canon x
  have py := place_canon y
  have e1 : mostN x y = if lessN x y = true then canonN y else canonN x := rfl
  cases h : lessN x y
  all_goals
    rw [h] at e1
    simp only [Bool.false_eq_true, if_false, if_true] at e1
    rw [e1]; clear e1
    have t1 : decide (placeN x < placeN y) = lessN x y := rfl
    rw [h] at t1; clear h
    have C := Go.Lib.hid cx; have D := Go.Lib.hid cy; clear cx cy
    go_enter Try.func43, Try.ntmps43
    go_wp2_with (first | (go_at_call 18; refine (ref_Bits _ _).mono ?_; rintro e w' ⟨rfl, rfl⟩) | (go_at_call 34; refine (ref_Place _ (by with_reducible first | exact C.out | exact D.out) _).mono ?_; rintro e w' ⟨rfl, rfl⟩))
    go_ret
    exact ⟨rfl, rfl⟩
theorem math_Inf_up (w : World) : Calls Try.prog 24 #[.int .i64 1] w fun e w' => e = .returned (.float .f64 9218868437227405312) ∧ w = w' := by
  go_enter Try.func24, Try.ntmps24
  go_wp2
  go_ret
  exact ⟨rfl, rfl⟩
theorem math_Inf_down (w : World) : Calls Try.prog 24 #[.int .i64 (-1)] w fun e w' => e = .returned (.float .f64 18442240474082181120) ∧ w = w' := by
  go_enter Try.func24, Try.ntmps24
  go_wp2
  go_ret
  exact ⟨rfl, rfl⟩
theorem law02_of (n : Int) (w : World) : Calls Try.prog 14 #[.int .u64 n] w fun e w' => e = .returned (.float .f64 n.toNat) ∧ w = w' := by
  go_enter Try.func14, Try.ntmps14
  go_wp2
  go_ret
  exact ⟨rfl, rfl⟩
theorem law02_lives (w : World) : Calls Try.prog 13 #[] w fun e w' => e = .returned (.bool true) ∧ w = w' := by
  have e1 : fromB 9221120237041090560 = true := by decide +kernel
  have e2 : fromN 9221120237041090560 = 9221120237041090560 := by decide +kernel
  have e3 : canonN 4607182418800017408 = 4607182418800017408 := by decide +kernel
  go_enter Try.func13, Try.ntmps13
  go_wp2_with (first | (go_at_call 15; refine (reals_From 9221120237041090560 _).mono ?_; rintro e w' ⟨rfl, rfl⟩) | (go_at_call 23; refine (reals_Same _ _ _).mono ?_; rintro e w' ⟨rfl, rfl⟩) | (go_at_call 17; refine (reals_Bits _ _).mono ?_; rintro e w' ⟨rfl, rfl⟩))
  go_ret
  exact ⟨rfl, rfl⟩
end Go.Proofs.Ytpinccdapjfkpaa
