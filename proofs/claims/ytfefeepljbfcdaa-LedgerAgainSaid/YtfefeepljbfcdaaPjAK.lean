/- Joined texts: Reals, Deeds. What each proves stands at its head; no conditions beside those in its theorems. -/
import Derived.Test.YtfefeepljbfcdaaProg
import Derived.Test.YtfefeepljbfcdaaPjAA
import Derived.Test.YtfefeepljbfcdaaPjAE
import Derived.Test.YtfefeepljbfcdaaPjAB
/- Contracts of layer 2 (reals), and of its reference. -/
namespace Go.Proofs.Ytfefeepljbfcdaa
open Go.RowKit F64
set_option linter.unusedSimpArgs false
set_option linter.unusedVariables false

@[go_sem] theorem run_frombits (n : Int) (w : World) : (callFunc 34 #[.int .u64 n]).run Try.prog w = .ok (.value (.float .f64 n.toNat)) w := by kernel_rfl
@[go_sem] theorem run_bits (n : Nat) (w : World) : (callFunc 38 #[.float .f64 n]).run Try.prog w = .ok (.value (.int .u64 n)) w := by kernel_rfl
@[go_sem] theorem sp_feq (a b : Nat) : (FloatKind.f64.format.order a b == some Ordering.eq) = feq a b := rfl
@[go_sem] theorem sp_fneq (a b : Nat) : (FloatKind.f64.format.order a b != some Ordering.eq) = !feq a b := rfl
@[go_sem] theorem sp_flt (a b : Nat) : (FloatKind.f64.format.order a b == some Ordering.lt) = flt a b := rfl

theorem reals_Canon (x : Nat) (w : World) : Calls Try.prog 65 #[.float .f64 x] w fun e w' => e = .returned (.float .f64 (canonN x)) ∧ w = w' := by
  have H := feq_self x
  cases hw : wild x
  · have hc : canonN x = x := by simp [canonN, hw]
    rw [hc]
    rw [hw] at H; clear hw hc
    go_enter Try.func65, Try.ntmps65
    go_wp2
    go_ret
    exact ⟨rfl, rfl⟩
  · have hc : canonN x = nanN := by simp [canonN, hw]
    rw [hc]
    rw [hw] at H; clear hw hc
    go_enter Try.func65, Try.ntmps65
    go_wp2
    go_ret
    exact ⟨rfl, rfl⟩
theorem reals_Bits (x : Nat) (w : World) : Calls Try.prog 48 #[.float .f64 x] w fun e w' => e = .returned (.int .u64 (canonN x)) ∧ w = w' := by
  go_enter Try.func48, Try.ntmps48
  go_wp2_with (go_at_call 65; refine (reals_Canon _ _).mono ?_; rintro e w' ⟨rfl, rfl⟩)
  go_ret
  exact ⟨rfl, rfl⟩


theorem reals_From (n : Nat) (w : World) : Calls Try.prog 85 #[.int .u64 n] w fun e w' => e = .returned (.tuple #[.float .f64 (fromN n), .bool (fromB n)]) ∧ w = w' := by
  have H := feq_self n
  cases hw : wild n
  · have e1 : fromB n = true := by simp [fromB, hw]
    have e2 : fromN n = n := by simp [fromN, e1]
    rw [e1, e2]; rw [hw] at H; clear hw e1 e2
    go_enter Try.func85, Try.ntmps85
    go_wp2
    go_ret2
    exact ⟨rfl, rfl⟩
  · by_cases h2 : n = nanN
    · have e1 : fromB n = true := by simp [fromB, h2]
      have e2 : fromN n = n := by simp [fromN, e1]
      rw [e1, e2]; rw [hw] at H; clear hw e1 e2
      have h3 : ((n : Int) == 9221120237041090560) = true := by unfold nanN at h2; rw [beq_iff_eq]; omega
      have h4 : ((n : Int) != 9221120237041090560) = false := by unfold nanN at h2; rw [bne_eq_false_iff_eq]; omega
      clear h2
      go_enter Try.func85, Try.ntmps85
      go_wp2
      go_ret2
      exact ⟨rfl, rfl⟩
    · have e1 : fromB n = false := by simp [fromB, hw, h2]
      have e2 : fromN n = 0 := by simp [fromN, e1]
      rw [e1, e2]; rw [hw] at H; clear hw e1 e2
      have h3 : ((n : Int) == 9221120237041090560) = false := by unfold nanN at h2; rw [beq_eq_false_iff_ne]; omega
      have h4 : ((n : Int) != 9221120237041090560) = true := by unfold nanN at h2; rw [bne_iff_ne]; omega
      clear h2
      go_enter Try.func85, Try.ntmps85
      go_wp2
      go_ret2
      exact ⟨rfl, rfl⟩

theorem math_Signbit (x : Nat) (hx : x < 18446744073709551616) (w : World) : Calls Try.prog 100 #[.float .f64 x] w fun e w' => e = .returned (.bool (negB x)) ∧ w = w' := by
  go_enter Try.func100, Try.ntmps100
  go_wp2
  go_ret
  exact ⟨ret_bool (by rw [negB_iff hx, Bool.eq_iff_iff]; unfold wrap64; simp; omega), rfl⟩

theorem reals_Less (x y : Nat) (hx : x < 18446744073709551616) (hy : y < 18446744073709551616) (w : World) : Calls Try.prog 90 #[.float .f64 x, .float .f64 y] w fun e w' => e = .returned (.bool (lessN x y)) ∧ w = w' := by
  have L := less_cases x y hx hy
  have H1 := feq_self x
  have H2 := feq_self y
  cases hw : wild x
  · cases hv : wild y
    · rw [hw, hv] at L; rw [hw] at H1; rw [hv] at H2; clear hw hv
      cases h3 : feq x y
      · rw [h3] at L; simp only [Bool.false_eq_true, if_false] at L; rw [L]; clear L
        go_enter Try.func90, Try.ntmps90
        go_wp2
        go_ret
        exact ⟨rfl, rfl⟩
      · rw [h3] at L; simp only [Bool.false_eq_true, if_false, if_true] at L; rw [L]; clear L
        cases hn : negB x
        all_goals
          go_enter Try.func90, Try.ntmps90
          go_wp2_with (go_at_call 100; refine (math_Signbit _ (by with_reducible first | exact hx | exact hy) _).mono ?_; rintro e w' ⟨rfl, rfl⟩)
          go_ret
          exact ⟨rfl, rfl⟩
    · rw [hw, hv] at L; rw [hw] at H1; rw [hv] at H2; clear hw hv
      simp only [Bool.false_eq_true, if_false, if_true] at L; rw [L]; clear L
      go_enter Try.func90, Try.ntmps90
      go_wp2
      go_ret
      exact ⟨rfl, rfl⟩
  · rw [hw] at L; rw [hw] at H1; clear hw H2
    simp only [if_true] at L; rw [L]; clear L
    go_enter Try.func90, Try.ntmps90
    go_wp2
    go_ret
    exact ⟨rfl, rfl⟩

theorem reals_Add (x y : Nat) (w : World) : Calls Try.prog 66 #[.float .f64 x, .float .f64 y] w fun e w' => e = .returned (.float .f64 (addN x y)) ∧ ∃ n, w' = w.drewN n := by
  cases h : Ieee.double.add x y with
  | some r =>
    have e1 : addN x y = canonN r := by unfold addN; rw [h]
    rw [e1]
    have hr : ∀ t (w : World), (binOp .add t (.float .f64 x) (.float .f64 y)).run Try.prog w = .ok (.float .f64 r) w := fun t w => run_float_arith w .add t .f64 x y r h
    clear h e1
    go_enter Try.func66, Try.ntmps66
    go_wp2_with (go_at_call 65; refine (reals_Canon _ _).mono ?_; rintro e w' ⟨rfl, rfl⟩)
    go_ret
    exact ⟨rfl, 0, rfl⟩
  | none =>
    rw [addN_none h]
    have hr : ∀ t (w : World), ∃ r, wild r = true ∧ (binOp .add t (.float .f64 x) (.float .f64 y)).run Try.prog w = .ok (.float .f64 r) w.drew := by
      intro t w
      refine ⟨Question.cut (.nanBits .f64 x y) (w.tape w.drawn (.nanBits .f64 x y)), ?_, ?_⟩
      · exact cut_wild _
      · have h' : Ieee.Format.add FloatKind.f64.format x y = none := h
        simp [binOp, Op.floatArith, h', Question.forced]
    obtain ⟨r, h1, h2⟩ := hr 41 w
    have e1 : canonN r = nanN := by simp [canonN, h1]
    clear hr h h1
    go_enter Try.func66, Try.ntmps66
    go_wp2_with (go_at_call 65; refine (reals_Canon _ _).mono ?_; rintro e w' ⟨rfl, rfl⟩)
    go_ret
    exact ⟨by rw [← e1]; rfl, 1, rfl⟩

/-- Wild, of the reference. -/
theorem ref_Wild (n : Nat) (w : World) : Calls Try.prog 39 #[.int .u64 n] w fun e w' => e = .returned (.bool (wild n)) ∧ w = w' := by
  go_enter Try.func39, Try.ntmps39
  go_wp2
  all_goals
    go_ret
    exact ⟨ret_bool (by unfold wild; rw [Bool.eq_iff_iff]; simp; omega), rfl⟩
theorem ref_Bits (x : Nat) (w : World) : Calls Try.prog 26 #[.float .f64 x] w fun e w' => e = .returned (.int .u64 (canonN x)) ∧ w = w' := by
  unfold canonN
  cases hw : wild x
  all_goals
    go_enter Try.func26, Try.ntmps26
    go_wp2_with (go_at_call 39; refine (ref_Wild _ _).mono ?_; rintro e w' ⟨rfl, rfl⟩)
    go_ret
    exact ⟨rfl, rfl⟩
theorem reals_Most (x y : Nat) (hx : x < 18446744073709551616) (hy : y < 18446744073709551616) (w : World) : Calls Try.prog 67 #[.float .f64 x, .float .f64 y] w fun e w' => e = .returned (.float .f64 (mostN x y)) ∧ w = w' := by
  cases h : lessN x y
  all_goals
    have e1 : mostN x y = if lessN x y = true then canonN y else canonN x := rfl
    rw [h] at e1
    simp only [Bool.false_eq_true, if_false, if_true] at e1
    rw [e1]; clear e1
    go_enter Try.func67, Try.ntmps67
    go_wp2_with (first | (go_at_call 90; refine (reals_Less _ _ hx hy _).mono ?_; rintro e w' ⟨rfl, rfl⟩) | (go_at_call 65; refine (reals_Canon _ _).mono ?_; rintro e w' ⟨rfl, rfl⟩))
    go_ret
    exact ⟨rfl, rfl⟩
end Go.Proofs.Ytfefeepljbfcdaa

/- Contracts of layer 11 (deeds): which requests are right, and null. -/
namespace Go.Proofs.Ytfefeepljbfcdaa
open Go.RowKit F64
set_option linter.unusedSimpArgs false
set_option linter.unusedVariables false

theorem deeds_within (n lo hi : Int) (w : World) : Calls Try.prog 60 #[.int .i64 n, .int .i64 lo, .int .i64 hi] w fun e w' => e = .returned (.bool (withinB n lo hi)) ∧ w = w' := by
  go_enter Try.func60, Try.ntmps60
  go_wp2
  all_goals
    go_ret
    exact ⟨ret_bool (by unfold withinB; rw [Bool.eq_iff_iff]; simp; omega), rfl⟩

theorem deeds_right (k : Int) (key : ByteArray) (x : Nat) (id : Int) (w : World) : Calls Try.prog 61 #[.agg #[.int .i64 k, .string key, .float .f64 x, .int .i64 id]] w fun e w' => e = .returned (.bool (opB ⟨k, key, x, id⟩)) ∧ Ext Non w w' := by
  go_enter Try.func61, Try.ntmps61
  go_upto_region 1 with fail
  go_cut [3] (fun s wx => s = .bool (keyB ⟨k, key, x, id⟩) ∧ wx = w.alloc (.cells #[.int .i64 k, .string key, .float .f64 x, .int .i64 id] 47))
  case first =>
    go_wp2_with fail
    all_goals
      go_meet
      case rel => exact ⟨by congr 1; unfold keyB; rw [Bool.eq_iff_iff]; simp; omega, rfl⟩
  case rest =>
    obtain ⟨rfl, rfl⟩ := hcut
    have t1 : (((canonN x : Nat) : Int) == 0) = noneB x := by unfold noneB; rw [Bool.eq_iff_iff]; simp
    have Hn : Hid (noneB x = true ∨ noneB x = false) := Go.Lib.hid (by cases noneB x <;> simp)
    by_cases h45 : k = 4 ∨ k = 5
    · have HE : Hid (opB ⟨k, key, x, id⟩ = (noneB x && keyB ⟨k, key, x, id⟩)) := Go.Lib.hid (by unfold opB; rw [if_pos h45])
      rcases Hn.out with hn | hn
      all_goals
        have HN := Go.Lib.hid hn
        rw [hn] at t1; clear hn
        rcases h45 with h | h
        all_goals
          have HK := Go.Lib.hid h
          have k4 : (k == 4) = decide (k = 4) := rfl
          subst h
          clear k4
          go_wp2_with (go_at_call 48; refine (reals_Bits _ _).mono ?_; rintro e w' ⟨rfl, rfl⟩)
          go_ret
          exact ⟨ret_bool (by rw [HE.out, HN.out]; simp), (Ext.refl _ _).alloc _⟩
    · by_cases h123 : k = 1 ∨ k = 2 ∨ k = 3
      · have HE : Hid (opB ⟨k, key, x, id⟩ = keyB ⟨k, key, x, id⟩) := Go.Lib.hid (by unfold opB; rw [if_neg h45, if_pos h123])
        clear h45 Hn
        rcases h123 with h | h | h
        all_goals
          subst h
          go_wp2_with (go_at_call 48; refine (reals_Bits _ _).mono ?_; rintro e w' ⟨rfl, rfl⟩)
          go_ret
          exact ⟨ret_bool (by rw [HE.out]), (Ext.refl _ _).alloc _⟩
      · by_cases h67 : k = 6 ∨ k = 7
        · have HE : Hid (opB ⟨k, key, x, id⟩ = (decide (key.size = 0) && noneB x && decide (0 ≤ id) && decide (id < 16))) := Go.Lib.hid (by unfold opB; rw [if_neg h45, if_neg h123, if_pos h67])
          clear h45 h123
          by_cases hk : key.toList = []
          · have hs := (toList_nil key).1 hk
            rcases Hn.out with hn | hn
            · by_cases h0 : 0 ≤ id
              · by_cases h16 : id < 16
                · have CL : Hid ((decide (key.size = 0) && noneB x && decide (0 ≤ id) && decide (id < 16)) = true) := Go.Lib.hid (by simp [hs, hn, h0, h16])
                  rw [hn] at t1; clear hs hn
                  rcases h67 with h | h
                  all_goals
                    subst h
                    go_wp2_with (go_at_call 48; refine (reals_Bits _ _).mono ?_; rintro e w' ⟨rfl, rfl⟩)
                    go_ret
                    exact ⟨ret_bool (by rw [HE.out, CL.out] <;> first | rfl | exact decide_eq_false (by omega) | exact decide_eq_true (by omega)), (Ext.refl _ _).alloc _⟩
                · have CL : Hid ((decide (key.size = 0) && noneB x && decide (0 ≤ id) && decide (id < 16)) = false) := Go.Lib.hid (by simp [h16])
                  rw [hn] at t1; clear hs hn
                  rcases h67 with h | h
                  all_goals
                    subst h
                    go_wp2_with (go_at_call 48; refine (reals_Bits _ _).mono ?_; rintro e w' ⟨rfl, rfl⟩)
                    go_ret
                    exact ⟨ret_bool (by rw [HE.out, CL.out] <;> first | rfl | exact decide_eq_false (by omega) | exact decide_eq_true (by omega)), (Ext.refl _ _).alloc _⟩
              · have CL : Hid ((decide (key.size = 0) && noneB x && decide (0 ≤ id) && decide (id < 16)) = false) := Go.Lib.hid (by simp [h0])
                rw [hn] at t1; clear hs hn
                rcases h67 with h | h
                all_goals
                  subst h
                  go_wp2_with (go_at_call 48; refine (reals_Bits _ _).mono ?_; rintro e w' ⟨rfl, rfl⟩)
                  go_ret
                  exact ⟨ret_bool (by rw [HE.out, CL.out] <;> first | rfl | exact decide_eq_false (by omega) | exact decide_eq_true (by omega)), (Ext.refl _ _).alloc _⟩
            · have CL : Hid ((decide (key.size = 0) && noneB x && decide (0 ≤ id) && decide (id < 16)) = false) := Go.Lib.hid (by simp [hn])
              rw [hn] at t1; clear hs hn
              rcases h67 with h | h
              all_goals
                subst h
                go_wp2_with (go_at_call 48; refine (reals_Bits _ _).mono ?_; rintro e w' ⟨rfl, rfl⟩)
                go_ret
                exact ⟨ret_bool (by rw [HE.out, CL.out] <;> first | rfl | exact decide_eq_false (by omega) | exact decide_eq_true (by omega)), (Ext.refl _ _).alloc _⟩
          · have CL : Hid ((decide (key.size = 0) && noneB x && decide (0 ≤ id) && decide (id < 16)) = false) := Go.Lib.hid (by rw [toList_nil] at hk; simp [hk])
            rcases h67 with h | h
            all_goals
              subst h
              go_wp2_with (go_at_call 48; refine (reals_Bits _ _).mono ?_; rintro e w' ⟨rfl, rfl⟩)
              go_ret
              exact ⟨ret_bool (by rw [HE.out, CL.out] <;> first | rfl | exact decide_eq_false (by omega) | exact decide_eq_true (by omega)), (Ext.refl _ _).alloc _⟩
        · have HE : Hid (opB ⟨k, key, x, id⟩ = false) := Go.Lib.hid (by unfold opB; rw [if_neg h45, if_neg h123, if_neg h67])
          have k1 : (k == 1) = false := by rw [beq_eq_false_iff_ne]; omega
          have k2 : (k == 2) = false := by rw [beq_eq_false_iff_ne]; omega
          have k3 : (k == 3) = false := by rw [beq_eq_false_iff_ne]; omega
          have k4 : (k == 4) = false := by rw [beq_eq_false_iff_ne]; omega
          have k5 : (k == 5) = false := by rw [beq_eq_false_iff_ne]; omega
          have k6 : (k == 6) = false := by rw [beq_eq_false_iff_ne]; omega
          have k7 : (k == 7) = false := by rw [beq_eq_false_iff_ne]; omega
          clear h45 h123 h67
          go_wp2_with (go_at_call 48; refine (reals_Bits _ _).mono ?_; rintro e w' ⟨rfl, rfl⟩)
          go_ret
          exact ⟨ret_bool (by rw [HE.out]), (Ext.refl _ _).alloc _⟩

theorem deeds_Right (c s k : Int) (key : ByteArray) (x : Nat) (id : Int) (w : World) : Calls Try.prog 31 #[.agg #[.int .i64 c, .int .i64 s, .int .i64 k, .string key, .float .f64 x, .int .i64 id]] w fun e w' => e = .returned (.bool (rightB ⟨c, s, ⟨k, key, x, id⟩⟩)) ∧ Ext Non w w' := by
  have HE : Hid (rightB ⟨c, s, ⟨k, key, x, id⟩⟩ = (withinB c 1 8 && withinB s 1 1048576 && opB ⟨k, key, x, id⟩)) := Go.Lib.hid rfl
  cases h1 : withinB c 1 8
  · have H1 := Go.Lib.hid h1
    go_enter Try.func31, Try.ntmps31
    go_wp2_with (go_at_call 60; refine (deeds_within _ _ _ _).mono ?_; rintro e w' ⟨rfl, rfl⟩)
    go_ret
    exact ⟨ret_bool (by rw [HE.out, H1.out]; rfl), (Ext.refl _ _).alloc _⟩
  · cases h2 : withinB s 1 1048576
    · have H2 := Go.Lib.hid h2
      go_enter Try.func31, Try.ntmps31
      go_wp2_with (go_at_call 60; refine (deeds_within _ _ _ _).mono ?_; rintro e w' ⟨rfl, rfl⟩)
      go_ret
      exact ⟨ret_bool (by rw [HE.out, H2.out]; simp), ((Ext.refl _ _).alloc _)⟩
    · have H1 := Go.Lib.hid h1
      have H2 := Go.Lib.hid h2
      go_enter Try.func31, Try.ntmps31
      go_wp2_with (first | (go_at_call 60; refine (deeds_within _ _ _ _).mono ?_; rintro e w' ⟨rfl, rfl⟩) | (go_at_call 61; refine (deeds_right _ _ _ _ _).mono ?_; rintro e w' ⟨rfl, y⟩))
      go_ret
      exact ⟨ret_bool (by rw [HE.out, H1.out, H2.out]; simp), ((Ext.refl _ _).alloc _).trans y⟩
theorem deeds_Null (c s k : Int) (key : ByteArray) (x : Nat) (id : Int) (hc : I64 c) (hs : I64 s) (hk : I64 k) (hid : I64 id) (w : World) : Calls Try.prog 32 #[.agg #[.int .i64 c, .int .i64 s, .int .i64 k, .string key, .float .f64 x, .int .i64 id]] w fun e w' => e = .returned (.bool (nullB ⟨c, s, ⟨k, key, x, id⟩⟩)) ∧ Ext Non w w' := by
  have o1 := or_i64 c s hc hs
  have o2 := or_i64 _ k o1.2 hk
  have o3 := or_i64 _ id o2.2 hid
  have hor : bits .or .i64 (bits .or .i64 (bits .or .i64 c s) k) id = 0 ↔ c = 0 ∧ s = 0 ∧ k = 0 ∧ id = 0 := by
    rw [o3.1, o2.1, o1.1]; exact ⟨fun ⟨⟨⟨a, b⟩, c⟩, d⟩ => ⟨a, b, c, d⟩, fun ⟨a, b, c, d⟩ => ⟨⟨⟨a, b⟩, c⟩, d⟩⟩
  have t1 : (((canonN x : Nat) : Int) == 0) = noneB x := by unfold noneB; rw [Bool.eq_iff_iff]; simp
  have HE : Hid (nullB ⟨c, s, ⟨k, key, x, id⟩⟩ = (decide (c = 0) && decide (s = 0) && decide (k = 0) && decide (id = 0) && decide (key.size = 0) && noneB x)) := Go.Lib.hid rfl
  generalize hB : bits .or .i64 (bits .or .i64 (bits .or .i64 c s) k) id = B at hor
  clear o1 o2 o3
  by_cases hB0 : B = 0
  · have h0 := Go.Lib.hid (hor.1 hB0)
    subst hB0; clear hor
    by_cases hke : key.toList = []
    · have hs0 := Go.Lib.hid ((toList_nil key).1 hke)
      go_enter Try.func32, Try.ntmps32
      go_wp2_with (go_at_call 48; refine (reals_Bits _ _).mono ?_; rintro e w' ⟨rfl, rfl⟩)
      go_ret
      exact ⟨ret_bool (by rw [HE.out]; obtain ⟨q1, q2, q3, q4⟩ := h0.out; have q5 := hs0.out; simp [q1, q2, q3, q4, q5]), (Ext.refl _ _).alloc _⟩
    · have hs0 := Go.Lib.hid (fun h => hke ((toList_nil key).2 h))
      go_enter Try.func32, Try.ntmps32
      go_wp2
      go_ret
      exact ⟨ret_bool (by rw [HE.out, decide_eq_false hs0.out]; simp), (Ext.refl _ _).alloc _⟩
  · have h0 := Go.Lib.hid (fun h => hB0 (hor.2 h))
    have hb0 : (B == 0) = false := by rw [beq_eq_false_iff_ne]; exact hB0
    clear hor hB0
    go_enter Try.func32, Try.ntmps32
    go_wp2
    go_ret
    refine ⟨ret_bool ?_, (Ext.refl _ _).alloc _⟩
    rw [HE.out]
    have q := h0.out
    have : (decide (c = 0) && decide (s = 0) && decide (k = 0) && decide (id = 0)) = false := by
      rw [Bool.eq_false_iff]; intro h; simp only [Bool.and_eq_true, decide_eq_true_eq] at h; exact q ⟨h.1.1.1, h.1.1.2, h.1.2, h.2⟩
    rw [this]; rfl
end Go.Proofs.Ytfefeepljbfcdaa
