/- The laws of layer 2, walked: over readings of their arguments. -/
import Derived.Test.YtpinccdapjfkpaaReals
import Derived.ProofKit
namespace Go.Proofs.Ytpinccdapjfkpaa
open Go.RowKit F64 Go.ChangeShapes Go.WideShapes
set_option linter.unusedSimpArgs false
set_option linter.unusedVariables false

theorem u64_open {H : Type} {enc : TypeId × Value → H} {W : World} {v : Value} {d : DataW H} {p : List MemPlace} {base : Nat}
    (h : DataW.Trod enc Try.prog W 0 (fun _ => true) true 22 v d p) (ok : Value.okWide Try.prog W .any base 22 v) : ∃ n : Nat, v = .int .u64 n ∧ n < 18446744073709551616 := by
  obtain ⟨x, rfl, rfl, rfl, wx⟩ := open_int Try.underlying22 ok h
  have hx : 0 ≤ x ∧ x ≤ 18446744073709551615 := by simpa [Lit.wf, IntKind.min, IntKind.max, IntKind.signed, IntKind.bits] using wx
  exact ⟨x.toNat, by congr 1; omega, by omega⟩

theorem reals_bits_walk (n : Nat) (w : World) : Calls Try.prog 3 #[.int .u64 n] w fun e w' => e = .returned (.bool true) ∧ Below w.heap.size w w' := by
  go_enter Try.func3, Try.ntmps3
  go_wp2_with (first | (go_at_call 13; refine (law02_lives _).mono ?_; rintro e w' ⟨rfl, rfl⟩) | (go_at_call 14; refine (law02_of _ _).mono ?_; rintro e w' ⟨rfl, rfl⟩) | (go_at_call 15; refine (reals_From _ _).mono ?_; rintro e w' ⟨rfl, rfl⟩) | (go_at_call 16; refine (ref_From _ _).mono ?_; rintro e w' ⟨rfl, rfl⟩) | (go_at_call 17; refine (reals_Bits _ _).mono ?_; rintro e w' ⟨rfl, rfl⟩) | (go_at_call 18; refine (ref_Bits _ _).mono ?_; rintro e w' ⟨rfl, rfl⟩) | (go_at_call 20; refine (reals_Canon _ _).mono ?_; rintro e w' ⟨rfl, rfl⟩))
  go_ret
  exact ⟨rfl, Below.refl _ _⟩

theorem law_RealsBits {H : Type} {enc : TypeId × Value → H} (W : World) {base : Nat} (v0 : Value) (d0 : DataW H) (p0 : List MemPlace) (h0 : DataW.Trod enc Try.prog W 0 (fun _ => true) true 22 v0 d0 p0) (ok0 : Value.okWide Try.prog W .any base 22 v0) :
    Calls Try.prog 3 #[v0] W fun e w' => e = .returned (.bool true) ∧ Below W.heap.size W w' := by
  obtain ⟨n, rfl, hn⟩ := u64_open h0 ok0
  exact reals_bits_walk n W

theorem reals_adds_walk (a b : Nat) (w : World) : Calls Try.prog 4 #[.int .u64 a, .int .u64 b] w fun e w' => e = .returned (.bool true) ∧ Below w.heap.size w w' := by
  go_enter Try.func4, Try.ntmps4
  go_wp2_with (first | (go_at_call 13; refine (law02_lives _).mono ?_; rintro e w' ⟨rfl, rfl⟩) | (go_at_call 14; refine (law02_of _ _).mono ?_; rintro e w' ⟨rfl, rfl⟩) | (go_at_call 21; refine (reals_Add _ _ _).mono ?_; rintro e w' ⟨rfl, k, rfl⟩) | (go_at_call 22; refine (ref_Add _ _ _).mono ?_; rintro e w' ⟨rfl, k, rfl⟩))
  go_ret
  exact ⟨rfl, by repeat (first | exact Below.refl _ _ | refine below_drewN ?_ _)⟩

theorem reals_less_walk (a b : Nat) (ha : a < 18446744073709551616) (hb : b < 18446744073709551616) (w : World) : Calls Try.prog 7 #[.int .u64 a, .int .u64 b] w fun e w' => e = .returned (.bool true) ∧ Below w.heap.size w w' := by
  have A := Go.Lib.hid ha; have B := Go.Lib.hid hb; clear ha hb
  have t1 : decide (placeN a < placeN b) = lessN a b := rfl
  go_enter Try.func7, Try.ntmps7
  go_wp2_with (first | (go_at_call 13; refine (law02_lives _).mono ?_; rintro e w' ⟨rfl, rfl⟩) | (go_at_call 14; refine (law02_of _ _).mono ?_; rintro e w' ⟨rfl, rfl⟩) | (go_at_call 33; refine (reals_Less _ _ (by exact A.out) (by exact B.out) _).mono ?_; rintro e w' ⟨rfl, rfl⟩) | (go_at_call 34; refine (ref_Place _ (by with_reducible first | exact A.out | exact B.out) _).mono ?_; rintro e w' ⟨rfl, rfl⟩) | (go_at_call 23; refine (reals_Same _ _ _).mono ?_; rintro e w' ⟨rfl, rfl⟩) | (go_at_call 18; refine (ref_Bits _ _).mono ?_; rintro e w' ⟨rfl, rfl⟩))
  go_ret
  refine ⟨ret_bool ?_, Below.refl _ _⟩
  exact dec_beq _ _

theorem reals_order_walk (a b c : Nat) (ha : a < 18446744073709551616) (hb : b < 18446744073709551616) (hc : c < 18446744073709551616) (w : World) : Calls Try.prog 8 #[.int .u64 a, .int .u64 b, .int .u64 c] w fun e w' => e = .returned (.bool true) ∧ Below w.heap.size w w' := by
  have A := Go.Lib.hid ha; have B := Go.Lib.hid hb; have C := Go.Lib.hid hc
  rcases less_tri a b ha hb with ⟨h1, h2, h3⟩ | ⟨h1, h2, h3⟩ | ⟨h1, h2, h3⟩
  · have ht : lessN b c = true → lessN a c = true := lessN_trans h1
    clear ha hb hc
    cases hbc : lessN b c
    · clear ht
      go_enter Try.func8, Try.ntmps8
      go_wp2_with (first | (go_at_call 13; refine (law02_lives _).mono ?_; rintro e w' ⟨rfl, rfl⟩) | (go_at_call 14; refine (law02_of _ _).mono ?_; rintro e w' ⟨rfl, rfl⟩) | (go_at_call 33; refine (reals_Less _ _ (by with_reducible first | exact A.out | exact B.out | exact C.out) (by with_reducible first | exact A.out | exact B.out | exact C.out) _).mono ?_; rintro e w' ⟨rfl, rfl⟩) | (go_at_call 23; refine (reals_Same _ _ _).mono ?_; rintro e w' ⟨rfl, rfl⟩))
      go_ret
      exact ⟨rfl, Below.refl _ _⟩
    · have hac := ht hbc; clear ht
      go_enter Try.func8, Try.ntmps8
      go_wp2_with (first | (go_at_call 13; refine (law02_lives _).mono ?_; rintro e w' ⟨rfl, rfl⟩) | (go_at_call 14; refine (law02_of _ _).mono ?_; rintro e w' ⟨rfl, rfl⟩) | (go_at_call 33; refine (reals_Less _ _ (by with_reducible first | exact A.out | exact B.out | exact C.out) (by with_reducible first | exact A.out | exact B.out | exact C.out) _).mono ?_; rintro e w' ⟨rfl, rfl⟩) | (go_at_call 23; refine (reals_Same _ _ _).mono ?_; rintro e w' ⟨rfl, rfl⟩))
      go_ret
      exact ⟨rfl, Below.refl _ _⟩
  · clear ha hb hc
    go_enter Try.func8, Try.ntmps8
    go_wp2_with (first | (go_at_call 13; refine (law02_lives _).mono ?_; rintro e w' ⟨rfl, rfl⟩) | (go_at_call 14; refine (law02_of _ _).mono ?_; rintro e w' ⟨rfl, rfl⟩) | (go_at_call 33; refine (reals_Less _ _ (by with_reducible first | exact A.out | exact B.out | exact C.out) (by with_reducible first | exact A.out | exact B.out | exact C.out) _).mono ?_; rintro e w' ⟨rfl, rfl⟩) | (go_at_call 23; refine (reals_Same _ _ _).mono ?_; rintro e w' ⟨rfl, rfl⟩))
    go_ret
    exact ⟨rfl, Below.refl _ _⟩
  · have hs := less_same c h3
    clear ha hb hc
    cases hbc : lessN b c
    all_goals
      rw [hbc] at hs
      go_enter Try.func8, Try.ntmps8
      go_wp2_with (first | (go_at_call 13; refine (law02_lives _).mono ?_; rintro e w' ⟨rfl, rfl⟩) | (go_at_call 14; refine (law02_of _ _).mono ?_; rintro e w' ⟨rfl, rfl⟩) | (go_at_call 33; refine (reals_Less _ _ (by with_reducible first | exact A.out | exact B.out | exact C.out) (by with_reducible first | exact A.out | exact B.out | exact C.out) _).mono ?_; rintro e w' ⟨rfl, rfl⟩) | (go_at_call 23; refine (reals_Same _ _ _).mono ?_; rintro e w' ⟨rfl, rfl⟩))
      go_ret
      exact ⟨rfl, Below.refl _ _⟩

set_option maxHeartbeats 4000000 in
theorem reals_edges_core (a b : Nat) (w : World) (xa xb ua da ub db : Bool) (h0 : ua = true → da = false) (h1 : ub = true → db = false)
    (fa : feq a a = !xa) (fb : feq b b = !xb) (au : decide (canonN a = canonN 9218868437227405312) = ua) (ad : decide (canonN a = canonN 18442240474082181120) = da)
    (bu : decide (canonN b = canonN 9218868437227405312) = ub) (bd : decide (canonN b = canonN 18442240474082181120) = db)
    (c1 : decide (canonN (addN a b) = canonN (addN b a)) = true) (c2 : decide (canonN (addN a 9223372036854775808) = canonN a) = true)
    (c3 : decide (canonN (addN a b) = canonN 9221120237041090560) = (xa || xb || (ua && db) || (da && ub))) :
    Calls Try.prog 5 #[.int .u64 a, .int .u64 b] w fun e w' => e = .returned (.bool true) ∧ Below w.heap.size w w' := by
  cases xa
  · cases xb
    · cases ua
      · cases da
        · cases ub <;> cases db
          all_goals
            (try (exact absurd (h1 rfl) (by decide)))
          all_goals
            simp only [Bool.not_false, Bool.and_true, Bool.and_false, Bool.false_and, Bool.or_false, Bool.false_or] at c3 fa fb
            clear h0 h1
            go_enter Try.func5, Try.ntmps5
            go_wp2_with (first | (go_at_call 13; refine (law02_lives _).mono ?_; rintro e w' ⟨rfl, rfl⟩) | (go_at_call 14; refine (law02_of _ _).mono ?_; rintro e w' ⟨rfl, rfl⟩) | (go_at_call 21; refine (reals_Add _ _ _).mono ?_; rintro e w' ⟨rfl, k, rfl⟩) | (go_at_call 23; refine (reals_Same _ _ _).mono ?_; rintro e w' ⟨rfl, rfl⟩) | (go_at_call 24; refine (math_Inf_up _).mono ?_; rintro e w' ⟨rfl, rfl⟩) | (go_at_call 24; refine (math_Inf_down _).mono ?_; rintro e w' ⟨rfl, rfl⟩))
            go_ret
            exact ⟨rfl, by repeat (first | exact Below.refl _ _ | refine below_drewN ?_ _)⟩
        · cases ub <;> cases db
          all_goals
            (try (exact absurd (h1 rfl) (by decide)))
          all_goals
            simp only [Bool.not_false, Bool.and_true, Bool.and_false, Bool.false_and, Bool.or_false, Bool.false_or] at c3 fa fb
            clear h0 h1
            go_enter Try.func5, Try.ntmps5
            go_wp2_with (first | (go_at_call 13; refine (law02_lives _).mono ?_; rintro e w' ⟨rfl, rfl⟩) | (go_at_call 14; refine (law02_of _ _).mono ?_; rintro e w' ⟨rfl, rfl⟩) | (go_at_call 21; refine (reals_Add _ _ _).mono ?_; rintro e w' ⟨rfl, k, rfl⟩) | (go_at_call 23; refine (reals_Same _ _ _).mono ?_; rintro e w' ⟨rfl, rfl⟩) | (go_at_call 24; refine (math_Inf_up _).mono ?_; rintro e w' ⟨rfl, rfl⟩) | (go_at_call 24; refine (math_Inf_down _).mono ?_; rintro e w' ⟨rfl, rfl⟩))
            go_ret
            exact ⟨rfl, by repeat (first | exact Below.refl _ _ | refine below_drewN ?_ _)⟩
      · obtain rfl : da = false := h0 rfl
        cases ub <;> cases db
        all_goals
          (try (exact absurd (h1 rfl) (by decide)))
        all_goals
          simp only [Bool.not_false, Bool.and_true, Bool.and_false, Bool.false_and, Bool.or_false, Bool.false_or] at c3 fa fb
          clear h0 h1
          go_enter Try.func5, Try.ntmps5
          go_wp2_with (first | (go_at_call 13; refine (law02_lives _).mono ?_; rintro e w' ⟨rfl, rfl⟩) | (go_at_call 14; refine (law02_of _ _).mono ?_; rintro e w' ⟨rfl, rfl⟩) | (go_at_call 21; refine (reals_Add _ _ _).mono ?_; rintro e w' ⟨rfl, k, rfl⟩) | (go_at_call 23; refine (reals_Same _ _ _).mono ?_; rintro e w' ⟨rfl, rfl⟩) | (go_at_call 24; refine (math_Inf_up _).mono ?_; rintro e w' ⟨rfl, rfl⟩) | (go_at_call 24; refine (math_Inf_down _).mono ?_; rintro e w' ⟨rfl, rfl⟩))
          go_ret
          exact ⟨rfl, by repeat (first | exact Below.refl _ _ | refine below_drewN ?_ _)⟩
    · simp only [Bool.not_false, Bool.not_true, Bool.false_or, Bool.true_or] at c3 fa fb
      clear h0 h1 au ad bu bd
      go_enter Try.func5, Try.ntmps5
      go_wp2_with (first | (go_at_call 13; refine (law02_lives _).mono ?_; rintro e w' ⟨rfl, rfl⟩) | (go_at_call 14; refine (law02_of _ _).mono ?_; rintro e w' ⟨rfl, rfl⟩) | (go_at_call 21; refine (reals_Add _ _ _).mono ?_; rintro e w' ⟨rfl, k, rfl⟩) | (go_at_call 23; refine (reals_Same _ _ _).mono ?_; rintro e w' ⟨rfl, rfl⟩) | (go_at_call 24; refine (math_Inf_up _).mono ?_; rintro e w' ⟨rfl, rfl⟩) | (go_at_call 24; refine (math_Inf_down _).mono ?_; rintro e w' ⟨rfl, rfl⟩))
      go_ret
      exact ⟨rfl, by repeat (first | exact Below.refl _ _ | refine below_drewN ?_ _)⟩
  · simp only [Bool.not_true, Bool.true_or] at c3 fa
    clear h0 h1 au ad bu bd fb
    go_enter Try.func5, Try.ntmps5
    go_wp2_with (first | (go_at_call 13; refine (law02_lives _).mono ?_; rintro e w' ⟨rfl, rfl⟩) | (go_at_call 14; refine (law02_of _ _).mono ?_; rintro e w' ⟨rfl, rfl⟩) | (go_at_call 21; refine (reals_Add _ _ _).mono ?_; rintro e w' ⟨rfl, k, rfl⟩) | (go_at_call 23; refine (reals_Same _ _ _).mono ?_; rintro e w' ⟨rfl, rfl⟩) | (go_at_call 24; refine (math_Inf_up _).mono ?_; rintro e w' ⟨rfl, rfl⟩) | (go_at_call 24; refine (math_Inf_down _).mono ?_; rintro e w' ⟨rfl, rfl⟩))
    go_ret
    exact ⟨rfl, by repeat (first | exact Below.refl _ _ | refine below_drewN ?_ _)⟩
theorem reals_edges_walk (a b : Nat) (ha : a < 18446744073709551616) (hb : b < 18446744073709551616) (w : World) : Calls Try.prog 5 #[.int .u64 a, .int .u64 b] w fun e w' => e = .returned (.bool true) ∧ Below w.heap.size w w' := by
  obtain ⟨au, ad⟩ := canon_inf a ha
  obtain ⟨bu, bd⟩ := canon_inf b hb
  refine reals_edges_core a b w (wild a) (wild b) (infB a && !negB a) (infB a && negB a) (infB b && !negB b) (infB b && negB b) (by cases infB a <;> cases negB a <;> simp) (by cases infB b <;> cases negB b <;> simp) (feq_self a) (feq_self b) au ad bu bd (by rw [addN_comm]; simp) (by rw [canon_addN, addN_minus_zero a ha]; simp) ?_
  have := canon_nan_iff (addN a b)
  rw [addN_wild, add_none_iff] at this
  refine Eq.trans this ?_
  cases wild a <;> cases wild b <;> cases infB a <;> cases infB b <;> cases negB a <;> cases negB b <;> rfl

theorem reals_most_walk (a b c : Nat) (ha : a < 18446744073709551616) (hb : b < 18446744073709551616) (hc : c < 18446744073709551616) (w : World) : Calls Try.prog 12 #[.int .u64 a, .int .u64 b, .int .u64 c] w fun e w' => e = .returned (.bool true) ∧ Below w.heap.size w w' := by
  have A := Go.Lib.hid ha; have B := Go.Lib.hid hb; have C := Go.Lib.hid hc
  have M1 := Go.Lib.hid (mostN_lt ha hb); have M2 := Go.Lib.hid (mostN_lt hb hc)
  have c1 : decide (canonN (mostN a b) = canonN (mostN b a)) = true := by rw [mostN_comm ha hb]; simp
  have c2 : decide (canonN (mostN (mostN a b) c) = canonN (mostN a (mostN b c))) = true := by rw [mostN_assoc ha hb hc]; simp
  have c3 := most_is a b
  rw [← canon_mostN a b] at c3
  clear ha hb hc
  cases h1 : decide (canonN (mostN a b) = canonN a)
  · have h2 : decide (canonN (mostN a b) = canonN b) = true := by rw [h1] at c3; simpa using c3
    clear c3
    go_enter Try.func12, Try.ntmps12
    go_wp2_with (first | (go_at_call 13; refine (law02_lives _).mono ?_; rintro e w' ⟨rfl, rfl⟩) | (go_at_call 14; refine (law02_of _ _).mono ?_; rintro e w' ⟨rfl, rfl⟩) | (go_at_call 42; refine (reals_Most _ _ (by with_reducible first | exact A.out | exact B.out | exact C.out | exact M1.out | exact M2.out) (by with_reducible first | exact A.out | exact B.out | exact C.out | exact M1.out | exact M2.out) _).mono ?_; rintro e w' ⟨rfl, rfl⟩) | (go_at_call 23; refine (reals_Same _ _ _).mono ?_; rintro e w' ⟨rfl, rfl⟩) | (go_at_call 43; refine (ref_Most _ _ A.out B.out _).mono ?_; rintro e w' ⟨rfl, rfl⟩))
    go_ret
    exact ⟨rfl, Below.refl _ _⟩
  · clear c3
    go_enter Try.func12, Try.ntmps12
    go_wp2_with (first | (go_at_call 13; refine (law02_lives _).mono ?_; rintro e w' ⟨rfl, rfl⟩) | (go_at_call 14; refine (law02_of _ _).mono ?_; rintro e w' ⟨rfl, rfl⟩) | (go_at_call 42; refine (reals_Most _ _ (by with_reducible first | exact A.out | exact B.out | exact C.out | exact M1.out | exact M2.out) (by with_reducible first | exact A.out | exact B.out | exact C.out | exact M1.out | exact M2.out) _).mono ?_; rintro e w' ⟨rfl, rfl⟩) | (go_at_call 23; refine (reals_Same _ _ _).mono ?_; rintro e w' ⟨rfl, rfl⟩) | (go_at_call 43; refine (ref_Most _ _ A.out B.out _).mono ?_; rintro e w' ⟨rfl, rfl⟩))
    go_ret
    exact ⟨rfl, Below.refl _ _⟩
theorem law_RealsAdds {H : Type} {enc : TypeId × Value → H} (W : World) {base : Nat} (v0 : Value) (d0 : DataW H) (p0 : List MemPlace) (v1 : Value) (d1 : DataW H) (p1 : List MemPlace) (h0 : DataW.Trod enc Try.prog W 0 (fun _ => true) true 22 v0 d0 p0) (ok0 : Value.okWide Try.prog W .any base 22 v0) (h1 : DataW.Trod enc Try.prog W 0 (fun _ => true) true 22 v1 d1 p1) (ok1 : Value.okWide Try.prog W .any base 22 v1) :
    Calls Try.prog 4 #[v0, v1] W fun e w' => e = .returned (.bool true) ∧ Below W.heap.size W w' := by
  obtain ⟨n0, rfl, b0⟩ := u64_open h0 ok0
  obtain ⟨n1, rfl, b1⟩ := u64_open h1 ok1
  exact reals_adds_walk n0 n1  W
theorem law_RealsLess {H : Type} {enc : TypeId × Value → H} (W : World) {base : Nat} (v0 : Value) (d0 : DataW H) (p0 : List MemPlace) (v1 : Value) (d1 : DataW H) (p1 : List MemPlace) (h0 : DataW.Trod enc Try.prog W 0 (fun _ => true) true 22 v0 d0 p0) (ok0 : Value.okWide Try.prog W .any base 22 v0) (h1 : DataW.Trod enc Try.prog W 0 (fun _ => true) true 22 v1 d1 p1) (ok1 : Value.okWide Try.prog W .any base 22 v1) :
    Calls Try.prog 7 #[v0, v1] W fun e w' => e = .returned (.bool true) ∧ Below W.heap.size W w' := by
  obtain ⟨n0, rfl, b0⟩ := u64_open h0 ok0
  obtain ⟨n1, rfl, b1⟩ := u64_open h1 ok1
  exact reals_less_walk n0 n1 b0 b1 W
theorem law_RealsOrder {H : Type} {enc : TypeId × Value → H} (W : World) {base : Nat} (v0 : Value) (d0 : DataW H) (p0 : List MemPlace) (v1 : Value) (d1 : DataW H) (p1 : List MemPlace) (v2 : Value) (d2 : DataW H) (p2 : List MemPlace) (h0 : DataW.Trod enc Try.prog W 0 (fun _ => true) true 22 v0 d0 p0) (ok0 : Value.okWide Try.prog W .any base 22 v0) (h1 : DataW.Trod enc Try.prog W 0 (fun _ => true) true 22 v1 d1 p1) (ok1 : Value.okWide Try.prog W .any base 22 v1) (h2 : DataW.Trod enc Try.prog W 0 (fun _ => true) true 22 v2 d2 p2) (ok2 : Value.okWide Try.prog W .any base 22 v2) :
    Calls Try.prog 8 #[v0, v1, v2] W fun e w' => e = .returned (.bool true) ∧ Below W.heap.size W w' := by
  obtain ⟨n0, rfl, b0⟩ := u64_open h0 ok0
  obtain ⟨n1, rfl, b1⟩ := u64_open h1 ok1
  obtain ⟨n2, rfl, b2⟩ := u64_open h2 ok2
  exact reals_order_walk n0 n1 n2 b0 b1 b2 W
theorem law_RealsEdges {H : Type} {enc : TypeId × Value → H} (W : World) {base : Nat} (v0 : Value) (d0 : DataW H) (p0 : List MemPlace) (v1 : Value) (d1 : DataW H) (p1 : List MemPlace) (h0 : DataW.Trod enc Try.prog W 0 (fun _ => true) true 22 v0 d0 p0) (ok0 : Value.okWide Try.prog W .any base 22 v0) (h1 : DataW.Trod enc Try.prog W 0 (fun _ => true) true 22 v1 d1 p1) (ok1 : Value.okWide Try.prog W .any base 22 v1) :
    Calls Try.prog 5 #[v0, v1] W fun e w' => e = .returned (.bool true) ∧ Below W.heap.size W w' := by
  obtain ⟨n0, rfl, b0⟩ := u64_open h0 ok0
  obtain ⟨n1, rfl, b1⟩ := u64_open h1 ok1
  exact reals_edges_walk n0 n1 b0 b1 W
theorem law_RealsMost {H : Type} {enc : TypeId × Value → H} (W : World) {base : Nat} (v0 : Value) (d0 : DataW H) (p0 : List MemPlace) (v1 : Value) (d1 : DataW H) (p1 : List MemPlace) (v2 : Value) (d2 : DataW H) (p2 : List MemPlace) (h0 : DataW.Trod enc Try.prog W 0 (fun _ => true) true 22 v0 d0 p0) (ok0 : Value.okWide Try.prog W .any base 22 v0) (h1 : DataW.Trod enc Try.prog W 0 (fun _ => true) true 22 v1 d1 p1) (ok1 : Value.okWide Try.prog W .any base 22 v1) (h2 : DataW.Trod enc Try.prog W 0 (fun _ => true) true 22 v2 d2 p2) (ok2 : Value.okWide Try.prog W .any base 22 v2) :
    Calls Try.prog 12 #[v0, v1, v2] W fun e w' => e = .returned (.bool true) ∧ Below W.heap.size W w' := by
  obtain ⟨n0, rfl, b0⟩ := u64_open h0 ok0
  obtain ⟨n1, rfl, b1⟩ := u64_open h1 ok1
  obtain ⟨n2, rfl, b2⟩ := u64_open h2 ok2
  exact reals_most_walk n0 n1 n2 b0 b1 b2 W
end Go.Proofs.Ytpinccdapjfkpaa
