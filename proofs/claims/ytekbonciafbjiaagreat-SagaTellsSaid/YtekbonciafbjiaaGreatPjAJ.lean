/- Joined texts: Deeds, RefR. What each proves stands at its head; no conditions beside those in its theorems. -/
import Derived.Test.YtekbonciafbjiaaGreatPjAA
import Derived.Test.YtekbonciafbjiaaGreatPjAC
import Derived.Test.YtekbonciafbjiaaGreatPjAI
/- Contracts of layer 11 (deeds): which requests are right, and null. -/
namespace Go.Proofs.YtekbonciafbjiaaGreat
open Go.RowKit F64
set_option linter.unusedSimpArgs false
set_option linter.unusedVariables false

theorem deeds_within (n lo hi : Int) (w : World) : Calls Tryz.prog 85 #[.int .i64 n, .int .i64 lo, .int .i64 hi] w fun e w' => e = .returned (.bool (withinB n lo hi)) ∧ w = w' := by
  go_enter Tryz.func85, Tryz.ntmps85
  go_wp2
  all_goals
    go_ret
    exact ⟨ret_bool (by unfold withinB; rw [Bool.eq_iff_iff]; simp; omega), rfl⟩

theorem deeds_right (k : Int) (key : ByteArray) (x : Nat) (id : Int) (w : World) : Calls Tryz.prog 86 #[.agg #[.int .i64 k, .string key, .float .f64 x, .int .i64 id]] w fun e w' => e = .returned (.bool (opB ⟨k, key, x, id⟩)) ∧ Ext Non w w' := by
  go_enter Tryz.func86, Tryz.ntmps86
  go_upto_region 1 with fail
  go_cut [3] (fun s wx => s = .bool (keyB ⟨k, key, x, id⟩) ∧ wx = w.alloc (.cells #[.int .i64 k, .string key, .float .f64 x, .int .i64 id] 51))
  case first =>
    go_wp2_with fail
    all_goals
      go_meet
      case rel => exact ⟨by congr 1; unfold keyB; rw [Bool.eq_iff_iff]; simp; omega, rfl⟩
  case rest =>
    obtain ⟨rfl, rfl⟩ := hcut
    have t1 : (((canonN x : Nat) : Int) == 0) = noneB x := by unfold noneB; rw [Bool.eq_iff_iff]; simp
    have Hn : Hid (noneB x = true ∨ noneB x = false) := Go.Lib.hid (by cases noneB x <;> simp)
    by_cases h45 : k = 4 ∨ k = 5
    · have HE : Hid (opB ⟨k, key, x, id⟩ = (noneB x && keyB ⟨k, key, x, id⟩)) := Go.Lib.hid (by unfold opB; rw [if_pos h45])
      rcases Hn.out with hn | hn
      all_goals
        have HN := Go.Lib.hid hn
        rw [hn] at t1; clear hn
        rcases h45 with h | h
        all_goals
          have HK := Go.Lib.hid h
          have k4 : (k == 4) = decide (k = 4) := rfl
          subst h
          clear k4
          go_wp2_with (go_at_call 66; refine (reals_Bits _ _).mono ?_; rintro e w' ⟨rfl, rfl⟩)
          go_ret
          exact ⟨ret_bool (by rw [HE.out, HN.out]; simp), (Ext.refl _ _).alloc _⟩
    · by_cases h123 : k = 1 ∨ k = 2 ∨ k = 3
      · have HE : Hid (opB ⟨k, key, x, id⟩ = keyB ⟨k, key, x, id⟩) := Go.Lib.hid (by unfold opB; rw [if_neg h45, if_pos h123])
        clear h45 Hn
        rcases h123 with h | h | h
        all_goals
          subst h
          go_wp2_with (go_at_call 66; refine (reals_Bits _ _).mono ?_; rintro e w' ⟨rfl, rfl⟩)
          go_ret
          exact ⟨ret_bool (by rw [HE.out]), (Ext.refl _ _).alloc _⟩
      · by_cases h67 : k = 6 ∨ k = 7
        · have HE : Hid (opB ⟨k, key, x, id⟩ = (decide (key.size = 0) && noneB x && decide (0 ≤ id) && decide (id < 16))) := Go.Lib.hid (by unfold opB; rw [if_neg h45, if_neg h123, if_pos h67])
          clear h45 h123
          by_cases hk : key.toList = []
          · have hs := (toList_nil key).1 hk
            rcases Hn.out with hn | hn
            · by_cases h0 : 0 ≤ id
              · by_cases h16 : id < 16
                · have CL : Hid ((decide (key.size = 0) && noneB x && decide (0 ≤ id) && decide (id < 16)) = true) := Go.Lib.hid (by simp [hs, hn, h0, h16])
                  rw [hn] at t1; clear hs hn
                  rcases h67 with h | h
                  all_goals
                    subst h
                    go_wp2_with (go_at_call 66; refine (reals_Bits _ _).mono ?_; rintro e w' ⟨rfl, rfl⟩)
                    go_ret
                    exact ⟨ret_bool (by rw [HE.out, CL.out] <;> first | rfl | exact decide_eq_false (by omega) | exact decide_eq_true (by omega)), (Ext.refl _ _).alloc _⟩
                · have CL : Hid ((decide (key.size = 0) && noneB x && decide (0 ≤ id) && decide (id < 16)) = false) := Go.Lib.hid (by simp [h16])
                  rw [hn] at t1; clear hs hn
                  rcases h67 with h | h
                  all_goals
                    subst h
                    go_wp2_with (go_at_call 66; refine (reals_Bits _ _).mono ?_; rintro e w' ⟨rfl, rfl⟩)
                    go_ret
                    exact ⟨ret_bool (by rw [HE.out, CL.out] <;> first | rfl | exact decide_eq_false (by omega) | exact decide_eq_true (by omega)), (Ext.refl _ _).alloc _⟩
              · have CL : Hid ((decide (key.size = 0) && noneB x && decide (0 ≤ id) && decide (id < 16)) = false) := Go.Lib.hid (by simp [h0])
                rw [hn] at t1; clear hs hn
                rcases h67 with h | h
                all_goals
                  subst h
                  go_wp2_with (go_at_call 66; refine (reals_Bits _ _).mono ?_; rintro e w' ⟨rfl, rfl⟩)
                  go_ret
                  exact ⟨ret_bool (by rw [HE.out, CL.out] <;> first | rfl | exact decide_eq_false (by omega) | exact decide_eq_true (by omega)), (Ext.refl _ _).alloc _⟩
            · have CL : Hid ((decide (key.size = 0) && noneB x && decide (0 ≤ id) && decide (id < 16)) = false) := Go.Lib.hid (by simp [hn])
              rw [hn] at t1; clear hs hn
              rcases h67 with h | h
              all_goals
                subst h
                go_wp2_with (go_at_call 66; refine (reals_Bits _ _).mono ?_; rintro e w' ⟨rfl, rfl⟩)
                go_ret
                exact ⟨ret_bool (by rw [HE.out, CL.out] <;> first | rfl | exact decide_eq_false (by omega) | exact decide_eq_true (by omega)), (Ext.refl _ _).alloc _⟩
          · have CL : Hid ((decide (key.size = 0) && noneB x && decide (0 ≤ id) && decide (id < 16)) = false) := Go.Lib.hid (by rw [toList_nil] at hk; simp [hk])
            rcases h67 with h | h
            all_goals
              subst h
              go_wp2_with (go_at_call 66; refine (reals_Bits _ _).mono ?_; rintro e w' ⟨rfl, rfl⟩)
              go_ret
              exact ⟨ret_bool (by rw [HE.out, CL.out] <;> first | rfl | exact decide_eq_false (by omega) | exact decide_eq_true (by omega)), (Ext.refl _ _).alloc _⟩
        · have HE : Hid (opB ⟨k, key, x, id⟩ = false) := Go.Lib.hid (by unfold opB; rw [if_neg h45, if_neg h123, if_neg h67])
          have k1 : (k == 1) = false := by rw [beq_eq_false_iff_ne]; omega
          have k2 : (k == 2) = false := by rw [beq_eq_false_iff_ne]; omega
          have k3 : (k == 3) = false := by rw [beq_eq_false_iff_ne]; omega
          have k4 : (k == 4) = false := by rw [beq_eq_false_iff_ne]; omega
          have k5 : (k == 5) = false := by rw [beq_eq_false_iff_ne]; omega
          have k6 : (k == 6) = false := by rw [beq_eq_false_iff_ne]; omega
          have k7 : (k == 7) = false := by rw [beq_eq_false_iff_ne]; omega
          clear h45 h123 h67
          go_wp2_with (go_at_call 66; refine (reals_Bits _ _).mono ?_; rintro e w' ⟨rfl, rfl⟩)
          go_ret
          exact ⟨ret_bool (by rw [HE.out]), (Ext.refl _ _).alloc _⟩

theorem deeds_Right (c s k : Int) (key : ByteArray) (x : Nat) (id : Int) (w : World) : Calls Tryz.prog 50 #[.agg #[.int .i64 c, .int .i64 s, .int .i64 k, .string key, .float .f64 x, .int .i64 id]] w fun e w' => e = .returned (.bool (rightB ⟨c, s, ⟨k, key, x, id⟩⟩)) ∧ Ext Non w w' := by
  have HE : Hid (rightB ⟨c, s, ⟨k, key, x, id⟩⟩ = (withinB c 1 8 && withinB s 1 1048576 && opB ⟨k, key, x, id⟩)) := Go.Lib.hid rfl
  cases h1 : withinB c 1 8
  · have H1 := Go.Lib.hid h1
    go_enter Tryz.func50, Tryz.ntmps50
    go_wp2_with (go_at_call 85; refine (deeds_within _ _ _ _).mono ?_; rintro e w' ⟨rfl, rfl⟩)
    go_ret
    exact ⟨ret_bool (by rw [HE.out, H1.out]; rfl), (Ext.refl _ _).alloc _⟩
  · cases h2 : withinB s 1 1048576
    · have H2 := Go.Lib.hid h2
      go_enter Tryz.func50, Tryz.ntmps50
      go_wp2_with (go_at_call 85; refine (deeds_within _ _ _ _).mono ?_; rintro e w' ⟨rfl, rfl⟩)
      go_ret
      exact ⟨ret_bool (by rw [HE.out, H2.out]; simp), ((Ext.refl _ _).alloc _)⟩
    · have H1 := Go.Lib.hid h1
      have H2 := Go.Lib.hid h2
      go_enter Tryz.func50, Tryz.ntmps50
      go_wp2_with (first | (go_at_call 85; refine (deeds_within _ _ _ _).mono ?_; rintro e w' ⟨rfl, rfl⟩) | (go_at_call 86; refine (deeds_right _ _ _ _ _).mono ?_; rintro e w' ⟨rfl, y⟩))
      go_ret
      exact ⟨ret_bool (by rw [HE.out, H1.out, H2.out]; simp), ((Ext.refl _ _).alloc _).trans y⟩
theorem deeds_Null (c s k : Int) (key : ByteArray) (x : Nat) (id : Int) (hc : I64 c) (hs : I64 s) (hk : I64 k) (hid : I64 id) (w : World) : Calls Tryz.prog 51 #[.agg #[.int .i64 c, .int .i64 s, .int .i64 k, .string key, .float .f64 x, .int .i64 id]] w fun e w' => e = .returned (.bool (nullB ⟨c, s, ⟨k, key, x, id⟩⟩)) ∧ Ext Non w w' := by
  have o1 := or_i64 c s hc hs
  have o2 := or_i64 _ k o1.2 hk
  have o3 := or_i64 _ id o2.2 hid
  have hor : bits .or .i64 (bits .or .i64 (bits .or .i64 c s) k) id = 0 ↔ c = 0 ∧ s = 0 ∧ k = 0 ∧ id = 0 := by
    rw [o3.1, o2.1, o1.1]; exact ⟨fun ⟨⟨⟨a, b⟩, c⟩, d⟩ => ⟨a, b, c, d⟩, fun ⟨a, b, c, d⟩ => ⟨⟨⟨a, b⟩, c⟩, d⟩⟩
  have t1 : (((canonN x : Nat) : Int) == 0) = noneB x := by unfold noneB; rw [Bool.eq_iff_iff]; simp
  have HE : Hid (nullB ⟨c, s, ⟨k, key, x, id⟩⟩ = (decide (c = 0) && decide (s = 0) && decide (k = 0) && decide (id = 0) && decide (key.size = 0) && noneB x)) := Go.Lib.hid rfl
  generalize hB : bits .or .i64 (bits .or .i64 (bits .or .i64 c s) k) id = B at hor
  clear o1 o2 o3
  by_cases hB0 : B = 0
  · have h0 := Go.Lib.hid (hor.1 hB0)
    subst hB0; clear hor
    by_cases hke : key.toList = []
    · have hs0 := Go.Lib.hid ((toList_nil key).1 hke)
      go_enter Tryz.func51, Tryz.ntmps51
      go_wp2_with (go_at_call 66; refine (reals_Bits _ _).mono ?_; rintro e w' ⟨rfl, rfl⟩)
      go_ret
      exact ⟨ret_bool (by rw [HE.out]; obtain ⟨q1, q2, q3, q4⟩ := h0.out; have q5 := hs0.out; simp [q1, q2, q3, q4, q5]), (Ext.refl _ _).alloc _⟩
    · have hs0 := Go.Lib.hid (fun h => hke ((toList_nil key).2 h))
      go_enter Tryz.func51, Tryz.ntmps51
      go_wp2
      go_ret
      exact ⟨ret_bool (by rw [HE.out, decide_eq_false hs0.out]; simp), (Ext.refl _ _).alloc _⟩
  · have h0 := Go.Lib.hid (fun h => hB0 (hor.2 h))
    have hb0 : (B == 0) = false := by rw [beq_eq_false_iff_ne]; exact hB0
    clear hor hB0
    go_enter Tryz.func51, Tryz.ntmps51
    go_wp2
    go_ret
    refine ⟨ret_bool ?_, (Ext.refl _ _).alloc _⟩
    rw [HE.out]
    have q := h0.out
    have : (decide (c = 0) && decide (s = 0) && decide (k = 0) && decide (id = 0)) = false := by
      rw [Bool.eq_false_iff]; intro h; simp only [Bool.and_eq_true, decide_eq_true_eq] at h; exact q ⟨h.1.1.1, h.1.1.2, h.1.2, h.2⟩
    rw [this]; rfl
end Go.Proofs.YtekbonciafbjiaaGreat

/- Contracts of the reference of layer 11: which requests are right. -/
namespace Go.Proofs.YtekbonciafbjiaaGreat
open Go.RowKit F64
set_option linter.unusedSimpArgs false
set_option linter.unusedVariables false

theorem cell_new' (w : World) (vs : Array Value) (t : TypeId) {k : Nat} {v : Value} (h : vs[k]? = some v) : (w.alloc (.cells vs t)).cell? ⟨w.heap.size, k, none⟩ = some v := by
  have e := heap_alloc_new w (.cells vs t)
  unfold World.cell?; rw [e]; exact h
theorem ref_plain (k : Int) (key : ByteArray) (x : Nat) (id : Int) (w : World) : Calls Tryz.prog 88 #[.agg #[.int .i64 k, .string key, .float .f64 x, .int .i64 id]] w fun e w' => e = .returned (.bool (noneB x)) ∧ Ext Non w w' := by
  have t1 : (((canonN x : Nat) : Int) == 0) = noneB x := by unfold noneB; rw [Bool.eq_iff_iff]; simp
  go_enter Tryz.func88, Tryz.ntmps88
  go_wp2_with (go_at_call 42; refine (ref_Bits _ _).mono ?_; rintro e w' ⟨rfl, rfl⟩)
  go_returns
  exact ⟨by rw [← t1]; rfl, (Ext.refl _ _).alloc _⟩
theorem ref_keyed (k : Int) (key : ByteArray) (x : Nat) (id : Int) (w : World) : Calls Tryz.prog 99 #[.agg #[.int .i64 k, .string key, .float .f64 x, .int .i64 id]] w fun e w' => e = .returned (.bool (keyB ⟨k, key, x, id⟩)) ∧ Ext Non w w' := by
  go_enter Tryz.func99, Tryz.ntmps99
  go_wp2
  all_goals
    go_returns
    exact ⟨ret_bool (by unfold keyB; rw [Bool.eq_iff_iff]; simp; omega), (Ext.refl _ _).alloc _⟩
theorem ref_Op (k : Int) (key : ByteArray) (x : Nat) (id : Int) (w : World) : Calls Tryz.prog 77 #[.agg #[.int .i64 k, .string key, .float .f64 x, .int .i64 id]] w fun e w' => e = .returned (.bool (opB ⟨k, key, x, id⟩)) ∧ Ext Non w w' := by
  have B0 : Ext Non w (w.alloc (.cells #[.int .i64 k, .string key, .float .f64 x, .int .i64 id] 51)) := (Ext.refl _ _).alloc _
  by_cases h45 : k = 4 ∨ k = 5
  · have HE : Hid (opB ⟨k, key, x, id⟩ = (noneB x && keyB ⟨k, key, x, id⟩)) := Go.Lib.hid (by unfold opB; rw [if_pos h45])
    cases hkb : keyB ⟨k, key, x, id⟩
    all_goals
      have HK := Go.Lib.hid hkb
      clear hkb
      rcases h45 with h | h
      all_goals
        have KK := Go.Lib.hid h
        subst h
        go_enter Tryz.func77, Tryz.ntmps77
        go_wp2_with fail
        refine (ref_keyed _ _ _ _ _).mono ?_
        rintro e w1 ⟨rfl, y⟩
        rw [HK.out]
        have cc : ∀ j v, (#[Value.int .i64 _, .string key, .float .f64 x, .int .i64 id] : Array Value)[j]? = some v → w1.cell? ⟨w.heap.size, j, none⟩ = some v := fun j v hv => (y.cell (p := ⟨w.heap.size, j, none⟩) (by simp) (fun f => f)).trans (cell_new' w _ _ hv)
        have c0 := cc 0 _ rfl; have c1 := cc 1 _ rfl; have c2 := cc 2 _ rfl; have c3 := cc 3 _ rfl
        clear cc
        first
        | (go_wp2_with fail
           refine (ref_plain _ _ _ _ _).mono ?_
           rintro e w2 ⟨rfl, y2⟩
           go_wp2
           go_returns
           exact ⟨ret_bool (by rw [HE.out, HK.out]; simp), (B0.trans y).trans y2⟩)
        | (go_wp2
           go_returns
           exact ⟨ret_bool (by rw [HE.out, HK.out]; simp), B0.trans y⟩)
  · by_cases h123 : k = 1 ∨ k = 2 ∨ k = 3
    · have HE : Hid (opB ⟨k, key, x, id⟩ = keyB ⟨k, key, x, id⟩) := Go.Lib.hid (by unfold opB; rw [if_neg h45, if_pos h123])
      clear h45
      rcases h123 with h | h | h
      all_goals
        subst h
        go_enter Tryz.func77, Tryz.ntmps77
        go_wp2_with fail
        refine (ref_keyed _ _ _ _ _).mono ?_
        rintro e w1 ⟨rfl, y⟩
        go_wp2
        go_returns
        exact ⟨ret_bool (by rw [HE.out]), B0.trans y⟩
    · by_cases h67 : k = 6 ∨ k = 7
      · have HE : Hid (opB ⟨k, key, x, id⟩ = (decide (key.size = 0) && noneB x && decide (0 ≤ id) && decide (id < 16))) := Go.Lib.hid (by unfold opB; rw [if_neg h45, if_neg h123, if_pos h67])
        clear h45 h123
        by_cases hk : key.toList = []
        · have HS := Go.Lib.hid ((toList_nil key).1 hk)
          cases hn : noneB x
          all_goals
            have HN := Go.Lib.hid hn
            clear hn
            rcases h67 with h | h
            all_goals
              subst h
              go_enter Tryz.func77, Tryz.ntmps77
              go_wp2_with fail
              refine (ref_plain _ _ _ _ _).mono ?_
              rintro e w1 ⟨rfl, y⟩
              rw [HN.out]
              have c3 : w1.cell? ⟨w.heap.size, 3, none⟩ = some (.int .i64 id) := (y.cell (p := ⟨w.heap.size, 3, none⟩) (by simp) (fun f => f)).trans (cell_new' w _ _ rfl)
              go_wp2
              all_goals
                go_returns
                exact ⟨ret_bool (by rw [HE.out, HN.out, HS.out, Bool.eq_iff_iff]; simp; try omega), B0.trans y⟩
        · have HS := Go.Lib.hid (fun h => hk ((toList_nil key).2 h))
          rcases h67 with h | h
          all_goals
            subst h
            go_enter Tryz.func77, Tryz.ntmps77
            go_wp2
            go_returns
            exact ⟨ret_bool (by rw [HE.out, decide_eq_false HS.out]; simp), B0⟩
      · have HE : Hid (opB ⟨k, key, x, id⟩ = false) := Go.Lib.hid (by unfold opB; rw [if_neg h45, if_neg h123, if_neg h67])
        have k1 : (k == 1) = false := by rw [beq_eq_false_iff_ne]; omega
        have k2 : (k == 2) = false := by rw [beq_eq_false_iff_ne]; omega
        have k3 : (k == 3) = false := by rw [beq_eq_false_iff_ne]; omega
        have k4 : (k == 4) = false := by rw [beq_eq_false_iff_ne]; omega
        have k5 : (k == 5) = false := by rw [beq_eq_false_iff_ne]; omega
        have k6 : (k == 6) = false := by rw [beq_eq_false_iff_ne]; omega
        have k7 : (k == 7) = false := by rw [beq_eq_false_iff_ne]; omega
        clear h45 h123 h67
        go_enter Tryz.func77, Tryz.ntmps77
        go_wp2
        go_returns
        exact ⟨ret_bool (by rw [HE.out]), B0⟩
theorem ref_Right (c s k : Int) (key : ByteArray) (x : Nat) (id : Int) (w : World) : Calls Tryz.prog 38 #[.agg #[.int .i64 c, .int .i64 s, .int .i64 k, .string key, .float .f64 x, .int .i64 id]] w fun e w' => e = .returned (.bool (rightB ⟨c, s, ⟨k, key, x, id⟩⟩)) ∧ Ext Non w w' := by
  have HE : Hid (rightB ⟨c, s, ⟨k, key, x, id⟩⟩ = (decide (1 ≤ c) && decide (c ≤ 8) && (decide (1 ≤ s) && decide (s ≤ 1048576)) && opB ⟨k, key, x, id⟩)) := Go.Lib.hid rfl
  by_cases hg : 1 ≤ c ∧ c ≤ 8 ∧ 1 ≤ s ∧ s ≤ 1048576
  · obtain ⟨h1, h2, h3, h4⟩ := hg
    have d1 := decide_eq_true h1; have d2 := decide_eq_true h2; have d3 := decide_eq_true h3; have d4 := decide_eq_true h4
    have HD := Go.Lib.hid (And.intro d1 (And.intro d2 (And.intro d3 d4)))
    clear d1 d2 d3 d4
    go_enter Tryz.func38, Tryz.ntmps38
    go_wp2_with fail
    refine (ref_Op _ _ _ _ _).mono ?_
    rintro e w1 ⟨rfl, y⟩
    go_wp2
    go_returns
    exact ⟨ret_bool (by obtain ⟨d1, d2, d3, d4⟩ := HD.out; rw [HE.out, d1, d2, d3, d4]; rfl), ((Ext.refl _ _).alloc _).trans y⟩
  · have HG : Hid ((decide (1 ≤ c) && decide (c ≤ 8) && (decide (1 ≤ s) && decide (s ≤ 1048576)) && opB ⟨k, key, x, id⟩) = false) := Go.Lib.hid (by
      rw [Bool.eq_false_iff]; intro h; simp only [Bool.and_eq_true, decide_eq_true_eq] at h; exact hg ⟨h.1.1.1, h.1.1.2, h.1.2.1, h.1.2.2⟩)
    by_cases h1 : 1 ≤ c
    · by_cases h2 : c ≤ 8
      · by_cases h3 : 1 ≤ s
        · have h4 : ¬ s ≤ 1048576 := fun h => hg ⟨h1, h2, h3, h⟩
          go_enter Tryz.func38, Tryz.ntmps38
          go_wp2
          go_returns
          exact ⟨ret_bool (by rw [HE.out, HG.out]), (Ext.refl _ _).alloc _⟩
        · go_enter Tryz.func38, Tryz.ntmps38
          go_wp2
          go_returns
          exact ⟨ret_bool (by rw [HE.out, HG.out]), (Ext.refl _ _).alloc _⟩
      · go_enter Tryz.func38, Tryz.ntmps38
        go_wp2
        go_returns
        exact ⟨ret_bool (by rw [HE.out, HG.out]), (Ext.refl _ _).alloc _⟩
    · go_enter Tryz.func38, Tryz.ntmps38
      go_wp2
      go_returns
      exact ⟨ret_bool (by rw [HE.out, HG.out]), (Ext.refl _ _).alloc _⟩
end Go.Proofs.YtekbonciafbjiaaGreat
