/- Joined texts: RefR. What each proves stands at its head; no conditions beside those in its theorems. -/
import Derived.Test.YtakbkpklfihfiaaPjAG
/- Contracts of the reference of layer 11: which requests are right. -/
namespace Go.Proofs.Ytakbkpklfihfiaa
open Go.RowKit F64
set_option linter.unusedSimpArgs false
set_option linter.unusedVariables false

theorem cell_new' (w : World) (vs : Array Value) (t : TypeId) {k : Nat} {v : Value} (h : vs[k]? = some v) : (w.alloc (.cells vs t)).cell? ⟨w.heap.size, k, none⟩ = some v := by
  have e := heap_alloc_new w (.cells vs t)
  unfold World.cell?; rw [e]; exact h
theorem ref_plain (k : Int) (key : ByteArray) (x : Nat) (id : Int) (w : World) : Calls Try.prog 80 #[.agg #[.int .i64 k, .string key, .float .f64 x, .int .i64 id]] w fun e w' => e = .returned (.bool (noneB x)) ∧ Ext Non w w' := by
  have t1 : (((canonN x : Nat) : Int) == 0) = noneB x := by unfold noneB; rw [Bool.eq_iff_iff]; simp
  go_enter Try.func80, Try.ntmps80
  go_wp2_with (go_at_call 76; refine (ref_Bits _ _).mono ?_; rintro e w' ⟨rfl, rfl⟩)
  go_returns
  exact ⟨by rw [← t1]; rfl, (Ext.refl _ _).alloc _⟩
theorem ref_keyed (k : Int) (key : ByteArray) (x : Nat) (id : Int) (w : World) : Calls Try.prog 121 #[.agg #[.int .i64 k, .string key, .float .f64 x, .int .i64 id]] w fun e w' => e = .returned (.bool (keyB ⟨k, key, x, id⟩)) ∧ Ext Non w w' := by
  go_enter Try.func121, Try.ntmps121
  go_wp2
  all_goals
    go_returns
    exact ⟨ret_bool (by unfold keyB; rw [Bool.eq_iff_iff]; simp; omega), (Ext.refl _ _).alloc _⟩
theorem ref_Op (k : Int) (key : ByteArray) (x : Nat) (id : Int) (w : World) : Calls Try.prog 79 #[.agg #[.int .i64 k, .string key, .float .f64 x, .int .i64 id]] w fun e w' => e = .returned (.bool (opB ⟨k, key, x, id⟩)) ∧ Ext Non w w' := by
  have B0 : Ext Non w (w.alloc (.cells #[.int .i64 k, .string key, .float .f64 x, .int .i64 id] 47)) := (Ext.refl _ _).alloc _
  by_cases h45 : k = 4 ∨ k = 5
  · have HE : Hid (opB ⟨k, key, x, id⟩ = (noneB x && keyB ⟨k, key, x, id⟩)) := Go.Lib.hid (by unfold opB; rw [if_pos h45])
    cases hkb : keyB ⟨k, key, x, id⟩
    all_goals
      have HK := Go.Lib.hid hkb
      clear hkb
      rcases h45 with h | h
      all_goals
        have KK := Go.Lib.hid h
        subst h
        go_enter Try.func79, Try.ntmps79
        go_wp2_with fail
        refine (ref_keyed _ _ _ _ _).mono ?_
        rintro e w1 ⟨rfl, y⟩
        rw [HK.out]
        have cc : ∀ j v, (#[Value.int .i64 _, .string key, .float .f64 x, .int .i64 id] : Array Value)[j]? = some v → w1.cell? ⟨w.heap.size, j, none⟩ = some v := fun j v hv => (y.cell (p := ⟨w.heap.size, j, none⟩) (by simp) (fun f => f)).trans (cell_new' w _ _ hv)
        have c0 := cc 0 _ rfl; have c1 := cc 1 _ rfl; have c2 := cc 2 _ rfl; have c3 := cc 3 _ rfl
        clear cc
        first
        | (go_wp2_with fail
           refine (ref_plain _ _ _ _ _).mono ?_
           rintro e w2 ⟨rfl, y2⟩
           go_wp2
           go_returns
           exact ⟨ret_bool (by rw [HE.out, HK.out]; simp), (B0.trans y).trans y2⟩)
        | (go_wp2
           go_returns
           exact ⟨ret_bool (by rw [HE.out, HK.out]; simp), B0.trans y⟩)
  · by_cases h123 : k = 1 ∨ k = 2 ∨ k = 3
    · have HE : Hid (opB ⟨k, key, x, id⟩ = keyB ⟨k, key, x, id⟩) := Go.Lib.hid (by unfold opB; rw [if_neg h45, if_pos h123])
      clear h45
      rcases h123 with h | h | h
      all_goals
        subst h
        go_enter Try.func79, Try.ntmps79
        go_wp2_with fail
        refine (ref_keyed _ _ _ _ _).mono ?_
        rintro e w1 ⟨rfl, y⟩
        go_wp2
        go_returns
        exact ⟨ret_bool (by rw [HE.out]), B0.trans y⟩
    · by_cases h67 : k = 6 ∨ k = 7
      · have HE : Hid (opB ⟨k, key, x, id⟩ = (decide (key.size = 0) && noneB x && decide (0 ≤ id) && decide (id < 16))) := Go.Lib.hid (by unfold opB; rw [if_neg h45, if_neg h123, if_pos h67])
        clear h45 h123
        by_cases hk : key.toList = []
        · have HS := Go.Lib.hid ((toList_nil key).1 hk)
          cases hn : noneB x
          all_goals
            have HN := Go.Lib.hid hn
            clear hn
            rcases h67 with h | h
            all_goals
              subst h
              go_enter Try.func79, Try.ntmps79
              go_wp2_with fail
              refine (ref_plain _ _ _ _ _).mono ?_
              rintro e w1 ⟨rfl, y⟩
              rw [HN.out]
              have c3 : w1.cell? ⟨w.heap.size, 3, none⟩ = some (.int .i64 id) := (y.cell (p := ⟨w.heap.size, 3, none⟩) (by simp) (fun f => f)).trans (cell_new' w _ _ rfl)
              go_wp2
              all_goals
                go_returns
                exact ⟨ret_bool (by rw [HE.out, HN.out, HS.out, Bool.eq_iff_iff]; simp; try omega), B0.trans y⟩
        · have HS := Go.Lib.hid (fun h => hk ((toList_nil key).2 h))
          rcases h67 with h | h
          all_goals
            subst h
            go_enter Try.func79, Try.ntmps79
            go_wp2
            go_returns
            exact ⟨ret_bool (by rw [HE.out, decide_eq_false HS.out]; simp), B0⟩
      · have HE : Hid (opB ⟨k, key, x, id⟩ = false) := Go.Lib.hid (by unfold opB; rw [if_neg h45, if_neg h123, if_neg h67])
        have k1 : (k == 1) = false := by rw [beq_eq_false_iff_ne]; omega
        have k2 : (k == 2) = false := by rw [beq_eq_false_iff_ne]; omega
        have k3 : (k == 3) = false := by rw [beq_eq_false_iff_ne]; omega
        have k4 : (k == 4) = false := by rw [beq_eq_false_iff_ne]; omega
        have k5 : (k == 5) = false := by rw [beq_eq_false_iff_ne]; omega
        have k6 : (k == 6) = false := by rw [beq_eq_false_iff_ne]; omega
        have k7 : (k == 7) = false := by rw [beq_eq_false_iff_ne]; omega
        clear h45 h123 h67
        go_enter Try.func79, Try.ntmps79
        go_wp2
        go_returns
        exact ⟨ret_bool (by rw [HE.out]), B0⟩
theorem ref_Right (c s k : Int) (key : ByteArray) (x : Nat) (id : Int) (w : World) : Calls Try.prog 25 #[.agg #[.int .i64 c, .int .i64 s, .int .i64 k, .string key, .float .f64 x, .int .i64 id]] w fun e w' => e = .returned (.bool (rightB ⟨c, s, ⟨k, key, x, id⟩⟩)) ∧ Ext Non w w' := by
  have HE : Hid (rightB ⟨c, s, ⟨k, key, x, id⟩⟩ = (decide (1 ≤ c) && decide (c ≤ 8) && (decide (1 ≤ s) && decide (s ≤ 1048576)) && opB ⟨k, key, x, id⟩)) := Go.Lib.hid rfl
  by_cases hg : 1 ≤ c ∧ c ≤ 8 ∧ 1 ≤ s ∧ s ≤ 1048576
  · obtain ⟨h1, h2, h3, h4⟩ := hg
    have d1 := decide_eq_true h1; have d2 := decide_eq_true h2; have d3 := decide_eq_true h3; have d4 := decide_eq_true h4
    have HD := Go.Lib.hid (And.intro d1 (And.intro d2 (And.intro d3 d4)))
    clear d1 d2 d3 d4
    go_enter Try.func25, Try.ntmps25
    go_wp2_with fail
    refine (ref_Op _ _ _ _ _).mono ?_
    rintro e w1 ⟨rfl, y⟩
    go_wp2
    go_returns
    exact ⟨ret_bool (by obtain ⟨d1, d2, d3, d4⟩ := HD.out; rw [HE.out, d1, d2, d3, d4]; rfl), ((Ext.refl _ _).alloc _).trans y⟩
  · have HG : Hid ((decide (1 ≤ c) && decide (c ≤ 8) && (decide (1 ≤ s) && decide (s ≤ 1048576)) && opB ⟨k, key, x, id⟩) = false) := Go.Lib.hid (by
      rw [Bool.eq_false_iff]; intro h; simp only [Bool.and_eq_true, decide_eq_true_eq] at h; exact hg ⟨h.1.1.1, h.1.1.2, h.1.2.1, h.1.2.2⟩)
    by_cases h1 : 1 ≤ c
    · by_cases h2 : c ≤ 8
      · by_cases h3 : 1 ≤ s
        · have h4 : ¬ s ≤ 1048576 := fun h => hg ⟨h1, h2, h3, h⟩
          go_enter Try.func25, Try.ntmps25
          go_wp2
          go_returns
          exact ⟨ret_bool (by rw [HE.out, HG.out]), (Ext.refl _ _).alloc _⟩
        · go_enter Try.func25, Try.ntmps25
          go_wp2
          go_returns
          exact ⟨ret_bool (by rw [HE.out, HG.out]), (Ext.refl _ _).alloc _⟩
      · go_enter Try.func25, Try.ntmps25
        go_wp2
        go_returns
        exact ⟨ret_bool (by rw [HE.out, HG.out]), (Ext.refl _ _).alloc _⟩
    · go_enter Try.func25, Try.ntmps25
      go_wp2
      go_returns
      exact ⟨ret_bool (by rw [HE.out, HG.out]), (Ext.refl _ _).alloc _⟩
end Go.Proofs.Ytakbkpklfihfiaa
