/- Joined texts: Terms, Ref07. What each proves stands at its head; no conditions beside those in its theorems. -/
import Derived.Test.YtekbonciafbjiaaGreatPjAA
import Derived.Test.YtekbonciafbjiaaGreatPjAC
import Derived.Test.YtekbonciafbjiaaGreatPjAD
import Derived.Test.YtekbonciafbjiaaGreatPjAG
import Derived.Test.YtekbonciafbjiaaGreatPjAI
import Derived.Test.YtekbonciafbjiaaGreatPjAJ
import Derived.Test.YtekbonciafbjiaaGreatPjAL
import Derived.Test.YtekbonciafbjiaaGreatPjAM
import Derived.Test.YtekbonciafbjiaaGreatPjAO
/- Contracts of layers 7 and 9 (council, terms); the reference's. -/
namespace Go.Proofs.YtekbonciafbjiaaGreat
open Go.RowKit Go.Lib F64
set_option linter.unusedSimpArgs false
set_option linter.unusedVariables false

theorem idx_of (xs : List Int) (t : Int) (i : Nat) (hi : i < xs.length) (h0 : ∀ j (h : j < xs.length), j < i → xs[j] ≠ t) (he : xs[i] = t) : hasB xs t = true := by rw [hasB_iff, ← he]; exact List.getElem_mem hi
theorem idx_no (xs : List Int) (t : Int) (h0 : ∀ j (h : j < xs.length), j < xs.length → xs[j] ≠ t) : hasB xs t = false := by
  rw [Bool.eq_false_iff]; intro h
  rw [hasB_iff] at h
  obtain ⟨j, hj, e⟩ := List.getElem_of_mem h
  exact h0 j hj hj e
theorem slices_Index (a : Option Addr) (cap : Nat) (xs : List Int) (t : Int) (w : World) (h : Ints w a cap xs) : Calls Tryz.prog 83 #[.slice a xs.length cap, .int .i64 t] w fun e w' => ∃ n : Int, e = .returned (.int .i64 n) ∧ w = w' ∧ (decide (0 ≤ n) = hasB xs t) := by
  have hm := h.small
  have hm2 := h.le
  have HH := Go.Lib.hid h; clear h
  go_enter Tryz.func83, Tryz.ntmps83
  go_wp2
  go_loop [8] (fun iv => ∃ (i : Nat), i ≤ xs.length ∧ iv = .int .i64 i ∧ (∀ j (h : j < xs.length), j < i → xs[j] ≠ t)) (fun iv => xs.length - (intOf iv).toNat)
  case atStart => exact ⟨0, Nat.zero_le _, rfl, fun j h hj => absurd hj (Nat.not_lt_zero _)⟩
  case round =>
    obtain ⟨i, hi, rfl, hn⟩ := hrel
    have HN := Go.Lib.hid hn; clear hn
    by_cases hlt : i < xs.length
    · obtain ⟨b, o, rfl, hc, hx⟩ := HH.out.at_ i hlt
      generalize hxi : xs[i] = x at *
      have HX := Go.Lib.hid hxi; clear hxi
      by_cases hxt : x = t
      · have hb : (t == x) = true := by rw [hxt]; simp
        have HT := Go.Lib.hid hxt; clear hxt
        go_wp2
        go_ret
        refine ⟨_, rfl, rfl, ?_⟩
        rw [idx_of xs t i hlt HN.out (HX.out.trans HT.out)]
        simp
      · have hb : (t == x) = false := by rw [beq_eq_false_iff_ne]; exact fun e => hxt e.symm
        have HT := Go.Lib.hid hxt; clear hxt
        go_wp2
        go_round
        case rel =>
          refine ⟨i + 1, hlt, by go_num, fun j hj hji => ?_⟩
          rcases Nat.lt_or_eq_of_le (Nat.lt_succ_iff.1 hji) with h | rfl
          · exact HN.out j hj h
          · exact fun e => HT.out (HX.out.symm.trans e)
        case measure => simp [intOf]; omega
    · go_wp2
      go_ret
      refine ⟨_, rfl, rfl, ?_⟩
      rw [idx_no xs t (fun j hj _ => HN.out j hj (by omega))]
      rfl
theorem slices_Contains (a : Option Addr) (cap : Nat) (xs : List Int) (t : Int) (w : World) (h : Ints w a cap xs) : Calls Tryz.prog 43 #[.slice a xs.length cap, .int .i64 t] w fun e w' => e = .returned (.bool (hasB xs t)) ∧ w = w' := by
  have HH := Go.Lib.hid h; clear h
  go_enter Tryz.func43, Tryz.ntmps43
  go_wp2_with fail
  refine (slices_Index _ _ _ _ _ HH.out).mono ?_
  rintro e w1 ⟨n, rfl, rfl, hn⟩
  have HN := Go.Lib.hid hn; clear hn
  go_wp2
  go_ret
  exact ⟨ret_bool HN.out, rfl⟩
theorem ref_Has (a : Option Addr) (cap : Nat) (xs : List Int) (t : Int) (w : World) (h : Ints w a cap xs) : Calls Tryz.prog 45 #[.slice a xs.length cap, .int .i64 t] w fun e w' => e = .returned (.bool (hasB xs t)) ∧ ∃ n, w' = w.drewN n := by
  have hm := h.small
  have hm2 := h.le
  have HH := Go.Lib.hid h; clear h
  go_enter Tryz.func45, Tryz.ntmps45
  go_wp2
  go_loopw [5] (fun iv wr => ∃ (i : Nat), i ≤ xs.length ∧ iv = .int .i64 i ∧ (∃ n, wr = w.drewN n) ∧ (∀ j (h : j < xs.length), j < i → xs[j] ≠ t)) (fun iv _ => xs.length - (intOf iv).toNat)
  case atStart => exact ⟨0, Nat.zero_le _, rfl, ⟨0, rfl⟩, fun j h hj => absurd hj (Nat.not_lt_zero _)⟩
  case round =>
    obtain ⟨i, hi, rfl, ⟨nd, rfl⟩, hn⟩ := hrel
    have HN := Go.Lib.hid hn; clear hn
    by_cases hlt : i < xs.length
    · obtain ⟨b, o, rfl, hc, hx⟩ := (HH.out.drewN nd).at_ i hlt
      generalize hxi : xs[i] = x at *
      have HX := Go.Lib.hid hxi; clear hxi
      by_cases hxt : x = t
      · have hb : (x == t) = true := by rw [hxt]; simp
        have HT := Go.Lib.hid hxt; clear hxt
        go_wp2
        go_ret
        exact ⟨ret_bool (by rw [idx_of xs t i hlt HN.out (HX.out.trans HT.out)]), _, rfl⟩
      · have hb : (x == t) = false := by rw [beq_eq_false_iff_ne]; exact hxt
        have HT := Go.Lib.hid hxt; clear hxt
        go_wp2
        go_roundw
        case rel =>
          refine ⟨i + 1, hlt, by go_num, ⟨_, rfl⟩, fun j hj hji => ?_⟩
          rcases Nat.lt_or_eq_of_le (Nat.lt_succ_iff.1 hji) with h | rfl
          · exact HN.out j hj h
          · exact fun e => HT.out (HX.out.symm.trans e)
        case measure => simp [intOf]; omega
    · go_wp2
      go_ret
      exact ⟨ret_bool (by rw [idx_no xs t (fun j hj _ => HN.out j hj (by omega))]), _, rfl⟩
theorem council_Faults (n : Int) (h0 : 0 ≤ n) (h1 : n ≤ 4611686018427387903) (w : World) : Calls Tryz.prog 44 #[.int .i64 n] w fun e w' => e = .returned (.int .i64 (faultsI n)) ∧ w = w' := by
  by_cases hn : n < 1
  · have HF := Go.Lib.hid (show faultsI n = 0 by unfold faultsI; rw [if_pos hn])
    go_enter Tryz.func44, Tryz.ntmps44
    go_wp2
    go_ret
    exact ⟨ret_int HF.out.symm, rfl⟩
  · have HF := Go.Lib.hid (show faultsI n = (n - 1) / 3 by unfold faultsI; rw [if_neg hn])
    have hw : IntKind.i64.wrap (n - 1) = n - 1 := IntWalk.i64_in _ (by omega)
    have hge : 0 ≤ n - 1 := by omega
    go_enter Tryz.func44, Tryz.ntmps44
    go_wp2
    go_ret
    exact ⟨ret_int (by rw [HF.out]; try rw [Int.tdiv_eq_ediv_of_nonneg (by omega)]), rfl⟩
theorem ref_Faults (n : Int) (h0 : 0 ≤ n) (h1 : n ≤ 4611686018427387903) (w : World) : Calls Tryz.prog 46 #[.int .i64 n] w fun e w' => e = .returned (.int .i64 (faultsI n)) ∧ w = w' := by
  by_cases hn : n < 1
  · have HF := Go.Lib.hid (show faultsI n = 0 by unfold faultsI; rw [if_pos hn])
    go_enter Tryz.func46, Tryz.ntmps46
    go_wp2
    go_ret
    exact ⟨ret_int HF.out.symm, rfl⟩
  · have HF := Go.Lib.hid (show faultsI n = (n - 1) / 3 by unfold faultsI; rw [if_neg hn])
    have hw : IntKind.i64.wrap (n - 1) = n - 1 := IntWalk.i64_in _ (by omega)
    have hge : 0 ≤ n - 1 := by omega
    go_enter Tryz.func46, Tryz.ntmps46
    go_wp2
    go_ret
    exact ⟨ret_int (by rw [HF.out]; try rw [Int.tdiv_eq_ediv_of_nonneg (by omega)]), rfl⟩
/-! ### The reference's members -/
theorem rising_snoc (l : List Int) : ∀ last, risingB last l = true ↔ ∀ j (h : j < l.length), (l[j] < 16 ∧ (if h0 : j = 0 then last < l[j] else l[j - 1]'(by omega) < l[j])) := by
  induction l with
  | nil => intro last; exact ⟨fun _ j h => absurd h (Nat.not_lt_zero _), fun _ => rfl⟩
  | cons x xs ih =>
    intro last
    simp only [risingB, Bool.and_eq_true, decide_eq_true_eq]
    rw [ih x]
    constructor
    · rintro ⟨⟨h1, h2⟩, h3⟩ j hj
      cases j with
      | zero => exact ⟨h2, by rw [dif_pos rfl]; exact h1⟩
      | succ j =>
        have hj' : j < xs.length := by simpa using hj
        obtain ⟨a, b⟩ := h3 j hj'
        refine ⟨a, ?_⟩
        rw [dif_neg (by omega)]
        by_cases h0 : j = 0
        · subst h0; rw [dif_pos rfl] at b; exact b
        · rw [dif_neg h0] at b
          have e : (x :: xs)[j + 1 - 1]'(by simp; omega) = xs[j - 1]'(by omega) := by
            obtain ⟨k, rfl⟩ : ∃ k, j = k + 1 := ⟨j - 1, by omega⟩
            rfl
          rw [e]; exact b
    · intro h
      obtain ⟨a0, b0⟩ := h 0 (by simp)
      rw [dif_pos rfl] at b0
      refine ⟨⟨b0, a0⟩, fun j hj => ?_⟩
      obtain ⟨a, b⟩ := h (j + 1) (by simp; omega)
      refine ⟨a, ?_⟩
      rw [dif_neg (by omega)] at b
      by_cases h0 : j = 0
      · subst h0; rw [dif_pos rfl]; exact b
      · rw [dif_neg h0]
        have e : (x :: xs)[j + 1 - 1]'(by simp; omega) = xs[j - 1]'(by omega) := by
          obtain ⟨k, rfl⟩ : ∃ k, j = k + 1 := ⟨j - 1, by omega⟩
          rfl
        rw [e] at b; exact b
/-- As the reference looks at one. -/
def okM (l : List Int) (j : Nat) (h : j < l.length) : Prop := 0 ≤ l[j] ∧ l[j] < 16 ∧ (∀ h0 : 0 < j, l[j - 1]'(by omega) < l[j])
theorem rising_okM (l : List Int) : risingB (-1) l = true ↔ ∀ j (h : j < l.length), okM l j h := by
  rw [rising_snoc]
  constructor
  · intro h j
    induction j with
    | zero =>
      intro hj
      obtain ⟨a, b⟩ := h 0 hj
      rw [dif_pos rfl] at b
      exact ⟨by omega, a, fun h0 => absurd h0 (Nat.lt_irrefl 0)⟩
    | succ j ih =>
      intro hj
      obtain ⟨a, b⟩ := h (j + 1) hj
      rw [dif_neg (by omega)] at b
      have := (ih (by omega)).1
      simp only [Nat.add_sub_cancel] at b
      exact ⟨by omega, a, fun _ => by simpa using b⟩
  · intro h j hj
    obtain ⟨a, b, c⟩ := h j hj
    refine ⟨b, ?_⟩
    by_cases h0 : j = 0
    · rw [dif_pos h0]; omega
    · rw [dif_neg h0]; exact c (by omega)
set_option maxHeartbeats 2000000 in
set_option maxRecDepth 100000 in
theorem ref_Members (a : Option Addr) (cap : Nat) (xs : List Int) (w : World) (h : Ints w a cap xs) : Calls Tryz.prog 55 #[.slice a xs.length cap] w fun e w' => e = .returned (.bool (membersB xs)) ∧ Ext Non w w' := by
  have hm := h.small
  have hm2 := h.le
  have HH := Go.Lib.hid h; clear h
  go_enter Tryz.func55, Tryz.ntmps55
  go_wp2
  go_loopw [3] (fun iv wr => ∃ (i : Nat), i ≤ xs.length ∧ iv = .int .i64 i ∧ Ext Non w wr ∧ (∀ j (h : j < xs.length), j < i → okM xs j h)) (fun iv _ => xs.length - (intOf iv).toNat)
  case atStart => exact ⟨0, Nat.zero_le _, rfl, Ext.refl _ _, fun j h hj => absurd hj (Nat.not_lt_zero _)⟩
  case round =>
    obtain ⟨i, hi, rfl, x0, hn⟩ := hrel
    have XX := Go.Lib.hid x0; clear x0
    have HN := Go.Lib.hid hn; clear hn
    by_cases hlt : i < xs.length
    · obtain ⟨b, o, rfl, hc, hx⟩ := (HH.out.extN XX.out).at_ i hlt
      generalize hxi : xs[i] = x at *
      have HX := Go.Lib.hid hxi; clear hxi
      have bad : ¬ okM xs i hlt → membersB xs = false := fun hno => by
        unfold membersB
        have : risingB (-1) xs = false := by rw [Bool.eq_false_iff]; intro hr; exact hno ((rising_okM xs).1 hr i hlt)
        rw [this]; rfl
      have BAD := Go.Lib.hid bad; clear bad
      by_cases h1 : 0 ≤ x
      · have d1 : decide (x < 0) = false := decide_eq_false (by omega)
        by_cases h2 : x < 16
        · have d2 : decide (16 ≤ x) = false := decide_eq_false (by omega)
          by_cases h3 : i = 0
          · subst h3
            rw [Nat.add_zero] at hc
            have d3 : decide ((0 : Int) < 0) = false := rfl
            have HO : Hid (okM xs 0 hlt) := Go.Lib.hid ⟨by rw [HX.out]; exact h1, by rw [HX.out]; exact h2, fun h0 => absurd h0 (Nat.lt_irrefl 0)⟩
            go_wp2_with fail
            go_quiet (fail)
            go_wp2
            go_roundw
            case rel =>
              refine ⟨1, by omega, rfl, XX.out.drewN _, fun j hj hji => ?_⟩
              obtain rfl : j = 0 := by omega
              exact HO.out
            case measure => simp [intOf]; omega
          · have hip : (0 : Int) < i := by omega
            have d3 : decide (0 < i) = true := decide_eq_true (by omega)
            have hw : IntKind.i64.wrap ((i : Int) - 1) = ((i - 1 : Nat) : Int) := by rw [show ((i : Int) - 1) = ((i - 1 : Nat) : Int) by omega]; exact IntWalk.i64_in _ (by omega)
            have hip1 : i - 1 < xs.length := by omega
            obtain ⟨b', o', e', hc', hx'⟩ := (HH.out.extN XX.out).at_ (i - 1) hip1
            have e1 : b' = b ∧ o' = o := by cases e'; exact ⟨rfl, rfl⟩
            obtain ⟨rfl, rfl⟩ := e1
            generalize hyi : xs[i - 1] = y at *
            have HY := Go.Lib.hid hyi; clear hyi e'
            generalize hpn : i - 1 = p at *
            have HPn := Go.Lib.hid hpn; clear hpn
            have hp0 : (0 : Int) ≤ (p : Int) := by omega
            have hp1 : (p : Int) < (xs.length : Int) := by omega
            by_cases h4 : y < x
            · have d4 : decide (x ≤ y) = false := decide_eq_false (by omega)
              have HO : Hid (okM xs i hlt) := Go.Lib.hid ⟨by rw [HX.out]; exact h1, by rw [HX.out]; exact h2, fun h0 => by
                have hp := HPn.out
                subst hp
                rw [HX.out, HY.out]; exact h4⟩
              go_wp2_with fail
              go_quiet (fail)
              go_wp2
              go_roundw
              case rel =>
                refine ⟨i + 1, hlt, by go_num, XX.out.drewN _, fun j hj hji => ?_⟩
                rcases Nat.lt_or_eq_of_le (Nat.lt_succ_iff.1 hji) with h | rfl
                · exact HN.out j hj h
                · exact HO.out
              case measure => simp [intOf]; omega
            · have d4 : decide (x ≤ y) = true := decide_eq_true (by omega)
              have HO := Go.Lib.hid (BAD.out (fun ho => h4 (by
                have := ho.2.2 (by omega)
                have hp := HPn.out
                subst hp
                rw [HX.out, HY.out] at this; exact this)))
              go_wp2_with fail
              go_quiet (fail)
              go_wp2
              go_ret
              exact ⟨ret_bool HO.out.symm, XX.out.drewN _⟩
        · have d2 : decide (16 ≤ x) = true := decide_eq_true (by omega)
          have HO := Go.Lib.hid (BAD.out (fun ho => h2 (by have := ho.2.1; rw [HX.out] at this; exact this)))
          go_wp2_with fail
          go_quiet (fail)
          go_wp2
          go_ret
          exact ⟨ret_bool HO.out.symm, XX.out.drewN _⟩
      · have d1 : decide (x < 0) = true := decide_eq_true (by omega)
        have HO := Go.Lib.hid (BAD.out (fun ho => h1 (by have := ho.1; rw [HX.out] at this; exact this)))
        go_wp2_with fail
        go_quiet (fail)
        go_wp2
        go_ret
        exact ⟨ret_bool HO.out.symm, XX.out.drewN _⟩
    · have HO := Go.Lib.hid (show membersB xs = (decide (4 ≤ xs.length) && decide (xs.length ≤ 10)) by
        unfold membersB
        rw [(rising_okM xs).2 (fun j hj => HN.out j hj (by omega))]; rfl)
      by_cases h4 : 4 ≤ xs.length
      · go_wp2
        go_ret
        exact ⟨ret_bool (by rw [HO.out, Bool.eq_iff_iff]; simp; omega), XX.out⟩
      · go_wp2
        go_ret
        exact ⟨ret_bool (by rw [HO.out, Bool.eq_iff_iff]; simp; omega), XX.out⟩
end Go.Proofs.YtekbonciafbjiaaGreat

/- Contracts of the reference of layer 7: which configurations are right. -/
namespace Go.Proofs.YtekbonciafbjiaaGreat
open Go.RowKit Go.Lib F64
set_option linter.unusedSimpArgs false
set_option linter.unusedVariables false

theorem ref_Right07 (ep : Int) (a : Option Addr) (cap : Nat) (xs : List Int) (w : World) (h : Ints w a cap xs) : Calls Tryz.prog 25 #[.agg #[.int .i64 ep, .slice a xs.length cap]] w fun e w' => e = .returned (.bool (confB ep xs)) ∧ Ext Non w w' := by
  have HE : Hid (confB ep xs = (decide (0 ≤ ep) && decide (ep ≤ 60) && membersB xs)) := Go.Lib.hid rfl
  have HH : Hid (Ints (w.alloc (.cells #[.int .i64 ep, .slice a xs.length cap] 24)) a cap xs) := Go.Lib.hid (h.extN ((Ext.refl _ _).alloc _))
  clear h
  by_cases h0 : 0 ≤ ep
  · by_cases h1 : ep ≤ 60
    · go_enter Tryz.func25, Tryz.ntmps25
      go_wp2_with fail
      refine (ref_Members _ _ _ _ HH.out).mono ?_
      rintro e w1 ⟨rfl, y⟩
      go_wp2
      go_ret
      exact ⟨ret_bool (by rw [HE.out, decide_eq_true h0, decide_eq_true h1]; rfl), ((Ext.refl _ _).alloc _).trans y⟩
    · go_enter Tryz.func25, Tryz.ntmps25
      go_wp2
      go_ret
      exact ⟨ret_bool (by rw [HE.out, decide_eq_false (by omega : ¬ ep ≤ 60)]; simp), (Ext.refl _ _).alloc _⟩
  · go_enter Tryz.func25, Tryz.ntmps25
    go_wp2
    go_ret
    exact ⟨ret_bool (by rw [HE.out, decide_eq_false (by omega : ¬ 0 ≤ ep)]; simp), (Ext.refl _ _).alloc _⟩
end Go.Proofs.YtekbonciafbjiaaGreat
