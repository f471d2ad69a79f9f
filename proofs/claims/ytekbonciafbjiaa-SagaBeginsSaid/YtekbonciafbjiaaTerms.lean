/- Contracts of layers 7 and 9 (council, terms); the reference's. -/
import Derived.Test.YtekbonciafbjiaaTermsP
import Derived.Test.YtekbonciafbjiaaPrep
namespace Go.Proofs.Ytekbonciafbjiaa
open Go.RowKit Go.Lib F64
set_option linter.unusedSimpArgs false
set_option linter.unusedVariables false

theorem idx_of (xs : List Int) (t : Int) (i : Nat) (hi : i < xs.length) (h0 : ∀ j (h : j < xs.length), j < i → xs[j] ≠ t) (he : xs[i] = t) : hasB xs t = true := by rw [hasB_iff, ← he]; exact List.getElem_mem hi
theorem idx_no (xs : List Int) (t : Int) (h0 : ∀ j (h : j < xs.length), j < xs.length → xs[j] ≠ t) : hasB xs t = false := by
  rw [Bool.eq_false_iff]; intro h
  rw [hasB_iff] at h
  obtain ⟨j, hj, e⟩ := List.getElem_of_mem h
  exact h0 j hj hj e
theorem slices_Index (a : Option Addr) (cap : Nat) (xs : List Int) (t : Int) (w : World) (h : Ints w a cap xs) : Calls Try.prog 81 #[.slice a xs.length cap, .int .i64 t] w fun e w' => ∃ n : Int, e = .returned (.int .i64 n) ∧ w = w' ∧ (decide (0 ≤ n) = hasB xs t) := by
  have hm := h.small
  have hm2 := h.le
  have HH := Go.Lib.hid h; clear h
  go_enter Try.func81, Try.ntmps81
  go_wp2
  go_loop [8] (fun iv => ∃ (i : Nat), i ≤ xs.length ∧ iv = .int .i64 i ∧ (∀ j (h : j < xs.length), j < i → xs[j] ≠ t)) (fun iv => xs.length - (intOf iv).toNat)
  case atStart => exact ⟨0, Nat.zero_le _, rfl, fun j h hj => absurd hj (Nat.not_lt_zero _)⟩
  case round =>
    obtain ⟨i, hi, rfl, hn⟩ := hrel
    have HN := Go.Lib.hid hn; clear hn
    by_cases hlt : i < xs.length
    · obtain ⟨b, o, rfl, hc, hx⟩ := HH.out.at_ i hlt
      generalize hxi : xs[i] = x at *
      have HX := Go.Lib.hid hxi; clear hxi
      by_cases hxt : x = t
      · have hb : (t == x) = true := by rw [hxt]; simp
        have HT := Go.Lib.hid hxt; clear hxt
        go_wp2
        go_ret
        refine ⟨_, rfl, rfl, ?_⟩
        rw [idx_of xs t i hlt HN.out (HX.out.trans HT.out)]
        simp
      · have hb : (t == x) = false := by rw [beq_eq_false_iff_ne]; exact fun e => hxt e.symm
        have HT := Go.Lib.hid hxt; clear hxt
        go_wp2
        go_round
        case rel =>
          refine ⟨i + 1, hlt, by go_num, fun j hj hji => ?_⟩
          rcases Nat.lt_or_eq_of_le (Nat.lt_succ_iff.1 hji) with h | rfl
          · exact HN.out j hj h
          · exact fun e => HT.out (HX.out.symm.trans e)
        case measure => simp [intOf]; omega
    · go_wp2
      go_ret
      refine ⟨_, rfl, rfl, ?_⟩
      rw [idx_no xs t (fun j hj _ => HN.out j hj (by omega))]
      rfl
theorem slices_Contains (a : Option Addr) (cap : Nat) (xs : List Int) (t : Int) (w : World) (h : Ints w a cap xs) : Calls Try.prog 48 #[.slice a xs.length cap, .int .i64 t] w fun e w' => e = .returned (.bool (hasB xs t)) ∧ w = w' := by
  have HH := Go.Lib.hid h; clear h
  go_enter Try.func48, Try.ntmps48
  go_wp2_with fail
  refine (slices_Index _ _ _ _ _ HH.out).mono ?_
  rintro e w1 ⟨n, rfl, rfl, hn⟩
  have HN := Go.Lib.hid hn; clear hn
  go_wp2
  go_ret
  exact ⟨ret_bool HN.out, rfl⟩
theorem council_Faults (n : Int) (h0 : 0 ≤ n) (h1 : n ≤ 4611686018427387903) (w : World) : Calls Try.prog 49 #[.int .i64 n] w fun e w' => e = .returned (.int .i64 (faultsI n)) ∧ w = w' := by
  by_cases hn : n < 1
  · have HF := Go.Lib.hid (show faultsI n = 0 by unfold faultsI; rw [if_pos hn])
    go_enter Try.func49, Try.ntmps49
    go_wp2
    go_ret
    exact ⟨ret_int HF.out.symm, rfl⟩
  · have HF := Go.Lib.hid (show faultsI n = (n - 1) / 3 by unfold faultsI; rw [if_neg hn])
    have hw : IntKind.i64.wrap (n - 1) = n - 1 := IntWalk.i64_in _ (by omega)
    have hge : 0 ≤ n - 1 := by omega
    go_enter Try.func49, Try.ntmps49
    go_wp2
    go_ret
    exact ⟨ret_int (by rw [HF.out]; try rw [Int.tdiv_eq_ediv_of_nonneg (by omega)]), rfl⟩
theorem faults_bd (n : Int) (h0 : 0 ≤ n) : 0 ≤ faultsI n ∧ faultsI n ≤ n := by unfold faultsI; split <;> omega
/-! ### The reference's members -/
theorem rising_snoc (l : List Int) : ∀ last, risingB last l = true ↔ ∀ j (h : j < l.length), (l[j] < 16 ∧ (if h0 : j = 0 then last < l[j] else l[j - 1]'(by omega) < l[j])) := by
  induction l with
  | nil => intro last; exact ⟨fun _ j h => absurd h (Nat.not_lt_zero _), fun _ => rfl⟩
  | cons x xs ih =>
    intro last
    simp only [risingB, Bool.and_eq_true, decide_eq_true_eq]
    rw [ih x]
    constructor
    · rintro ⟨⟨h1, h2⟩, h3⟩ j hj
      cases j with
      | zero => exact ⟨h2, by rw [dif_pos rfl]; exact h1⟩
      | succ j =>
        have hj' : j < xs.length := by simpa using hj
        obtain ⟨a, b⟩ := h3 j hj'
        refine ⟨a, ?_⟩
        rw [dif_neg (by omega)]
        by_cases h0 : j = 0
        · subst h0; rw [dif_pos rfl] at b; exact b
        · rw [dif_neg h0] at b
          have e : (x :: xs)[j + 1 - 1]'(by simp; omega) = xs[j - 1]'(by omega) := by
            obtain ⟨k, rfl⟩ : ∃ k, j = k + 1 := ⟨j - 1, by omega⟩
            rfl
          rw [e]; exact b
    · intro h
      obtain ⟨a0, b0⟩ := h 0 (by simp)
      rw [dif_pos rfl] at b0
      refine ⟨⟨b0, a0⟩, fun j hj => ?_⟩
      obtain ⟨a, b⟩ := h (j + 1) (by simp; omega)
      refine ⟨a, ?_⟩
      rw [dif_neg (by omega)] at b
      by_cases h0 : j = 0
      · subst h0; rw [dif_pos rfl]; exact b
      · rw [dif_neg h0]
        have e : (x :: xs)[j + 1 - 1]'(by simp; omega) = xs[j - 1]'(by omega) := by
          obtain ⟨k, rfl⟩ : ∃ k, j = k + 1 := ⟨j - 1, by omega⟩
          rfl
        rw [e] at b; exact b
/-- As the reference looks at one. -/
def okM (l : List Int) (j : Nat) (h : j < l.length) : Prop := 0 ≤ l[j] ∧ l[j] < 16 ∧ (∀ h0 : 0 < j, l[j - 1]'(by omega) < l[j])
theorem rising_okM (l : List Int) : risingB (-1) l = true ↔ ∀ j (h : j < l.length), okM l j h := by
  rw [rising_snoc]
  constructor
  · intro h j
    induction j with
    | zero =>
      intro hj
      obtain ⟨a, b⟩ := h 0 hj
      rw [dif_pos rfl] at b
      exact ⟨by omega, a, fun h0 => absurd h0 (Nat.lt_irrefl 0)⟩
    | succ j ih =>
      intro hj
      obtain ⟨a, b⟩ := h (j + 1) hj
      rw [dif_neg (by omega)] at b
      have := (ih (by omega)).1
      simp only [Nat.add_sub_cancel] at b
      exact ⟨by omega, a, fun _ => by simpa using b⟩
  · intro h j hj
    obtain ⟨a, b, c⟩ := h j hj
    refine ⟨b, ?_⟩
    by_cases h0 : j = 0
    · rw [dif_pos h0]; omega
    · rw [dif_neg h0]; exact c (by omega)
end Go.Proofs.Ytekbonciafbjiaa
