/- Layers 7 and 9 (council, terms), in plain words. No program in sight. -/
import Derived.Test.YtekbonciafbjiaaData
namespace Go.Proofs.Ytekbonciafbjiaa
set_option linter.unusedVariables false
set_option linter.unusedSimpArgs false

structure Sg where
  by_ : Int
  text : ByteArray
instance : Inhabited Sg := ⟨⟨0, ByteArray.empty⟩⟩
def sgAt (l : List Sg) (j : Nat) : Sg := l.getD j ⟨0, ByteArray.empty⟩
theorem sgAt_get {l : List Sg} {j : Nat} (h : j < l.length) : sgAt l j = l[j] := by unfold sgAt; rw [List.getD_eq_getElem?_getD, List.getElem?_eq_getElem h]; rfl
theorem quorum_ref (n : Int) (h : 1 ≤ n) : n / 2 + (n % 2 + faultsI n % 2) / 2 + faultsI n / 2 + 1 = quorumI n := by
  unfold quorumI faultsI
  rw [if_neg (by omega), if_neg (by omega)]
  omega
/-- The signatures from behind last on: of this text, of members, rising. -/
def chainB (xs : List Int) (text : ByteArray) : Int → List Sg → Bool
  | _, [] => true
  | last, s :: t => decide (s.text = text) && decide (last < s.by_) && hasB xs s.by_ && chainB xs text s.by_ t
def provesB (ep : Int) (xs : List Int) (text : ByteArray) (l : List Sg) : Bool := confB ep xs && decide (l.length ≤ 16) && decide (quorumI xs.length ≤ l.length) && chainB xs text (-1) l
theorem chain_drop (xs : List Int) (text : ByteArray) (l : List Sg) (last : Int) (i : Nat) (h : i < l.length) :
    chainB xs text last (l.drop i) = (decide ((sgAt l i).text = text) && decide (last < (sgAt l i).by_) && hasB xs (sgAt l i).by_ && chainB xs text (sgAt l i).by_ (l.drop (i + 1))) := by
  rw [List.drop_eq_getElem_cons h, sgAt_get h]; rfl
/-- One signature, as the reference looks at it. -/
def okAt (xs : List Int) (text : ByteArray) (l : List Sg) (j : Nat) : Prop := (sgAt l j).text = text ∧ hasB xs (sgAt l j).by_ = true ∧ (0 < j → (sgAt l (j - 1)).by_ < (sgAt l j).by_)
theorem chain_of_ok (xs : List Int) (text : ByteArray) (l : List Sg) (hm : membersB xs = true) (h : ∀ j, j < l.length → okAt xs text l j) : chainB xs text (-1) l = true := by
  have key : ∀ n i last, l.length - i = n → i ≤ l.length → (i < l.length → last < (sgAt l i).by_) → chainB xs text last (l.drop i) = true := by
    intro n
    induction n with
    | zero =>
      intro i last hn hi hl
      rw [List.drop_eq_nil_of_le (by omega)]; rfl
    | succ n ih =>
      intro i last hn hi hl
      have hlt : i < l.length := by omega
      obtain ⟨o1, o2, o3⟩ := h i hlt
      rw [chain_drop xs text l last i hlt, decide_eq_true o1, decide_eq_true (hl hlt), o2]
      simp only [Bool.true_and]
      refine ih (i + 1) _ (by omega) (by omega) (fun h1 => ?_)
      have := (h (i + 1) h1).2.2 (by omega)
      simpa using this
  have := key l.length 0 (-1) rfl (Nat.zero_le _) (fun h0 => by
    have := (h 0 h0).2.1
    rw [hasB_iff] at this
    have := ((members_facts hm).1 _ this).1
    omega)
  simpa using this
theorem ok_of_chain (xs : List Int) (text : ByteArray) (l : List Sg) (h : chainB xs text (-1) l = true) : ∀ j, j < l.length → okAt xs text l j := by
  have key : ∀ j, j ≤ l.length → (∃ last, (0 < j → last = (sgAt l (j - 1)).by_) ∧ chainB xs text last (l.drop j) = true) ∧ ∀ i, i < j → okAt xs text l i := by
    intro j
    induction j with
    | zero => intro _; exact ⟨⟨-1, fun h => absurd h (by decide), by simpa using h⟩, fun i hi => absurd hi (Nat.not_lt_zero _)⟩
    | succ j ih =>
      intro hj
      obtain ⟨⟨last, h1, h2⟩, h3⟩ := ih (by omega)
      rw [chain_drop xs text l last j (by omega)] at h2
      simp only [Bool.and_eq_true, decide_eq_true_eq] at h2
      obtain ⟨⟨⟨c1, c2⟩, c3⟩, c4⟩ := h2
      refine ⟨⟨_, fun _ => by simp, c4⟩, fun i hi => ?_⟩
      rcases Nat.lt_or_eq_of_le (Nat.lt_succ_iff.1 hi) with hi | rfl
      · exact h3 i hi
      · exact ⟨c1, c3, fun h0 => by rw [← h1 h0]; exact c2⟩
  exact fun j hj => (key l.length (Nat.le_refl _)).2 j hj
/-- The reference's word. -/
theorem proves_ref (ep : Int) (xs : List Int) (text : ByteArray) (l : List Sg) :
    ((∀ j, j < l.length → okAt xs text l j) → provesB ep xs text l = (confB ep xs && decide (quorumI xs.length ≤ l.length) && decide (l.length ≤ 16))) ∧
    ((∃ j, j < l.length ∧ ¬ okAt xs text l j) → provesB ep xs text l = false) := by
  constructor
  · intro h
    unfold provesB
    cases hc : confB ep xs
    · rfl
    · have hm : membersB xs = true := by unfold confB at hc; simp only [Bool.and_eq_true] at hc; exact hc.2
      rw [chain_of_ok xs text l hm h]
      simp [Bool.and_comm]
  · rintro ⟨j, hj, hn⟩
    unfold provesB
    cases hc : chainB xs text (-1) l
    · simp
    · exact absurd (ok_of_chain xs text l hc j hj) hn
end Go.Proofs.Ytekbonciafbjiaa
