/- Layer 22 in plain words: where a request took effect. No program in sight. -/
import Derived.Test.YtekbonciafbjiaaSagaP2
import Derived.Test.YtekbonciafbjiaaReqP
namespace Go.Proofs.Ytekbonciafbjiaa
open F64
set_option linter.unusedVariables false
set_option linter.unusedSimpArgs false

def hitB (q : Req) (x : Sp) : Bool := x.took && sameT x.req q
def outI (q : Req) : List Sp → Option Nat
  | [] => none
  | x :: t => if hitB q x = true then some 0 else (outI q t).map (· + 1)
theorem outI_none {q : Req} : ∀ {l : List Sp}, outI q l = none → ∀ x ∈ l, hitB q x = false
  | [], _ => fun x hx => absurd hx List.not_mem_nil
  | y :: t, h => fun x hx => by
    unfold outI at h
    by_cases hy : hitB q y = true
    · rw [if_pos hy] at h; cases h
    · rw [if_neg hy] at h
      rcases List.mem_cons.1 hx with rfl | hx
      · simpa using hy
      · exact outI_none (by simpa using h) x hx
theorem outI_some {q : Req} : ∀ {l : List Sp} {j : Nat}, outI q l = some j → ∃ hj : j < l.length, hitB q l[j] = true ∧ ∀ i (hi : i < j), hitB q (l[i]'(by omega)) = false
  | [], _, h => by cases h
  | y :: t, j, h => by
    unfold outI at h
    by_cases hy : hitB q y = true
    · rw [if_pos hy] at h
      injection h with h
      subst h
      exact ⟨by simp, hy, fun i hi => absurd hi (by omega)⟩
    · rw [if_neg hy] at h
      cases ho : outI q t with
      | none => rw [ho] at h; cases h
      | some k =>
        rw [ho] at h
        injection h with h
        have h : k + 1 = j := h
        subst h
        obtain ⟨h1, h2, h3⟩ := outI_some ho
        refine ⟨by simp; omega, h2, fun i hi => ?_⟩
        cases i with
        | zero => simpa using hy
        | succ i => exact h3 i (by omega)
theorem outI_drop (q : Req) (l : List Sp) (i : Nat) (h : i < l.length) : outI q (l.drop i) = if hitB q l[i] = true then some 0 else (outI q (l.drop (i + 1))).map (· + 1) := by
  rw [List.drop_eq_getElem_cons h]; rfl
theorem outI_at {q : Req} {l : List Sp} {j : Nat} (hj : j < l.length) (h : hitB q l[j] = true) (hn : ∀ i (hi : i < j), hitB q (l[i]'(by omega)) = false) : outI q l = some j := by
  cases ho : outI q l with
  | none => have := outI_none ho _ (List.getElem_mem hj); rw [h] at this; cases this
  | some k =>
    obtain ⟨h1, h2, h3⟩ := outI_some ho
    rcases Nat.lt_trichotomy k j with e | e | e
    · have := hn k e; rw [h2] at this; cases this
    · rw [e]
    · have := h3 j e; rw [h] at this; cases this
theorem ful_cl (g : Lg) : (fulL g).cl = g.cl := by
  unfold fulL turnL
  split
  · split <;> rfl
  · rfl
theorem ful_last (g : Lg) (c : Int) : lastS (fulL g) c = lastS g c := by unfold lastS; rw [ful_cl]
theorem apply_cl (g : Lg) (o : Opn) : (applyL g o).cl = g.cl := by
  unfold applyL moveL
  (repeat' split) <;> rfl
/-- The stamps behind a step. -/
theorem do_stamp (g : Lg) (q : Req) (h : doE g q = 0) (j : Nat) : ((doL g q).cl j).stamp = if nullB q = false ∧ j = idxR q ∧ (g.cl j).stamp < q.stamp then q.stamp else (g.cl j).stamp := by
  unfold doL
  rw [if_neg (by simp [h])]
  cases hn : nullB q
  · rw [if_neg (by simp)]
    by_cases h1 : q.stamp < (g.cl (idxR q)).stamp
    · rw [if_pos h1]
      rw [if_neg (by rintro ⟨_, rfl, h2⟩; omega)]
      rfl
    · rw [if_neg h1]
      by_cases h2 : (g.cl (idxR q)).stamp < q.stamp
      · rw [if_pos h2]
        show (if j = idxR q then _ else (applyL (tick g) q.op).cl j : Cl).stamp = _
        rw [apply_cl]
        by_cases hj : j = idxR q
        · subst hj
          rw [if_pos rfl, if_pos ⟨rfl, rfl, h2⟩]
        · rw [if_neg hj, if_neg (fun e => hj e.2.1)]; rfl
      · rw [if_neg h2]
        rw [if_neg (by rintro ⟨_, rfl, h3⟩; omega)]
        rfl
  · rw [if_pos rfl, if_neg (by simp)]; rfl
theorem right_not_null {q : Req} (h : rightB q = true) : nullB q = false := by
  cases hn : nullB q
  · rfl
  · rw [null_not_right hn] at h; cases h
section
variable {xs : List Int} {l : List Req}
/-- The ledger behind i requests. -/
def gAt (xs : List Int) (l : List Req) (i : Nat) : Lg := runL (newL xs) (l.take i)
theorem gAt_succ (xs : List Int) (l : List Req) {i : Nat} (h : i < l.length) : gAt xs l (i + 1) = stepL (gAt xs l i) l[i] := by
  unfold gAt
  rw [List.take_succ_eq_append_getElem h, runL_snoc]
theorem gAt_inv (hm : membersB xs = true) (hq : ∀ q ∈ l, AskOk q) (i : Nat) : Inv (gAt xs l i) := inv_run _ (inv_new hm) (fun q hq' => (hq q (List.mem_of_mem_take hq')).2)
theorem last_nonneg (hm : membersB xs = true) (hq : ∀ q ∈ l, AskOk q) (i : Nat) (c : Int) : 0 ≤ lastS (gAt xs l i) c := by
  unfold lastS
  split
  · exact ((gAt_inv hm hq i).cb _).1
  · omega
theorem last_step (hl : l.length ≤ 244) (hq : ∀ q ∈ l, AskOk q) {i : Nat} (h : i < l.length) (c : Int) : lastS (gAt xs l (i + 1)) c = if rightB l[i] = true ∧ c = l[i].client ∧ lastS (gAt xs l i) c < l[i].stamp then l[i].stamp else lastS (gAt xs l i) c := by
  have hd := run_dn xs l hl hq i (by omega)
  have ha := hq _ (List.getElem_mem h)
  rw [gAt_succ xs l h]
  have hz := do_zero (q := l[i]) hd (by omega) ha
  have key := do_stamp (fulL (gAt xs l i)) l[i] hz (c - 1).toNat
  unfold lastS
  by_cases hc : 1 ≤ c ∧ c ≤ 8
  · rw [if_pos hc, if_pos hc]
    unfold stepL
    rw [key, ful_cl]
    rcases ha.1 with hr | hn
    · obtain ⟨r1, r2, _⟩ := rightB_facts hr
      have hn := right_not_null hr
      have hidx : ((c - 1).toNat = idxR l[i]) ↔ c = l[i].client := by unfold idxR; omega
      by_cases e : c = l[i].client
      · by_cases e2 : ((gAt xs l i).cl (c - 1).toNat).stamp < l[i].stamp
        · rw [if_pos ⟨hn, hidx.2 e, e2⟩, if_pos ⟨hr, e, e2⟩]
        · rw [if_neg (fun t => e2 t.2.2), if_neg (fun t => e2 t.2.2)]
      · rw [if_neg (fun t => e (hidx.1 t.2.1)), if_neg (fun t => e t.2.1)]
    · rw [if_neg (by rw [hn]; simp), if_neg (by rw [null_not_right hn]; simp)]
  · rw [if_neg hc, if_neg hc]
    rw [if_neg]
    rintro ⟨hr, rfl, _⟩
    have := rightB_facts hr
    exact hc ⟨this.1, this.2.1⟩
theorem last_mono (hl : l.length ≤ 244) (hq : ∀ q ∈ l, AskOk q) (c : Int) : ∀ k i, i + k ≤ l.length → lastS (gAt xs l i) c ≤ lastS (gAt xs l (i + k)) c
  | 0, i, _ => Int.le_refl _
  | k + 1, i, h => by
    have ih := last_mono hl hq c k i (by omega)
    have e := last_step (xs := xs) hl hq (show i + k < l.length by omega) c
    rw [← Nat.add_assoc, e]
    split
    · rename_i t; omega
    · exact ih
theorem step_at (i : Nat) (h : i < l.length) : (stepsL (newL xs) l)[i]'(by rw [stepsL_len]; exact h) = spOf (gAt xs l i) l[i] := stepsL_get l (newL xs) i h
theorem hit_iff (q : Req) (i : Nat) (h : i < l.length) : hitB q ((stepsL (newL xs) l)[i]'(by rw [stepsL_len]; exact h)) = (decide (lastS (gAt xs l i) l[i].client < l[i].stamp) && sameT l[i] q) := by
  rw [step_at i h]
  unfold hitB spOf
  rw [ful_last]
theorem whole_right {a b : Req} (h : wholeB a b = true) : a.client = b.client ∧ a.stamp = b.stamp ∧ rightB a = rightB b := by
  obtain ⟨h1, h2, h3, h4, h5, h6⟩ := whole_parts h
  have hk : a.op.key.size = b.op.key.size := by rw [← size_data, ← size_data]; exact congrArg List.length h4
  exact ⟨h1, h2, by unfold rightB opB keyB noneB; rw [h1, h2, h3, h5, h6, hk]⟩
/-- Where a request of the log took effect. -/
theorem once_law (hm : membersB xs = true) (hl : l.length ≤ 244) (hq : ∀ q ∈ l, AskOk q) {i : Nat} (h : i < l.length) :
    (rightB l[i] = false → outI l[i] (stepsL (newL xs) l) = none) ∧
    (rightB l[i] = true → lastS (gAt xs l i) l[i].client < l[i].stamp → outI l[i] (stepsL (newL xs) l) = some i) ∧
    (rightB l[i] = true → ¬ lastS (gAt xs l i) l[i].client < l[i].stamp → outI l[i] (stepsL (newL xs) l) = none ∨ ∃ j, ∃ hj : j < i, outI l[i] (stepsL (newL xs) l) = some j ∧ sameT (l[j]'(by omega)) l[i] = true) := by
  have hx : ∀ j (hj : j < l.length), l[j].op.real < 18446744073709551616 := fun j hj => (hq _ (List.getElem_mem hj)).2
  have hlen := stepsL_len l (newL xs)
  refine ⟨fun hr => ?_, fun hr ht => ?_, fun hr ht => ?_⟩
  · cases ho : outI l[i] (stepsL (newL xs) l) with
    | none => rfl
    | some j =>
      exfalso
      obtain ⟨h1, h2, _⟩ := outI_some ho
      have hj : j < l.length := by omega
      rw [hit_iff _ j hj, Bool.and_eq_true, decide_eq_true_eq] at h2
      obtain ⟨w1, w2, w3⟩ := whole_right (sameT_whole (hx j hj) (hx i h) h2.2)
      have hn : nullB l[i] = true := by
        rcases (hq _ (List.getElem_mem h)).1 with e | e
        · rw [e] at hr; cases hr
        · exact e
      have hs : l[i].stamp = 0 := by
        unfold nullB at hn
        simp only [Bool.and_eq_true, decide_eq_true_eq] at hn
        omega
      have := last_nonneg hm hq j l[j].client
      omega
  · refine outI_at (by rw [hlen]; exact h) ?_ (fun j hj => ?_)
    · rw [hit_iff _ i h, decide_eq_true ht, sameT_self (by unfold askedB; rw [hr]; rfl)]; rfl
    · have hjl : j < l.length := by omega
      cases hh : hitB l[i] ((stepsL (newL xs) l)[j]'(by omega)) with
      | false => rfl
      | true =>
        exfalso
        rw [hit_iff _ j hjl, Bool.and_eq_true, decide_eq_true_eq] at hh
        obtain ⟨w1, w2, w3⟩ := whole_right (sameT_whole (hx j hjl) (hx i h) hh.2)
        have e := last_step (xs := xs) hl hq hjl l[j].client
        rw [if_pos ⟨by rw [w3]; exact hr, rfl, hh.1⟩] at e
        have m := last_mono (xs := xs) hl hq l[j].client (i - (j + 1)) (j + 1) (by omega)
        rw [show j + 1 + (i - (j + 1)) = i by omega, e, w1, w2] at m
        omega
  · cases ho : outI l[i] (stepsL (newL xs) l) with
    | none => exact .inl rfl
    | some j =>
      right
      obtain ⟨h1, h2, _⟩ := outI_some ho
      have hjl : j < l.length := by omega
      rw [hit_iff _ j hjl, Bool.and_eq_true, decide_eq_true_eq] at h2
      obtain ⟨w1, w2, w3⟩ := whole_right (sameT_whole (hx j hjl) (hx i h) h2.2)
      have hji : j < i := by
        rcases Nat.lt_trichotomy j i with e | e | e
        · exact e
        · subst e; exact absurd h2.1 ht
        · exfalso
          have m := last_mono (xs := xs) hl hq l[j].client (j - i) i (by omega)
          rw [show i + (j - i) = j by omega] at m
          rw [w1] at m h2
          rw [w2] at h2
          omega
      exact ⟨j, hji, rfl, h2.2⟩
end
end Go.Proofs.Ytekbonciafbjiaa
