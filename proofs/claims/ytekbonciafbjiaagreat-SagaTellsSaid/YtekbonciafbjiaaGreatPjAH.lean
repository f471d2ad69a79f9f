/- Joined texts: SagaP3, SagaBeginsP. What each proves stands at its head; no conditions beside those in its theorems. -/
import Derived.Test.YtekbonciafbjiaaGreatPjAA
import Derived.Test.YtekbonciafbjiaaGreatPjAC
import Derived.Test.YtekbonciafbjiaaGreatPjAD
import Derived.Test.YtekbonciafbjiaaGreatPjAG
/- Layer 22 in plain words: where a request took effect. No program in sight. -/
namespace Go.Proofs.YtekbonciafbjiaaGreat
open F64
set_option linter.unusedVariables false
set_option linter.unusedSimpArgs false

def hitB (q : Req) (x : Sp) : Bool := x.took && sameT x.req q
def outI (q : Req) : List Sp → Option Nat
  | [] => none
  | x :: t => if hitB q x = true then some 0 else (outI q t).map (· + 1)
theorem outI_none {q : Req} : ∀ {l : List Sp}, outI q l = none → ∀ x ∈ l, hitB q x = false
  | [], _ => fun x hx => absurd hx List.not_mem_nil
  | y :: t, h => fun x hx => by
    unfold outI at h
    by_cases hy : hitB q y = true
    · rw [if_pos hy] at h; cases h
    · rw [if_neg hy] at h
      rcases List.mem_cons.1 hx with rfl | hx
      · simpa using hy
      · exact outI_none (by simpa using h) x hx
theorem outI_some {q : Req} : ∀ {l : List Sp} {j : Nat}, outI q l = some j → ∃ hj : j < l.length, hitB q l[j] = true ∧ ∀ i (hi : i < j), hitB q (l[i]'(by omega)) = false
  | [], _, h => by cases h
  | y :: t, j, h => by
    unfold outI at h
    by_cases hy : hitB q y = true
    · rw [if_pos hy] at h
      injection h with h
      subst h
      exact ⟨by simp, hy, fun i hi => absurd hi (by omega)⟩
    · rw [if_neg hy] at h
      cases ho : outI q t with
      | none => rw [ho] at h; cases h
      | some k =>
        rw [ho] at h
        injection h with h
        have h : k + 1 = j := h
        subst h
        obtain ⟨h1, h2, h3⟩ := outI_some ho
        refine ⟨by simp; omega, h2, fun i hi => ?_⟩
        cases i with
        | zero => simpa using hy
        | succ i => exact h3 i (by omega)
theorem outI_drop (q : Req) (l : List Sp) (i : Nat) (h : i < l.length) : outI q (l.drop i) = if hitB q l[i] = true then some 0 else (outI q (l.drop (i + 1))).map (· + 1) := by
  rw [List.drop_eq_getElem_cons h]; rfl
theorem ful_cl (g : Lg) : (fulL g).cl = g.cl := by
  unfold fulL turnL
  split
  · split <;> rfl
  · rfl
theorem ful_last (g : Lg) (c : Int) : lastS (fulL g) c = lastS g c := by unfold lastS; rw [ful_cl]
section
variable {xs : List Int} {l : List Req}
/-- The ledger behind i requests. -/
def gAt (xs : List Int) (l : List Req) (i : Nat) : Lg := runL (newL xs) (l.take i)
theorem gAt_succ (xs : List Int) (l : List Req) {i : Nat} (h : i < l.length) : gAt xs l (i + 1) = stepL (gAt xs l i) l[i] := by
  unfold gAt
  rw [List.take_succ_eq_append_getElem h, runL_snoc]
theorem gAt_inv (hm : membersB xs = true) (hq : ∀ q ∈ l, AskOk q) (i : Nat) : Inv (gAt xs l i) := inv_run _ (inv_new hm) (fun q hq' => (hq q (List.mem_of_mem_take hq')).2)
theorem last_nonneg (hm : membersB xs = true) (hq : ∀ q ∈ l, AskOk q) (i : Nat) (c : Int) : 0 ≤ lastS (gAt xs l i) c := by
  unfold lastS
  split
  · exact ((gAt_inv hm hq i).cb _).1
  · omega
theorem step_at (i : Nat) (h : i < l.length) : (stepsL (newL xs) l)[i]'(by rw [stepsL_len]; exact h) = spOf (gAt xs l i) l[i] := stepsL_get l (newL xs) i h
theorem hit_iff (q : Req) (i : Nat) (h : i < l.length) : hitB q ((stepsL (newL xs) l)[i]'(by rw [stepsL_len]; exact h)) = (decide (lastS (gAt xs l i) l[i].client < l[i].stamp) && sameT l[i] q) := by
  rw [step_at i h]
  unfold hitB spOf
  rw [ful_last]
theorem whole_right {a b : Req} (h : wholeB a b = true) : a.client = b.client ∧ a.stamp = b.stamp ∧ rightB a = rightB b := by
  obtain ⟨h1, h2, h3, h4, h5, h6⟩ := whole_parts h
  have hk : a.op.key.size = b.op.key.size := by rw [← size_data, ← size_data]; exact congrArg List.length h4
  exact ⟨h1, h2, by unfold rightB opB keyB noneB; rw [h1, h2, h3, h5, h6, hk]⟩
end
end Go.Proofs.YtekbonciafbjiaaGreat

/- Layer 22 in plain words: what the beginning of a log tells. No program in sight. -/
namespace Go.Proofs.YtekbonciafbjiaaGreat
open F64
set_option linter.unusedVariables false
set_option linter.unusedSimpArgs false
/-- Is there a configuration of that epoch? -/
def cfB (len : Nat) (n : Int) : Bool := decide (0 ≤ n) && decide (n ≤ 60) && decide (4 * n ≤ (len : Int))
/-- As many bad members as there may be. -/
def badN (bad mem : List Int) : Nat := (mem.filter (hasB bad)).length
def fewS (bad mem : List Int) : Bool := decide ((badN bad mem : Int) ≤ faultsI (mem.length : Int))
def soundTo (xs : List Int) (l : List Req) (bad : List Int) (e : Nat) : Bool := (List.range e).all (fun i => fewS bad (memN xs l i))
/-- How many epochs there are. -/
def epN (len : Nat) : Nat := min 60 (len / 4) + 1
def soundB (xs : List Int) (l : List Req) (bad : List Int) : Bool := soundTo xs l bad (epN l.length)
theorem soundTo_succ (xs : List Int) (l : List Req) (bad : List Int) (e : Nat) : soundTo xs l bad (e + 1) = (soundTo xs l bad e && fewS bad (memN xs l e)) := by
  unfold soundTo
  rw [List.range_succ, List.all_append]
  simp
theorem soundTo_no {xs : List Int} {l : List Req} {bad : List Int} {e : Nat} {n : Nat} (h : e < n) (hf : fewS bad (memN xs l e) = false) : soundTo xs l bad n = false := by
  unfold soundTo
  rw [List.all_eq_false]
  exact ⟨e, List.mem_range.2 h, by rw [hf]; simp⟩
theorem badN_take (bad mem : List Int) (i : Nat) (h : i < mem.length) : badN bad (mem.take (i + 1)) = badN bad (mem.take i) + (if hasB bad mem[i] = true then 1 else 0) := by
  unfold badN
  rw [List.take_succ_eq_append_getElem h, List.filter_append, List.length_append]
  congr 1
  by_cases hb : hasB bad mem[i] = true
  · rw [List.filter_cons_of_pos hb, if_pos hb]; rfl
  · rw [List.filter_cons_of_neg hb, if_neg hb]; rfl
end Go.Proofs.YtekbonciafbjiaaGreat
