/- Layer 16 in plain words: one change more. -/
import Derived.Test.YtakbkpklfihfiaaPickW
namespace Go.Proofs.Ytakbkpklfihfiaa
set_option linter.unusedVariables false
set_option linter.unusedSimpArgs false
theorem fold_other (slot : Int) : ∀ (Q : List Ct) (o : Option Ct), (∀ x ∈ Q, x.slot ≠ slot) → Q.foldl (stepB slot) o = o
  | [], _, _ => rfl
  | x :: t, o, h => by
    have e : stepB slot o x = o := by unfold stepB; rw [if_neg (h x (List.mem_cons_self))]
    rw [List.foldl_cons, e]
    exact fold_other slot t o (fun y hy => h y (List.mem_cons_of_mem _ hy))
theorem fold_isSome (slot : Int) : ∀ (Q : List Ct) (o : Option Ct), o.isSome = true → (Q.foldl (stepB slot) o).isSome = true
  | [], _, h => h
  | x :: t, o, h => by
    rw [List.foldl_cons]
    refine fold_isSome slot t _ ?_
    unfold stepB
    cases o with
    | none => cases h
    | some y => by_cases e : x.slot = slot <;> by_cases g : y.view < x.view <;> simp [e, g]
theorem bestC_append (slot : Int) (P Q : List Ct) : bestC slot (P ++ Q) = Q.foldl (stepB slot) (bestC slot P) := by unfold bestC; rw [List.foldl_append]
theorem lastC_mono (ep : Int) (P Q : List Ct) : lastC ep P ≤ lastC ep (P ++ Q) := by
  have m : ∀ n, (bestC (slotN ep n) P).isSome = true → (bestC (slotN ep n) (P ++ Q)).isSome = true := fun n h => by rw [bestC_append]; exact fold_isSome _ _ _ h
  have m0 := m 0; have m1 := m 1; have m2 := m 2; have m3 := m 3
  unfold lastC
  generalize (bestC (slotN ep 0) P).isSome = b0 at *
  generalize (bestC (slotN ep 1) P).isSome = b1 at *
  generalize (bestC (slotN ep 2) P).isSome = b2 at *
  generalize (bestC (slotN ep 3) P).isSome = b3 at *
  generalize (bestC (slotN ep 0) (P ++ Q)).isSome = c0 at *
  generalize (bestC (slotN ep 1) (P ++ Q)).isSome = c1 at *
  generalize (bestC (slotN ep 2) (P ++ Q)).isSome = c2 at *
  generalize (bestC (slotN ep 3) (P ++ Q)).isSome = c3 at *
  clear m
  cases b0 <;> cases b1 <;> cases b2 <;> cases b3 <;> cases c0 <;> cases c1 <;> cases c2 <;> cases c3 <;> simp_all
theorem lastC_none (ep : Int) (P : List Ct) (i : Nat) (h : lastC ep P ≤ i) (h4 : i < 4) : bestC (slotN ep i) P = none := by
  have e : (bestC (slotN ep i) P).isSome = false := by
    unfold lastC at h
    have h4' : i = 0 ∨ i = 1 ∨ i = 2 ∨ i = 3 := by omega
    generalize hb0 : (bestC (slotN ep 0) P).isSome = b0 at *
    generalize hb1 : (bestC (slotN ep 1) P).isSome = b1 at *
    generalize hb2 : (bestC (slotN ep 2) P).isSome = b2 at *
    generalize hb3 : (bestC (slotN ep 3) P).isSome = b3 at *
    rcases h4' with rfl | rfl | rfl | rfl <;> cases b0 <;> cases b1 <;> cases b2 <;> cases b3 <;> simp_all
  cases h : bestC (slotN ep i) P with
  | none => rfl
  | some x => rw [h] at e; cases e
end Go.Proofs.Ytakbkpklfihfiaa
