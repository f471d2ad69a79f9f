/- Layer 22 in plain words: configurations that follow; stamps that took effect. No program in sight. -/
import Derived.Test.YtekbonciafbjiaaSagaP

namespace Go.Proofs.Ytekbonciafbjiaa
open F64
set_option linter.unusedVariables false
set_option linter.unusedSimpArgs false

theorem join_len {l : List Int} {id : Int} (h : joinE l id = 0) : (joinL l id).length = l.length + 1 := by
  have hJ : joinL l id = l.filter (fun x => decide (x < id)) ++ id :: l.filter (fun x => decide (id ≤ x)) := by unfold joinL; rw [if_pos h]
  rw [hJ, List.length_append, List.length_cons]
  have key : ∀ l : List Int, (l.filter (fun x => decide (x < id))).length + (l.filter (fun x => decide (id ≤ x))).length = l.length := by
    intro l
    induction l with
    | nil => rfl
    | cons a t ih =>
      by_cases ha : a < id
      · rw [List.filter_cons_of_pos (by simpa using ha), List.filter_cons_of_neg (by simp; omega)]; simp; omega
      · rw [List.filter_cons_of_neg (by simp; omega), List.filter_cons_of_pos (by simp; omega)]; simp; omega
  have := key l
  omega
theorem leave_len {l : List Int} {id : Int} (h : leaveE l id = 0) : (leaveL l id).length + 1 = l.length := by
  have he := h
  unfold leaveE at he
  by_cases hf : (membersB l && decide (0 ≤ id) && decide (id < 16)) = true
  · rw [if_pos hf] at he
    have hm : membersB l = true := by simp only [Bool.and_eq_true] at hf; exact hf.1.1
    obtain ⟨m1, m2, m3, m4⟩ := members_facts hm
    cases hh : hasB l id
    · rw [hh] at he; simp at he
    · obtain ⟨k1, k2⟩ := leave_facts l id m2 hh
      have hJ : leaveL l id = l.filter (fun x => x != id) := by unfold leaveL; rw [if_pos h]
      rw [hJ, k2]
      simp
      omega
  · rw [if_neg hf] at he; cases he
def near (a b : Nat) (k : Nat) : Prop := a ≤ b + k ∧ b ≤ a + k
theorem apply_next (g : Lg) (o : Opn) : near (applyL g o).next.length g.next.length 1 := by
  have mv : ∀ (n : List Int) (e : Int), (e = 0 → near n.length g.next.length 1) → near (moveL g n e).next.length g.next.length 1 := by
    intro n e h
    unfold moveL
    split
    · rename_i he; exact h he
    · exact ⟨by omega, by omega⟩
  unfold applyL
  split
  · exact mv _ _ (fun e => by have := join_len e; unfold near; omega)
  · split
    · exact mv _ _ (fun e => by have := leave_len e; unfold near; omega)
    · (repeat' split) <;> exact ⟨Nat.le_succ _, Nat.le_succ _⟩
theorem do_next (g : Lg) (q : Req) : near (doL g q).next.length g.next.length 1 := by
  unfold doL
  split
  · exact ⟨Nat.le_succ _, Nat.le_succ _⟩
  · split
    · exact ⟨Nat.le_succ _, Nat.le_succ _⟩
    · split
      · exact ⟨Nat.le_succ _, Nat.le_succ _⟩
      · split
        · exact apply_next (tick g) q.op
        · exact ⟨Nat.le_succ _, Nat.le_succ _⟩
theorem ful_next (g : Lg) : (fulL g).next = g.next := by
  unfold fulL turnL
  split
  · split <;> rfl
  · rfl
theorem step_next (g : Lg) (q : Req) : near (stepL g q).next.length g.next.length 1 := by
  have := do_next (fulL g) q
  rw [ful_next] at this
  exact this
theorem run_next (xs : List Int) (l : List Req) : ∀ k n, n + k ≤ l.length → near (runL (newL xs) (l.take (n + k))).next.length (runL (newL xs) (l.take n)).next.length k
  | 0, n, _ => ⟨Nat.le_refl _, Nat.le_refl _⟩
  | k + 1, n, h => by
    have ih := run_next xs l k n (by omega)
    have hs : runL (newL xs) (l.take (n + (k + 1))) = stepL (runL (newL xs) (l.take (n + k))) (l[n + k]'(by omega)) := by
      rw [← Nat.add_assoc, List.take_succ_eq_append_getElem (show n + k < l.length by omega), runL_snoc]
    rw [hs]
    have h1 := step_next (runL (newL xs) (l.take (n + k))) (l[n + k]'(by omega))
    unfold near at *
    omega
/-- The members behind epoch n. -/
def memN (xs : List Int) (l : List Req) (n : Nat) : List Int := (runL (newL xs) (l.take (4 * n))).next
theorem mem_zero (xs : List Int) (l : List Req) : memN xs l 0 = xs := rfl
theorem mem_near (xs : List Int) (l : List Req) {n : Nat} (h : 4 * (n + 1) ≤ l.length) : near (memN xs l (n + 1)).length (memN xs l n).length 4 := by
  have := run_next xs l 4 (4 * n) (by omega)
  unfold memN
  rw [show 4 * (n + 1) = 4 * n + 4 by omega]
  exact this
/-- The ledger behind an epoch's last slot, turned. -/
theorem conf_at (xs : List Int) (l : List Req) (hm : membersB xs = true) (hl : l.length ≤ 244) (hq : ∀ q ∈ l, AskOk q) {n : Nat} (hn : 0 < n) (h60 : n ≤ 60) (h : 4 * n ≤ l.length) :
    turnE (runL (newL xs) (l.take (4 * n))) = 0 ∧ (turnL (runL (newL xs) (l.take (4 * n)))).epoch = n ∧ (turnL (runL (newL xs) (l.take (4 * n)))).mem = memN xs l n ∧ confB n (memN xs l n) = true := by
  have hd := run_dn xs l hl hq (4 * n) h
  have hi : Inv (runL (newL xs) (l.take (4 * n))) := inv_run _ (inv_new hm) (fun q hq' => (hq q (List.mem_of_mem_take hq')).2)
  have hf : fullB (runL (newL xs) (l.take (4 * n))) = true := by rw [full_of hd]; exact decide_eq_true (by omega)
  have he : (runL (newL xs) (l.take (4 * n))).epoch = (n : Int) - 1 := by
    rcases hd.ep with ⟨h0, _⟩ | ⟨_, e⟩
    · omega
    · rw [e]; omega
  have ht := turn_of hd hf (by omega)
  refine ⟨ht, ?_, ?_, ?_⟩
  · unfold turnL; rw [if_pos ht]; show _ + 1 = _; rw [he]; omega
  · unfold turnL; rw [if_pos ht]; rfl
  · unfold confB
    rw [decide_eq_true (show (0 : Int) ≤ (n : Int) by omega), decide_eq_true (show (n : Int) ≤ 60 by omega)]
    exact hi.mn
end Go.Proofs.Ytekbonciafbjiaa
