/- Layer 22 (saga) in plain words: the ledgers behind a log, what each slot came to. No program in sight. -/
import Derived.Test.YtekbonciafbjiaaLedgP
namespace Go.Proofs.Ytekbonciafbjiaa
open F64
set_option linter.unusedVariables false
set_option linter.unusedSimpArgs false

/-- A ledger that may go on: turned, if its epoch is full. -/
def fulL (g : Lg) : Lg := if fullB g = true then turnL g else g
def stepL (g : Lg) (q : Req) : Lg := doL (fulL g) q
def lastS (g : Lg) (c : Int) : Int := if 1 ≤ c ∧ c ≤ 8 then (g.cl (c - 1).toNat).stamp else 0
/-- What a slot came to. -/
structure Sp where
  req : Req
  code : Int
  real : Nat
  took : Bool
def spOf (g : Lg) (q : Req) : Sp := ⟨q, (doR (fulL g) q).code, (doR (fulL g) q).real, decide (lastS (fulL g) q.client < q.stamp)⟩
def runL (g : Lg) (l : List Req) : Lg := l.foldl stepL g
def stepsL : Lg → List Req → List Sp
  | _, [] => []
  | g, q :: t => spOf g q :: stepsL (stepL g q) t
theorem runL_snoc (g : Lg) (l : List Req) (q : Req) : runL g (l ++ [q]) = stepL (runL g l) q := by unfold runL; rw [List.foldl_append]; rfl
theorem stepsL_len : ∀ (l : List Req) (g : Lg), (stepsL g l).length = l.length
  | [], _ => rfl
  | q :: t, g => by unfold stepsL; rw [List.length_cons, List.length_cons, stepsL_len t]
theorem stepsL_snoc : ∀ (l : List Req) (g : Lg) (q : Req), stepsL g (l ++ [q]) = stepsL g l ++ [spOf (runL g l) q]
  | [], _, _ => rfl
  | a :: t, g, q => by
    show spOf g a :: stepsL (stepL g a) (t ++ [q]) = spOf g a :: (stepsL (stepL g a) t ++ [spOf (runL g (a :: t)) q])
    rw [stepsL_snoc t]; rfl
theorem stepsL_get : ∀ (l : List Req) (g : Lg) (i : Nat) (h : i < l.length), (stepsL g l)[i]'(by rw [stepsL_len]; exact h) = spOf (runL g (l.take i)) l[i]
  | a :: t, g, 0, _ => rfl
  | a :: t, g, i + 1, h => by
    show (stepsL (stepL g a) t)[i]'_ = _
    rw [stepsL_get t (stepL g a) i (by simpa using h)]
    rfl
/-- What may stand in a log. -/
def AskOk (q : Req) : Prop := (rightB q = true ∨ nullB q = true) ∧ q.op.real < 18446744073709551616
theorem inv_ful {g : Lg} (h : Inv g) : Inv (fulL g) := by
  unfold fulL
  split
  · exact inv_turn h
  · exact h
theorem inv_step {g : Lg} (h : Inv g) {q : Req} (hq : q.op.real < 18446744073709551616) : Inv (stepL g q) := (inv_do (inv_ful h) q hq).1
theorem inv_run : ∀ (l : List Req) {g : Lg}, Inv g → (∀ q ∈ l, q.op.real < 18446744073709551616) → Inv (runL g l)
  | [], _, h, _ => h
  | q :: t, g, h, hq => inv_run t (inv_step h (hq q List.mem_cons_self)) (fun r hr => hq r (List.mem_cons_of_mem _ hr))
/-- How much is done: as many slots as the log has, if it isn't too long. -/
structure Dn (g : Lg) (n : Nat) : Prop where
  done : g.done = n
  ep : (n = 0 ∧ g.epoch = 0) ∨ (0 < n ∧ g.epoch = ((n : Int) - 1) / 4)
theorem full_of {g : Lg} {n : Nat} (h : Dn g n) : fullB g = decide (0 < n ∧ n % 4 = 0) := by
  unfold fullB
  rw [h.done]
  rcases h.ep with ⟨rfl, e⟩ | ⟨hn, e⟩
  · rw [e]; decide
  · rw [e]
    rw [Bool.eq_iff_iff]
    simp only [decide_eq_true_eq]
    omega
theorem turn_of {g : Lg} {n : Nat} (h : Dn g n) (hf : fullB g = true) (hn : n < 244) : turnE g = 0 := by
  unfold turnE
  rw [hf]
  have h1 := full_of h
  rw [hf] at h1
  have h2 : 0 < n ∧ n % 4 = 0 := of_decide_eq_true h1.symm
  rcases h.ep with ⟨rfl, e⟩ | ⟨hp, e⟩
  · omega
  · rw [if_neg (by simp), if_neg (by rw [e]; omega)]
theorem ful_ep {g : Lg} {n : Nat} (h : Dn g n) (hn : n < 244) : (fulL g).epoch = (n : Int) / 4 ∧ (fulL g).done = n := by
  unfold fulL
  by_cases hf : fullB g = true
  · rw [if_pos hf]
    unfold turnL
    rw [if_pos (turn_of h hf hn)]
    have h1 := full_of h
    rw [hf] at h1
    have h2 : 0 < n ∧ n % 4 = 0 := of_decide_eq_true h1.symm
    refine ⟨?_, h.done⟩
    show g.epoch + 1 = _
    rcases h.ep with ⟨rfl, e⟩ | ⟨hp, e⟩
    · omega
    · rw [e]; omega
  · rw [if_neg hf]
    have h1 := full_of h
    have h2 : ¬ (0 < n ∧ n % 4 = 0) := fun hh => hf (by rw [h1]; exact decide_eq_true hh)
    refine ⟨?_, h.done⟩
    rcases h.ep with ⟨rfl, e⟩ | ⟨hp, e⟩
    · rw [e]; rfl
    · rw [e]; omega
theorem ful_open {g : Lg} {n : Nat} (h : Dn g n) (hn : n < 244) : fullB (fulL g) = false := by
  obtain ⟨h1, h2⟩ := ful_ep h hn
  unfold fullB
  rw [h1, h2]
  exact decide_eq_false (by omega)
theorem do_zero {g : Lg} {n : Nat} {q : Req} (h : Dn g n) (hn : n < 244) (hq : AskOk q) : doE (fulL g) q = 0 := doE_cases.2 ⟨hq.1, ful_open h hn⟩
theorem do_frame (g : Lg) (q : Req) (h : doE g q = 0) : (doL g q).epoch = g.epoch ∧ (doL g q).done = g.done + 1 ∧ (doL g q).mem = g.mem := by
  have ap : ∀ (g : Lg) (o : Opn), (applyL g o).epoch = g.epoch ∧ (applyL g o).done = g.done ∧ (applyL g o).mem = g.mem := by
    intro g o
    unfold applyL moveL
    (repeat' split) <;> exact ⟨rfl, rfl, rfl⟩
  unfold doL
  rw [if_neg (by simp [h])]
  split
  · exact ⟨rfl, rfl, rfl⟩
  · split
    · exact ⟨rfl, rfl, rfl⟩
    · split
      · obtain ⟨a, b, c⟩ := ap (tick g) q.op
        exact ⟨a, b, c⟩
      · exact ⟨rfl, rfl, rfl⟩
theorem step_dn {g : Lg} {n : Nat} {q : Req} (h : Dn g n) (hn : n < 244) (hq : AskOk q) : Dn (stepL g q) (n + 1) := by
  obtain ⟨h1, h2⟩ := ful_ep h hn
  obtain ⟨a, b, _⟩ := do_frame (fulL g) q (do_zero h hn hq)
  exact ⟨by unfold stepL; rw [b, h2]; simp, .inr ⟨by omega, by unfold stepL; rw [a, h1]; omega⟩⟩
theorem new_dn (xs : List Int) : Dn (newL xs) 0 := ⟨rfl, .inl ⟨rfl, rfl⟩⟩
theorem run_dn (xs : List Int) (l : List Req) (hl : l.length ≤ 244) (hq : ∀ q ∈ l, AskOk q) : ∀ n, n ≤ l.length → Dn (runL (newL xs) (l.take n)) n
  | 0, _ => new_dn xs
  | n + 1, hn => by
    rw [List.take_succ_eq_append_getElem (show n < l.length by omega), runL_snoc]
    exact step_dn (run_dn xs l hl hq n (by omega)) (by omega) (hq _ (List.getElem_mem _))
end Go.Proofs.Ytekbonciafbjiaa
