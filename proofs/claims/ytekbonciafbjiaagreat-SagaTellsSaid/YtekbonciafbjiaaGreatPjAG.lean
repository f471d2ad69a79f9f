/- Joined texts: LedgP, SagaP, SagaP2, DeedsP, ReqP. What each proves stands at its head; no conditions beside those in its theorems. -/
import Derived.Test.YtekbonciafbjiaaGreatPjAA
import Derived.Test.YtekbonciafbjiaaGreatPjAC
import Derived.Test.YtekbonciafbjiaaGreatPjAD
/- Layer 12 (ledger), in plain words: what each call comes to. No program in sight. -/
namespace Go.Proofs.YtekbonciafbjiaaGreat
open F64
set_option linter.unusedVariables false
set_option linter.unusedSimpArgs false

structure Cl where
  stamp : Int
  code : Int
  real : Nat
structure Lg where
  epoch : Int
  mem : List Int
  next : List Int
  done : Int
  keys : Ks
  cl : Nat → Cl

def newL (xs : List Int) : Lg := ⟨0, xs, xs, 0, [], fun _ => ⟨0, 0, 0⟩⟩
def fullB (g : Lg) : Bool := decide (g.done = (g.epoch + 1) * 4)
def setNext (g : Lg) (n : List Int) : Lg := ⟨g.epoch, g.mem, n, g.done, g.keys, g.cl⟩
def setKeys (g : Lg) (k : Ks) : Lg := ⟨g.epoch, g.mem, g.next, g.done, k, g.cl⟩
def setDone (g : Lg) (d : Int) : Lg := ⟨g.epoch, g.mem, g.next, d, g.keys, g.cl⟩
def setCl (g : Lg) (i : Nat) (c : Cl) : Lg := ⟨g.epoch, g.mem, g.next, g.done, g.keys, fun j => if j = i then c else g.cl j⟩
def moveL (g : Lg) (n : List Int) (e : Int) : Lg := if e = 0 then setNext g n else g
def moveC (e : Int) : Int := if e = 0 then 0 else if e = 7 then 3 else if e = 10 then 6 else if e = 8 then 4 else 5
def applyL (g : Lg) (o : Opn) : Lg :=
  if o.kind = 6 then moveL g (joinL g.next o.id) (joinE g.next o.id)
  else if o.kind = 7 then moveL g (leaveL g.next o.id) (leaveE g.next o.id)
  else if hasK g.keys o.key = true then
    (if o.kind = 1 then setKeys g (setK g.keys o.key (canonN o.real))
     else if o.kind = 2 then setKeys g (setK g.keys o.key (addN (valK g.keys o.key) o.real))
     else if o.kind = 3 then setKeys g (setK g.keys o.key (mostN (valK g.keys o.key) o.real))
     else if o.kind = 4 then setKeys g (delK g.keys o.key)
     else setKeys g (setK g.keys o.key (valK g.keys o.key)))
  else if o.kind = 1 then (if g.keys.length = 16 then g else setKeys g (setK g.keys o.key (canonN o.real)))
  else g
def applyR (g : Lg) (o : Opn) : Rsl :=
  if o.kind = 6 then ⟨moveC (joinE g.next o.id), 0⟩
  else if o.kind = 7 then ⟨moveC (leaveE g.next o.id), 0⟩
  else if hasK g.keys o.key = true then
    (if o.kind = 1 then ⟨0, canonN o.real⟩
     else if o.kind = 2 then ⟨0, addN (valK g.keys o.key) o.real⟩
     else if o.kind = 3 then ⟨0, mostN (valK g.keys o.key) o.real⟩
     else if o.kind = 4 then ⟨0, valK g.keys o.key⟩
     else ⟨0, valK g.keys o.key⟩)
  else if o.kind = 1 then (if g.keys.length = 16 then ⟨2, 0⟩ else ⟨0, canonN o.real⟩)
  else ⟨1, 0⟩
def doE (g : Lg) (r : Req) : Int := if rightB r = false ∧ nullB r = false then 1 else if fullB g = true then 18 else 0
def tick (g : Lg) : Lg := setDone g (g.done + 1)
def idxR (r : Req) : Nat := (r.client - 1).toNat
def doL (g : Lg) (r : Req) : Lg :=
  if doE g r ≠ 0 then g else if nullB r = true then tick g
  else if r.stamp < (g.cl (idxR r)).stamp then tick g
  else if (g.cl (idxR r)).stamp < r.stamp then setCl (applyL (tick g) r.op) (idxR r) ⟨r.stamp, (applyR (tick g) r.op).code, (applyR (tick g) r.op).real⟩
  else tick g
def doR (g : Lg) (r : Req) : Rsl :=
  if doE g r ≠ 0 then ⟨0, 0⟩ else if nullB r = true then ⟨8, 0⟩
  else if r.stamp < (g.cl (idxR r)).stamp then ⟨7, 0⟩
  else if (g.cl (idxR r)).stamp < r.stamp then applyR (tick g) r.op
  else ⟨(g.cl (idxR r)).code, (g.cl (idxR r)).real⟩
def turnE (g : Lg) : Int := if fullB g = false then 18 else if g.epoch = 60 then 3 else 0
def turnL (g : Lg) : Lg := if turnE g = 0 then ⟨g.epoch + 1, g.next, g.next, g.done, g.keys, g.cl⟩ else g

/-- What holds of a ledger at all times. -/
structure Inv (g : Lg) : Prop where
  ep : 0 ≤ g.epoch ∧ g.epoch ≤ 60
  mm : membersB g.mem = true
  mn : membersB g.next = true
  dn : 4 * g.epoch ≤ g.done ∧ g.done ≤ 4 * (g.epoch + 1)
  kl : g.keys.length ≤ 16
  kb : ∀ p ∈ g.keys, 1 ≤ p.1.size ∧ p.1.size ≤ 16 ∧ p.2 < 18446744073709551616 ∧ canonN p.2 = p.2
  cb : ∀ i, 0 ≤ (g.cl i).stamp ∧ (g.cl i).stamp ≤ 1048576 ∧ 0 ≤ (g.cl i).code ∧ (g.cl i).code ≤ 8 ∧ (g.cl i).real < 18446744073709551616 ∧ canonN (g.cl i).real = (g.cl i).real ∧ ((g.cl i).stamp = 0 → (g.cl i).code = 0 ∧ (g.cl i).real = 0)

theorem of_filt {α : Type} {p : α → Bool} {a : α} {l : List α} (h : a ∈ l.filter p) : a ∈ l := (List.mem_filter.1 h).1
theorem canon0 : canonN 0 = 0 := by decide +kernel
theorem inv_new {xs : List Int} (h : membersB xs = true) : Inv (newL xs) where
  ep := by simp [newL]
  mm := h
  mn := h
  dn := by simp [newL]
  kl := by simp [newL]
  kb := by simp [newL]
  cb := fun i => by simp [newL, canon0]
theorem val_ok {g : Lg} (h : Inv g) (k : ByteArray) : valK g.keys k < 18446744073709551616 ∧ canonN (valK g.keys k) = valK g.keys k := by
  unfold valK
  cases hg : getK g.keys k with
  | none => exact ⟨by simp, by simp [canon0]⟩
  | some x =>
    unfold getK at hg
    rw [Option.map_eq_some_iff] at hg
    obtain ⟨p, hp, rfl⟩ := hg
    have := h.kb p (List.mem_of_find?_eq_some hp)
    exact ⟨this.2.2.1, this.2.2.2⟩
theorem join_members {l : List Int} {id : Int} (h : joinE l id = 0) : membersB (joinL l id) = true := by
  have he := h
  unfold joinE at he
  by_cases hf : (membersB l && decide (0 ≤ id) && decide (id < 16)) = true
  · rw [if_pos hf] at he
    have hid : 0 ≤ id ∧ id < 16 := by simp only [Bool.and_eq_true, decide_eq_true_eq] at hf; exact ⟨hf.1.2, hf.2⟩
    have hm : membersB l = true := by simp only [Bool.and_eq_true] at hf; exact hf.1.1
    obtain ⟨m1, m2, m3, m4⟩ := members_facts hm
    cases hh : hasB l id
    · rw [hh] at he
      have h10 : l.length ≠ 10 := by intro e; simp [e] at he
      have hn : id ∉ l := fun hm => by have := (hasB_iff l id).2 hm; rw [hh] at this; cases this
      obtain ⟨s1, s2, s3⟩ := sorted_place l id m2
      have hJ : joinL l id = l.filter (fun x => decide (x < id)) ++ id :: l.filter (fun x => decide (id ≤ x)) := by unfold joinL; rw [if_pos h]
      have hlen : (joinL l id).length = l.length + 1 := by rw [hJ, s2, s3]; simp; omega
      refine members_of ?_ ?_ (by omega) (by omega)
      · intro x hx
        rw [hJ] at hx
        rcases List.mem_append.1 hx with hx | hx
        · exact m1 x (of_filt hx)
        · rcases List.mem_cons.1 hx with rfl | hx
          · exact hid
          · exact m1 x (of_filt hx)
      · rw [hJ, List.pairwise_append]
        refine ⟨m2.filter _, ?_, ?_⟩
        · rw [List.pairwise_cons]
          refine ⟨fun x hx => ?_, m2.filter _⟩
          have := (List.mem_filter.1 hx).2
          have hle : id ≤ x := of_decide_eq_true this
          have hne : x ≠ id := fun e => hn (e ▸ (List.mem_filter.1 hx).1)
          omega
        · intro x hx y hy
          have hx' : x < id := of_decide_eq_true (List.mem_filter.1 hx).2
          rcases List.mem_cons.1 hy with rfl | hy
          · exact hx'
          · have : id ≤ y := of_decide_eq_true (List.mem_filter.1 hy).2
            omega
    · rw [hh] at he; simp at he
  · rw [if_neg hf] at he; cases he
theorem leave_members {l : List Int} {id : Int} (h : leaveE l id = 0) : membersB (leaveL l id) = true := by
  have he := h
  unfold leaveE at he
  by_cases hf : (membersB l && decide (0 ≤ id) && decide (id < 16)) = true
  · rw [if_pos hf] at he
    have hm : membersB l = true := by simp only [Bool.and_eq_true] at hf; exact hf.1.1
    obtain ⟨m1, m2, m3, m4⟩ := members_facts hm
    cases hh : hasB l id
    · rw [hh] at he; simp at he
    · rw [hh] at he
      have h4 : l.length ≠ 4 := by intro e; simp [e] at he
      obtain ⟨k1, k2⟩ := leave_facts l id m2 hh
      have hJ : leaveL l id = l.filter (fun x => x != id) := by unfold leaveL; rw [if_pos h]
      have hlen : (leaveL l id).length = l.length - 1 := by rw [hJ, k2]; simp; omega
      refine members_of ?_ ?_ (by omega) (by omega)
      · intro x hx
        rw [hJ] at hx
        exact m1 x (of_filt hx)
      · rw [hJ]; exact m2.filter _
  · rw [if_neg hf] at he; cases he
theorem inv_next {g : Lg} (h : Inv g) {n : List Int} (hn : membersB n = true) : Inv (setNext g n) := ⟨h.ep, h.mm, hn, h.dn, h.kl, h.kb, h.cb⟩
theorem inv_keys {g : Lg} (h : Inv g) {k : Ks} (hl : k.length ≤ 16) (hk : ∀ p ∈ k, 1 ≤ p.1.size ∧ p.1.size ≤ 16 ∧ p.2 < 18446744073709551616 ∧ canonN p.2 = p.2) : Inv (setKeys g k) := ⟨h.ep, h.mm, h.mn, h.dn, hl, hk, h.cb⟩
theorem inv_put {g : Lg} (h : Inv g) {k : ByteArray} {x : Nat} (hk : 1 ≤ k.size ∧ k.size ≤ 16) (hx : x < 18446744073709551616) (hc : canonN x = x) (hl : hasK g.keys k = true ∨ g.keys.length ≠ 16) : Inv (setKeys g (setK g.keys k x)) := by
  refine inv_keys h ?_ ?_
  · rw [setK_length]
    have := h.kl
    split
    · exact this
    · rename_i hh
      rcases hl with hl | hl
      · exact absurd hl hh
      · omega
  · intro p hp
    rcases mem_setK hp with rfl | hp
    · exact ⟨hk.1, hk.2, hx, hc⟩
    · exact h.kb p hp
theorem inv_apply {g : Lg} (h : Inv g) {o : Opn} (ho : opB o = true) (hx : o.real < 18446744073709551616) : Inv (applyL g o) ∧ 0 ≤ (applyR g o).code ∧ (applyR g o).code ≤ 8 ∧ (applyR g o).real < 18446744073709551616 ∧ canonN (applyR g o).real = (applyR g o).real := by
  have hv := val_ok h o.key
  have mc : ∀ e, 0 ≤ moveC e ∧ moveC e ≤ 8 := by intro e; unfold moveC; (repeat' split) <;> decide
  have hz : (0 : Nat) < 18446744073709551616 := by decide
  have hk : o.kind ≠ 6 → o.kind ≠ 7 → 1 ≤ o.key.size ∧ o.key.size ≤ 16 := by
    intro h6 h7
    have kk : keyB o = true → 1 ≤ o.key.size ∧ o.key.size ≤ 16 := by
      intro hh; unfold keyB at hh; simp only [Bool.and_eq_true, decide_eq_true_eq] at hh; omega
    unfold opB at ho
    split at ho
    · simp only [Bool.and_eq_true] at ho; exact kk ho.2
    · split at ho
      · exact kk ho
      · rw [if_neg (by omega)] at ho; cases ho
  unfold applyL applyR
  by_cases h6 : o.kind = 6
  · rw [if_pos h6, if_pos h6]
    refine ⟨?_, (mc _).1, (mc _).2, hz, canon0⟩
    unfold moveL; split
    · rename_i e; exact inv_next h (join_members e)
    · exact h
  · rw [if_neg h6, if_neg h6]
    by_cases h7 : o.kind = 7
    · rw [if_pos h7, if_pos h7]
      refine ⟨?_, (mc _).1, (mc _).2, hz, canon0⟩
      unfold moveL; split
      · rename_i e; exact inv_next h (leave_members e)
      · exact h
    · rw [if_neg h7, if_neg h7]
      have hks := hk h6 h7
      by_cases hh : hasK g.keys o.key = true
      · rw [if_pos hh, if_pos hh]
        by_cases h1 : o.kind = 1
        · rw [if_pos h1, if_pos h1]
          exact ⟨inv_put h hks (canon_lt hx) (canon_idem _) (.inl hh), by simp, by simp, canon_lt hx, canon_idem _⟩
        · rw [if_neg h1, if_neg h1]
          by_cases h2 : o.kind = 2
          · rw [if_pos h2, if_pos h2]
            exact ⟨inv_put h hks (addN_lt _ _) (canon_addN _ _) (.inl hh), by simp, by simp, addN_lt _ _, canon_addN _ _⟩
          · rw [if_neg h2, if_neg h2]
            by_cases h3 : o.kind = 3
            · rw [if_pos h3, if_pos h3]
              exact ⟨inv_put h hks (mostN_lt hv.1 hx) (canon_mostN _ _) (.inl hh), by simp, by simp, mostN_lt hv.1 hx, canon_mostN _ _⟩
            · rw [if_neg h3, if_neg h3]
              by_cases h4 : o.kind = 4
              · rw [if_pos h4, if_pos h4]
                refine ⟨inv_keys h ?_ (fun p hp => h.kb p (of_filt hp)), by simp, by simp, hv.1, hv.2⟩
                exact Nat.le_trans (List.length_filter_le _ _) h.kl
              · rw [if_neg h4, if_neg h4]
                exact ⟨inv_put h hks hv.1 hv.2 (.inl hh), by simp, by simp, hv.1, hv.2⟩
      · rw [if_neg hh, if_neg hh]
        by_cases h1 : o.kind = 1
        · rw [if_pos h1, if_pos h1]
          by_cases hl : g.keys.length = 16
          · rw [if_pos hl, if_pos hl]; exact ⟨h, by simp, by simp, hz, canon0⟩
          · rw [if_neg hl, if_neg hl]
            exact ⟨inv_put h hks (canon_lt hx) (canon_idem _) (.inr hl), by simp, by simp, canon_lt hx, canon_idem _⟩
        · rw [if_neg h1, if_neg h1]; exact ⟨h, by simp, by simp, hz, canon0⟩
theorem inv_tick {g : Lg} (h : Inv g) (hf : fullB g = false) : Inv (tick g) := by
  have : ¬ g.done = (g.epoch + 1) * 4 := of_decide_eq_false hf
  have := h.dn
  exact ⟨h.ep, h.mm, h.mn, by show 4 * g.epoch ≤ g.done + 1 ∧ g.done + 1 ≤ 4 * (g.epoch + 1); omega, h.kl, h.kb, h.cb⟩
theorem doE_cases {g : Lg} {r : Req} : doE g r = 0 ↔ (rightB r = true ∨ nullB r = true) ∧ fullB g = false := by
  unfold doE
  cases rightB r <;> cases nullB r <;> cases fullB g <;> simp
theorem rightB_facts {r : Req} (h : rightB r = true) : 1 ≤ r.client ∧ r.client ≤ 8 ∧ 1 ≤ r.stamp ∧ r.stamp ≤ 1048576 ∧ opB r.op = true := by
  unfold rightB withinB at h
  simp only [Bool.and_eq_true, decide_eq_true_eq] at h
  obtain ⟨⟨⟨a, b⟩, c, d⟩, e⟩ := h
  exact ⟨a, b, c, d, e⟩
theorem null_not_right {r : Req} (h : nullB r = true) : rightB r = false := by
  cases hr : rightB r
  · rfl
  · have := rightB_facts hr
    unfold nullB at h
    simp only [Bool.and_eq_true, decide_eq_true_eq] at h
    omega
theorem inv_do {g : Lg} (h : Inv g) (r : Req) (hx : r.op.real < 18446744073709551616) : Inv (doL g r) ∧ 0 ≤ (doR g r).code ∧ (doR g r).code ≤ 8 ∧ (doR g r).real < 18446744073709551616 ∧ canonN (doR g r).real = (doR g r).real := by
  have hz : (0 : Nat) < 18446744073709551616 := by decide
  unfold doL doR
  by_cases he : doE g r = 0
  · have he' : ¬ doE g r ≠ 0 := by simp [he]
    rw [if_neg he', if_neg he']
    obtain ⟨hr, hf⟩ := doE_cases.1 he
    have ht := inv_tick h hf
    by_cases hn : nullB r = true
    · rw [if_pos hn, if_pos hn]; exact ⟨ht, by simp, by simp, hz, canon0⟩
    · rw [if_neg hn, if_neg hn]
      have hr := rightB_facts (hr.resolve_right hn)
      by_cases h1 : r.stamp < (g.cl (idxR r)).stamp
      · rw [if_pos h1, if_pos h1]; exact ⟨ht, by simp, by simp, hz, canon0⟩
      · rw [if_neg h1, if_neg h1]
        by_cases h2 : (g.cl (idxR r)).stamp < r.stamp
        · rw [if_pos h2, if_pos h2]
          obtain ⟨a1, a2, a3, a4, a5⟩ := inv_apply ht (o := r.op) hr.2.2.2.2 hx
          refine ⟨⟨a1.ep, a1.mm, a1.mn, a1.dn, a1.kl, a1.kb, ?_⟩, a2, a3, a4, a5⟩
          intro i
          show 0 ≤ (if i = idxR r then _ else _ : Cl).stamp ∧ _
          have := a1.cb i
          unfold setCl
          simp only
          split
          · refine ⟨?_, ?_, a2, a3, a4, a5, ?_⟩ <;> simp only <;> omega
          · exact this
        · rw [if_neg h2, if_neg h2]
          have := h.cb (idxR r)
          exact ⟨ht, this.2.2.1, this.2.2.2.1, this.2.2.2.2.1, this.2.2.2.2.2.1⟩
  · rw [if_pos he, if_pos he]; exact ⟨h, by simp, by simp, hz, canon0⟩
theorem inv_turn {g : Lg} (h : Inv g) : Inv (turnL g) := by
  unfold turnL
  split
  · rename_i e
    have he := e
    unfold turnE at he
    cases hf : fullB g
    · rw [hf] at he; simp at he
    · rw [hf] at he
      have hd : g.done = (g.epoch + 1) * 4 := of_decide_eq_true hf
      have h60 : ¬ g.epoch = 60 := by intro e; simp [e] at he
      have := h.ep
      exact ⟨by show 0 ≤ g.epoch + 1 ∧ g.epoch + 1 ≤ 60; omega, h.mn, h.mn, by show 4 * (g.epoch + 1) ≤ g.done ∧ g.done ≤ 4 * (g.epoch + 1 + 1); omega, h.kl, h.kb, h.cb⟩
  · exact h
end Go.Proofs.YtekbonciafbjiaaGreat

/- Layer 22 (saga) in plain words: the ledgers behind a log, what each slot came to. No program in sight. -/
namespace Go.Proofs.YtekbonciafbjiaaGreat
open F64
set_option linter.unusedVariables false
set_option linter.unusedSimpArgs false

/-- A ledger that may go on: turned, if its epoch is full. -/
def fulL (g : Lg) : Lg := if fullB g = true then turnL g else g
def stepL (g : Lg) (q : Req) : Lg := doL (fulL g) q
def lastS (g : Lg) (c : Int) : Int := if 1 ≤ c ∧ c ≤ 8 then (g.cl (c - 1).toNat).stamp else 0
/-- What a slot came to. -/
structure Sp where
  req : Req
  code : Int
  real : Nat
  took : Bool
def spOf (g : Lg) (q : Req) : Sp := ⟨q, (doR (fulL g) q).code, (doR (fulL g) q).real, decide (lastS (fulL g) q.client < q.stamp)⟩
def runL (g : Lg) (l : List Req) : Lg := l.foldl stepL g
def stepsL : Lg → List Req → List Sp
  | _, [] => []
  | g, q :: t => spOf g q :: stepsL (stepL g q) t
theorem runL_snoc (g : Lg) (l : List Req) (q : Req) : runL g (l ++ [q]) = stepL (runL g l) q := by unfold runL; rw [List.foldl_append]; rfl
theorem stepsL_len : ∀ (l : List Req) (g : Lg), (stepsL g l).length = l.length
  | [], _ => rfl
  | q :: t, g => by unfold stepsL; rw [List.length_cons, List.length_cons, stepsL_len t]
theorem stepsL_snoc : ∀ (l : List Req) (g : Lg) (q : Req), stepsL g (l ++ [q]) = stepsL g l ++ [spOf (runL g l) q]
  | [], _, _ => rfl
  | a :: t, g, q => by
    show spOf g a :: stepsL (stepL g a) (t ++ [q]) = spOf g a :: (stepsL (stepL g a) t ++ [spOf (runL g (a :: t)) q])
    rw [stepsL_snoc t]; rfl
theorem stepsL_get : ∀ (l : List Req) (g : Lg) (i : Nat) (h : i < l.length), (stepsL g l)[i]'(by rw [stepsL_len]; exact h) = spOf (runL g (l.take i)) l[i]
  | a :: t, g, 0, _ => rfl
  | a :: t, g, i + 1, h => by
    show (stepsL (stepL g a) t)[i]'_ = _
    rw [stepsL_get t (stepL g a) i (by simpa using h)]
    rfl
/-- What may stand in a log. -/
def AskOk (q : Req) : Prop := (rightB q = true ∨ nullB q = true) ∧ q.op.real < 18446744073709551616
theorem inv_ful {g : Lg} (h : Inv g) : Inv (fulL g) := by
  unfold fulL
  split
  · exact inv_turn h
  · exact h
theorem inv_step {g : Lg} (h : Inv g) {q : Req} (hq : q.op.real < 18446744073709551616) : Inv (stepL g q) := (inv_do (inv_ful h) q hq).1
theorem inv_run : ∀ (l : List Req) {g : Lg}, Inv g → (∀ q ∈ l, q.op.real < 18446744073709551616) → Inv (runL g l)
  | [], _, h, _ => h
  | q :: t, g, h, hq => inv_run t (inv_step h (hq q List.mem_cons_self)) (fun r hr => hq r (List.mem_cons_of_mem _ hr))
/-- How much is done: as many slots as the log has, if it isn't too long. -/
structure Dn (g : Lg) (n : Nat) : Prop where
  done : g.done = n
  ep : (n = 0 ∧ g.epoch = 0) ∨ (0 < n ∧ g.epoch = ((n : Int) - 1) / 4)
theorem full_of {g : Lg} {n : Nat} (h : Dn g n) : fullB g = decide (0 < n ∧ n % 4 = 0) := by
  unfold fullB
  rw [h.done]
  rcases h.ep with ⟨rfl, e⟩ | ⟨hn, e⟩
  · rw [e]; decide
  · rw [e]
    rw [Bool.eq_iff_iff]
    simp only [decide_eq_true_eq]
    omega
theorem turn_of {g : Lg} {n : Nat} (h : Dn g n) (hf : fullB g = true) (hn : n < 244) : turnE g = 0 := by
  unfold turnE
  rw [hf]
  have h1 := full_of h
  rw [hf] at h1
  have h2 : 0 < n ∧ n % 4 = 0 := of_decide_eq_true h1.symm
  rcases h.ep with ⟨rfl, e⟩ | ⟨hp, e⟩
  · omega
  · rw [if_neg (by simp), if_neg (by rw [e]; omega)]
theorem ful_ep {g : Lg} {n : Nat} (h : Dn g n) (hn : n < 244) : (fulL g).epoch = (n : Int) / 4 ∧ (fulL g).done = n := by
  unfold fulL
  by_cases hf : fullB g = true
  · rw [if_pos hf]
    unfold turnL
    rw [if_pos (turn_of h hf hn)]
    have h1 := full_of h
    rw [hf] at h1
    have h2 : 0 < n ∧ n % 4 = 0 := of_decide_eq_true h1.symm
    refine ⟨?_, h.done⟩
    show g.epoch + 1 = _
    rcases h.ep with ⟨rfl, e⟩ | ⟨hp, e⟩
    · omega
    · rw [e]; omega
  · rw [if_neg hf]
    have h1 := full_of h
    have h2 : ¬ (0 < n ∧ n % 4 = 0) := fun hh => hf (by rw [h1]; exact decide_eq_true hh)
    refine ⟨?_, h.done⟩
    rcases h.ep with ⟨rfl, e⟩ | ⟨hp, e⟩
    · rw [e]; rfl
    · rw [e]; omega
theorem ful_open {g : Lg} {n : Nat} (h : Dn g n) (hn : n < 244) : fullB (fulL g) = false := by
  obtain ⟨h1, h2⟩ := ful_ep h hn
  unfold fullB
  rw [h1, h2]
  exact decide_eq_false (by omega)
theorem do_zero {g : Lg} {n : Nat} {q : Req} (h : Dn g n) (hn : n < 244) (hq : AskOk q) : doE (fulL g) q = 0 := doE_cases.2 ⟨hq.1, ful_open h hn⟩
theorem do_frame (g : Lg) (q : Req) (h : doE g q = 0) : (doL g q).epoch = g.epoch ∧ (doL g q).done = g.done + 1 ∧ (doL g q).mem = g.mem := by
  have ap : ∀ (g : Lg) (o : Opn), (applyL g o).epoch = g.epoch ∧ (applyL g o).done = g.done ∧ (applyL g o).mem = g.mem := by
    intro g o
    unfold applyL moveL
    (repeat' split) <;> exact ⟨rfl, rfl, rfl⟩
  unfold doL
  rw [if_neg (by simp [h])]
  split
  · exact ⟨rfl, rfl, rfl⟩
  · split
    · exact ⟨rfl, rfl, rfl⟩
    · split
      · obtain ⟨a, b, c⟩ := ap (tick g) q.op
        exact ⟨a, b, c⟩
      · exact ⟨rfl, rfl, rfl⟩
theorem step_dn {g : Lg} {n : Nat} {q : Req} (h : Dn g n) (hn : n < 244) (hq : AskOk q) : Dn (stepL g q) (n + 1) := by
  obtain ⟨h1, h2⟩ := ful_ep h hn
  obtain ⟨a, b, _⟩ := do_frame (fulL g) q (do_zero h hn hq)
  exact ⟨by unfold stepL; rw [b, h2]; simp, .inr ⟨by omega, by unfold stepL; rw [a, h1]; omega⟩⟩
theorem new_dn (xs : List Int) : Dn (newL xs) 0 := ⟨rfl, .inl ⟨rfl, rfl⟩⟩
theorem run_dn (xs : List Int) (l : List Req) (hl : l.length ≤ 244) (hq : ∀ q ∈ l, AskOk q) : ∀ n, n ≤ l.length → Dn (runL (newL xs) (l.take n)) n
  | 0, _ => new_dn xs
  | n + 1, hn => by
    rw [List.take_succ_eq_append_getElem (show n < l.length by omega), runL_snoc]
    exact step_dn (run_dn xs l hl hq n (by omega)) (by omega) (hq _ (List.getElem_mem _))
end Go.Proofs.YtekbonciafbjiaaGreat

/- Layer 22 in plain words: configurations that follow; stamps that took effect. No program in sight. -/

namespace Go.Proofs.YtekbonciafbjiaaGreat
open F64
set_option linter.unusedVariables false
set_option linter.unusedSimpArgs false

/-- The members behind epoch n. -/
def memN (xs : List Int) (l : List Req) (n : Nat) : List Int := (runL (newL xs) (l.take (4 * n))).next
/-- The ledger behind an epoch's last slot, turned. -/
theorem conf_at (xs : List Int) (l : List Req) (hm : membersB xs = true) (hl : l.length ≤ 244) (hq : ∀ q ∈ l, AskOk q) {n : Nat} (hn : 0 < n) (h60 : n ≤ 60) (h : 4 * n ≤ l.length) :
    turnE (runL (newL xs) (l.take (4 * n))) = 0 ∧ (turnL (runL (newL xs) (l.take (4 * n)))).epoch = n ∧ (turnL (runL (newL xs) (l.take (4 * n)))).mem = memN xs l n ∧ confB n (memN xs l n) = true := by
  have hd := run_dn xs l hl hq (4 * n) h
  have hi : Inv (runL (newL xs) (l.take (4 * n))) := inv_run _ (inv_new hm) (fun q hq' => (hq q (List.mem_of_mem_take hq')).2)
  have hf : fullB (runL (newL xs) (l.take (4 * n))) = true := by rw [full_of hd]; exact decide_eq_true (by omega)
  have he : (runL (newL xs) (l.take (4 * n))).epoch = (n : Int) - 1 := by
    rcases hd.ep with ⟨h0, _⟩ | ⟨_, e⟩
    · omega
    · rw [e]; omega
  have ht := turn_of hd hf (by omega)
  refine ⟨ht, ?_, ?_, ?_⟩
  · unfold turnL; rw [if_pos ht]; show _ + 1 = _; rw [he]; omega
  · unfold turnL; rw [if_pos ht]; rfl
  · unfold confB
    rw [decide_eq_true (show (0 : Int) ≤ (n : Int) by omega), decide_eq_true (show (n : Int) ≤ 60 by omega)]
    exact hi.mn
end Go.Proofs.YtekbonciafbjiaaGreat

/- Texts of layer 11, in plain words. No program in sight. -/
namespace Go.Proofs.YtekbonciafbjiaaGreat
open F64
set_option linter.unusedVariables false
set_option linter.unusedSimpArgs false

def keyL (r : Req) : List UInt8 := r.op.key.data.toList
def reqT (r : Req) : List UInt8 := big1 1 ++ big1 r.client ++ big4 r.stamp ++ big1 r.op.kind ++ (big2 (keyL r).length ++ keyL r) ++ big8 (canonN r.op.real) ++ big1 r.op.id
def reqW (lim : Int) (r : Req) : Wr := byteW (bitsW (textW (byteW (longW (byteW (byteW (newW lim) 1) r.client) r.stamp) r.op.kind) (keyL r)) (canonN r.op.real)) r.op.id
/-- A request's text, and its error. -/
def reqL (r : Req) : List UInt8 := if nullB r = true then [0] else if rightB r = true then reqT r else []
def reqS (r : Req) : ByteArray := ⟨(reqL r).toArray⟩
def reqE (r : Req) : Int := if nullB r = true then 0 else if rightB r = true then 0 else 1
theorem put_good {W : Wr} (h : W.err = 0) {c : List UInt8} (hc : (c.length : Int) ≤ W.room) : putW W true c = ⟨W.bs ++ c, W.room - c.length, 0⟩ := by
  unfold putW addW
  rw [if_pos h, if_pos rfl, if_neg (by omega), h]
theorem op_bounds {o : Opn} (h : opB o = true) : 0 ≤ o.kind ∧ o.kind ≤ 255 ∧ 0 ≤ o.id ∧ o.id ≤ 255 ∧ o.key.size ≤ 16 := by
  have kk : keyB o = true → o.key.size ≤ 16 ∧ o.id = 0 := by
    intro hh; unfold keyB at hh; simp only [Bool.and_eq_true, decide_eq_true_eq] at hh; exact ⟨hh.1.2, hh.2⟩
  unfold opB at h
  split at h
  · simp only [Bool.and_eq_true] at h
    have := kk h.2; omega
  · split at h
    · have := kk h; omega
    · split at h
      · simp only [Bool.and_eq_true, decide_eq_true_eq] at h; omega
      · cases h
theorem okN_of {n hi : Int} (h0 : 0 ≤ n) (h1 : n ≤ hi) : okN n hi = true := by unfold okN; simp [h0, h1]
theorem req_run {r : Req} (h : rightB r = true) {lim : Int} (hl : 35 ≤ lim) : reqW lim r = ⟨reqT r, lim - (reqT r).length, 0⟩ := by
  obtain ⟨h1, h2, h3, h4, h5⟩ := rightB_facts h
  obtain ⟨o1, o2, o3, o4, o5⟩ := op_bounds h5
  have hk : (keyL r).length ≤ 16 := by have : (keyL r).length = r.op.key.size := size_data _; omega
  have hn : newW lim = ⟨[], lim, 0⟩ := by unfold newW; rw [if_pos (by omega)]
  unfold reqW byteW longW textW bitsW
  rw [hn, okN_of (by decide) (by decide), okN_of (by omega) (by omega), okN_of (by omega) (by omega), okN_of o1 o2, okN_of o3 o4, decide_eq_true (by omega : (keyL r).length ≤ 65535)]
  have p1 := put_good (W := ⟨[], lim, 0⟩) rfl (c := big1 1) (by simp [big1]; omega)
  rw [p1]
  have p2 := put_good (W := ⟨[] ++ big1 1, lim - (big1 1).length, 0⟩) rfl (c := big1 r.client) (by simp [big1]; omega)
  rw [p2]
  have p3 := put_good (W := ⟨[] ++ big1 1 ++ big1 r.client, lim - (big1 1).length - (big1 r.client).length, 0⟩) rfl (c := big4 r.stamp) (by simp [big1, big4]; omega)
  rw [p3]
  have p4 := put_good (W := ⟨[] ++ big1 1 ++ big1 r.client ++ big4 r.stamp, lim - (big1 1).length - (big1 r.client).length - (big4 r.stamp).length, 0⟩) rfl (c := big1 r.op.kind) (by simp [big1, big4]; omega)
  rw [p4]
  have p5 := put_good (W := ⟨[] ++ big1 1 ++ big1 r.client ++ big4 r.stamp ++ big1 r.op.kind, lim - (big1 1).length - (big1 r.client).length - (big4 r.stamp).length - (big1 r.op.kind).length, 0⟩) rfl (c := big2 (keyL r).length ++ keyL r) (by simp [big1, big2, big4]; omega)
  rw [p5]
  have p6 := put_good (W := ⟨[] ++ big1 1 ++ big1 r.client ++ big4 r.stamp ++ big1 r.op.kind ++ (big2 (keyL r).length ++ keyL r), lim - (big1 1).length - (big1 r.client).length - (big4 r.stamp).length - (big1 r.op.kind).length - (big2 (keyL r).length ++ keyL r).length, 0⟩) rfl (c := big8 (canonN r.op.real)) (by simp [big1, big2, big4, big8]; omega)
  rw [p6]
  have p7 := put_good (W := ⟨[] ++ big1 1 ++ big1 r.client ++ big4 r.stamp ++ big1 r.op.kind ++ (big2 (keyL r).length ++ keyL r) ++ big8 (canonN r.op.real), lim - (big1 1).length - (big1 r.client).length - (big4 r.stamp).length - (big1 r.op.kind).length - (big2 (keyL r).length ++ keyL r).length - (big8 (canonN r.op.real)).length, 0⟩) rfl (c := big1 r.op.id) (by simp [big1, big2, big4, big8]; omega)
  rw [p7]
  unfold reqT
  congr 1
  simp [big1, big2, big4, big8]
  omega
theorem reqW_ok {r : Req} (h : rightB r = true) {lim : Int} (hl : 35 ≤ lim) : doneS (reqW lim r) = reqS r ∧ (reqW lim r).err = reqE r := by
  have hn : ¬ nullB r = true := fun e => by rw [null_not_right e] at h; cases h
  rw [req_run h hl]
  unfold doneS reqS reqL reqE
  rw [if_pos rfl, if_neg hn, if_pos h, if_neg hn, if_pos h]
  exact ⟨rfl, rfl⟩
end Go.Proofs.YtekbonciafbjiaaGreat

/- Requests in plain words: same texts are whole requests. No program in sight. -/
namespace Go.Proofs.YtekbonciafbjiaaGreat
open F64
set_option linter.unusedVariables false
set_option linter.unusedSimpArgs false
/-- A request's fields are such as a machine holds. -/
structure ReqOk (r : Req) : Prop where
  c : I64 r.client
  s : I64 r.stamp
  k : I64 r.op.kind
  id : I64 r.op.id
  x : r.op.real < 18446744073709551616
  key : r.op.key.size ≤ 9223372036854775807
def Req.cells (r : Req) : List Value := [.int .i64 r.client, .int .i64 r.stamp, .int .i64 r.op.kind, .string r.op.key, .float .f64 r.op.real, .int .i64 r.op.id]
def askedB (r : Req) : Bool := rightB r || nullB r
def wholeB (a b : Req) : Bool := (a.client == b.client) && (a.stamp == b.stamp) && (a.op.kind == b.op.kind) && (a.op.key.toList == b.op.key.toList) && (a.op.id == b.op.id) && (canonN a.op.real == canonN b.op.real)
theorem lowB_inj {a b : Int} (h : lowB a = lowB b) : a % 256 = b % 256 := by rw [← lowB_toNat, ← lowB_toNat, h]
theorem big1_inj {a b : Int} (ha : 0 ≤ a ∧ a ≤ 255) (hb : 0 ≤ b ∧ b ≤ 255) (h : big1 a = big1 b) : a = b := by
  unfold big1 at h
  simp at h
  have := lowB_inj h; omega
theorem big2_inj {a b : Int} (ha : 0 ≤ a ∧ a ≤ 65535) (hb : 0 ≤ b ∧ b ≤ 65535) (h : big2 a = big2 b) : a = b := by
  unfold big2 at h
  simp at h
  have h1 := lowB_inj h.1; have h2 := lowB_inj h.2; omega
theorem big4_inj {a b : Int} (ha : 0 ≤ a ∧ a ≤ 4294967295) (hb : 0 ≤ b ∧ b ≤ 4294967295) (h : big4 a = big4 b) : a = b := by
  unfold big4 at h
  simp at h
  have h1 := lowB_inj h.1; have h2 := lowB_inj h.2.1; have h3 := lowB_inj h.2.2.1; have h4 := lowB_inj h.2.2.2; omega
theorem big8_inj {a b : Int} (ha : 0 ≤ a ∧ a ≤ 18446744073709551615) (hb : 0 ≤ b ∧ b ≤ 18446744073709551615) (h : big8 a = big8 b) : a = b := by
  unfold big8 at h
  obtain ⟨h1, h2⟩ := List.append_inj h rfl
  unfold big4 at h1 h2
  simp at h1 h2
  have a1 := lowB_inj h1.1; have a2 := lowB_inj h1.2.1; have a3 := lowB_inj h1.2.2.1; have a4 := lowB_inj h1.2.2.2
  have b1 := lowB_inj h2.1; have b2 := lowB_inj h2.2.1; have b3 := lowB_inj h2.2.2.1; have b4 := lowB_inj h2.2.2.2
  omega
theorem text_inj {s t X Y : List UInt8} (hs : s.length ≤ 65535) (ht : t.length ≤ 65535) (h : (big2 s.length ++ s) ++ X = (big2 t.length ++ t) ++ Y) : s = t ∧ X = Y := by
  rw [List.append_assoc, List.append_assoc] at h
  obtain ⟨h1, h2⟩ := List.append_inj h rfl
  have hl := big2_inj (by omega) (by omega) h1
  exact List.append_inj h2 (by omega)
theorem whole_of {a b : Req} (h1 : a.client = b.client) (h2 : a.stamp = b.stamp) (h3 : a.op.kind = b.op.kind) (h4 : keyL a = keyL b) (h5 : a.op.id = b.op.id) (h6 : canonN a.op.real = canonN b.op.real) : wholeB a b = true := by
  unfold keyL at h4
  unfold wholeB
  rw [toList_data, toList_data]
  simp [h1, h2, h3, h4, h5, h6]
theorem whole_parts {a b : Req} (h : wholeB a b = true) : a.client = b.client ∧ a.stamp = b.stamp ∧ a.op.kind = b.op.kind ∧ keyL a = keyL b ∧ a.op.id = b.op.id ∧ canonN a.op.real = canonN b.op.real := by
  unfold wholeB at h
  rw [toList_data, toList_data] at h
  simp only [Bool.and_eq_true, beq_iff_eq] at h
  obtain ⟨⟨⟨⟨⟨h1, h2⟩, h3⟩, h4⟩, h5⟩, h6⟩ := h
  exact ⟨h1, h2, h3, h4, h5, h6⟩
theorem reqT_inj {a b : Req} (xa : a.op.real < 18446744073709551616) (xb : b.op.real < 18446744073709551616) (ha : rightB a = true) (hb : rightB b = true) (h : reqT a = reqT b) : wholeB a b = true := by
  unfold rightB withinB at ha hb
  simp only [Bool.and_eq_true, decide_eq_true_eq] at ha hb
  have ka := op_bounds ha.2; have kb := op_bounds hb.2
  have la : (keyL a).length ≤ 65535 := by have := size_data a.op.key; unfold keyL; omega
  have lb : (keyL b).length ≤ 65535 := by have := size_data b.op.key; unfold keyL; omega
  unfold reqT at h
  simp only [List.append_assoc] at h
  obtain ⟨_, h⟩ := List.append_inj h rfl
  obtain ⟨e1, h⟩ := List.append_inj h rfl
  obtain ⟨e2, h⟩ := List.append_inj h rfl
  obtain ⟨e3, h⟩ := List.append_inj h rfl
  rw [← List.append_assoc (big2 _), ← List.append_assoc (big2 _)] at h
  obtain ⟨e4, h⟩ := text_inj la lb h
  obtain ⟨e5, e6⟩ := List.append_inj h rfl
  have ca := canon_lt xa; have cb := canon_lt xb
  exact whole_of (big1_inj (by omega) (by omega) e1) (big4_inj (by omega) (by omega) e2) (big1_inj (by omega) (by omega) e3) e4 (big1_inj (by omega) (by omega) e6) (by have := big8_inj (by omega) (by omega) e5; omega)
theorem reqT_head (a : Req) : ∃ t, reqT a = 1 :: t := ⟨_, rfl⟩
theorem reqL_inj {a b : Req} (xa : a.op.real < 18446744073709551616) (xb : b.op.real < 18446744073709551616) (ha : askedB a = true) (hb : askedB b = true) (h : reqL a = reqL b) : wholeB a b = true := by
  unfold askedB at ha hb
  unfold reqL at h
  cases hna : nullB a with
  | true =>
    cases hnb : nullB b with
    | true =>
      unfold nullB noneB at hna hnb
      simp only [Bool.and_eq_true, decide_eq_true_eq] at hna hnb
      have k1 : keyL a = [] := List.eq_nil_of_length_eq_zero (by unfold keyL; rw [size_data]; omega)
      have k2 : keyL b = [] := List.eq_nil_of_length_eq_zero (by unfold keyL; rw [size_data]; omega)
      exact whole_of (by omega) (by omega) (by omega) (by rw [k1, k2]) (by omega) (by omega)
    | false =>
      rw [hnb] at hb; simp at hb
      obtain ⟨t, ht⟩ := reqT_head b
      rw [hna, hnb, hb, ht] at h; simp at h
  | false =>
    rw [hna] at ha; simp at ha
    obtain ⟨t, ht⟩ := reqT_head a
    cases hnb : nullB b with
    | true => rw [hna, hnb, ha, ht] at h; simp at h
    | false =>
      rw [hnb] at hb; simp at hb
      rw [hna, hnb, ha, hb] at h
      simp at h
      exact reqT_inj xa xb ha hb h
def sameT (a b : Req) : Bool := (reqE a == 0) && (reqE b == 0) && ((reqS a).toList == (reqS b).toList)
theorem sameT_whole {a b : Req} (xa : a.op.real < 18446744073709551616) (xb : b.op.real < 18446744073709551616) (h : sameT a b = true) : wholeB a b = true := by
  unfold sameT at h
  simp only [Bool.and_eq_true, beq_iff_eq] at h
  obtain ⟨⟨h1, h2⟩, h3⟩ := h
  have ask : ∀ r : Req, reqE r = 0 → askedB r = true := fun r h => by
    unfold reqE at h; unfold askedB
    cases hn : nullB r <;> cases hr : rightB r <;> simp [hn, hr] at h ⊢
  have h4 : reqS a = reqS b := toList_inj h3
  have h5 : reqL a = reqL b := by
    unfold reqS at h4
    have := congrArg (fun x : ByteArray => x.data.toList) h4
    simpa using this
  exact reqL_inj xa xb (ask a h1) (ask b h2) h5
end Go.Proofs.YtekbonciafbjiaaGreat
