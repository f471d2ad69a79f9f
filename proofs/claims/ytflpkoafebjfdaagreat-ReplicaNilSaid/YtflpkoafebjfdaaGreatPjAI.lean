/- Joined texts: LedgP, DeedsP, ChangeP. What each proves stands at its head; no conditions beside those in its theorems. -/
import Derived.Test.YtflpkoafebjfdaaGreatPjAA
import Derived.Test.YtflpkoafebjfdaaGreatPjAC
/- Layer 12 (ledger), in plain words: what each call comes to. No program in sight. -/
namespace Go.Proofs.YtflpkoafebjfdaaGreat
open F64
set_option linter.unusedVariables false
set_option linter.unusedSimpArgs false

structure Cl where
  stamp : Int
  code : Int
  real : Nat
structure Lg where
  epoch : Int
  mem : List Int
  next : List Int
  done : Int
  keys : Ks
  cl : Nat → Cl

def newL (xs : List Int) : Lg := ⟨0, xs, xs, 0, [], fun _ => ⟨0, 0, 0⟩⟩
def fullB (g : Lg) : Bool := decide (g.done = (g.epoch + 1) * 4)
def setNext (g : Lg) (n : List Int) : Lg := ⟨g.epoch, g.mem, n, g.done, g.keys, g.cl⟩
def setKeys (g : Lg) (k : Ks) : Lg := ⟨g.epoch, g.mem, g.next, g.done, k, g.cl⟩
def setDone (g : Lg) (d : Int) : Lg := ⟨g.epoch, g.mem, g.next, d, g.keys, g.cl⟩
def setCl (g : Lg) (i : Nat) (c : Cl) : Lg := ⟨g.epoch, g.mem, g.next, g.done, g.keys, fun j => if j = i then c else g.cl j⟩
def moveL (g : Lg) (n : List Int) (e : Int) : Lg := if e = 0 then setNext g n else g
def moveC (e : Int) : Int := if e = 0 then 0 else if e = 7 then 3 else if e = 10 then 6 else if e = 8 then 4 else 5
def applyL (g : Lg) (o : Opn) : Lg :=
  if o.kind = 6 then moveL g (joinL g.next o.id) (joinE g.next o.id)
  else if o.kind = 7 then moveL g (leaveL g.next o.id) (leaveE g.next o.id)
  else if hasK g.keys o.key = true then
    (if o.kind = 1 then setKeys g (setK g.keys o.key (canonN o.real))
     else if o.kind = 2 then setKeys g (setK g.keys o.key (addN (valK g.keys o.key) o.real))
     else if o.kind = 3 then setKeys g (setK g.keys o.key (mostN (valK g.keys o.key) o.real))
     else if o.kind = 4 then setKeys g (delK g.keys o.key)
     else setKeys g (setK g.keys o.key (valK g.keys o.key)))
  else if o.kind = 1 then (if g.keys.length = 16 then g else setKeys g (setK g.keys o.key (canonN o.real)))
  else g
def applyR (g : Lg) (o : Opn) : Rsl :=
  if o.kind = 6 then ⟨moveC (joinE g.next o.id), 0⟩
  else if o.kind = 7 then ⟨moveC (leaveE g.next o.id), 0⟩
  else if hasK g.keys o.key = true then
    (if o.kind = 1 then ⟨0, canonN o.real⟩
     else if o.kind = 2 then ⟨0, addN (valK g.keys o.key) o.real⟩
     else if o.kind = 3 then ⟨0, mostN (valK g.keys o.key) o.real⟩
     else if o.kind = 4 then ⟨0, valK g.keys o.key⟩
     else ⟨0, valK g.keys o.key⟩)
  else if o.kind = 1 then (if g.keys.length = 16 then ⟨2, 0⟩ else ⟨0, canonN o.real⟩)
  else ⟨1, 0⟩
def doE (g : Lg) (r : Req) : Int := if rightB r = false ∧ nullB r = false then 1 else if fullB g = true then 18 else 0
def tick (g : Lg) : Lg := setDone g (g.done + 1)
def idxR (r : Req) : Nat := (r.client - 1).toNat
def doL (g : Lg) (r : Req) : Lg :=
  if doE g r ≠ 0 then g else if nullB r = true then tick g
  else if r.stamp < (g.cl (idxR r)).stamp then tick g
  else if (g.cl (idxR r)).stamp < r.stamp then setCl (applyL (tick g) r.op) (idxR r) ⟨r.stamp, (applyR (tick g) r.op).code, (applyR (tick g) r.op).real⟩
  else tick g
def doR (g : Lg) (r : Req) : Rsl :=
  if doE g r ≠ 0 then ⟨0, 0⟩ else if nullB r = true then ⟨8, 0⟩
  else if r.stamp < (g.cl (idxR r)).stamp then ⟨7, 0⟩
  else if (g.cl (idxR r)).stamp < r.stamp then applyR (tick g) r.op
  else ⟨(g.cl (idxR r)).code, (g.cl (idxR r)).real⟩
def turnE (g : Lg) : Int := if fullB g = false then 18 else if g.epoch = 60 then 3 else 0
def turnL (g : Lg) : Lg := if turnE g = 0 then ⟨g.epoch + 1, g.next, g.next, g.done, g.keys, g.cl⟩ else g

/-- What holds of a ledger at all times. -/
structure Inv (g : Lg) : Prop where
  ep : 0 ≤ g.epoch ∧ g.epoch ≤ 60
  mm : membersB g.mem = true
  mn : membersB g.next = true
  dn : 4 * g.epoch ≤ g.done ∧ g.done ≤ 4 * (g.epoch + 1)
  kl : g.keys.length ≤ 16
  kb : ∀ p ∈ g.keys, 1 ≤ p.1.size ∧ p.1.size ≤ 16 ∧ p.2 < 18446744073709551616 ∧ canonN p.2 = p.2
  cb : ∀ i, 0 ≤ (g.cl i).stamp ∧ (g.cl i).stamp ≤ 1048576 ∧ 0 ≤ (g.cl i).code ∧ (g.cl i).code ≤ 8 ∧ (g.cl i).real < 18446744073709551616 ∧ canonN (g.cl i).real = (g.cl i).real ∧ ((g.cl i).stamp = 0 → (g.cl i).code = 0 ∧ (g.cl i).real = 0)

theorem of_filt {α : Type} {p : α → Bool} {a : α} {l : List α} (h : a ∈ l.filter p) : a ∈ l := (List.mem_filter.1 h).1
theorem canon0 : canonN 0 = 0 := by decide +kernel
theorem inv_new {xs : List Int} (h : membersB xs = true) : Inv (newL xs) where
  ep := by simp [newL]
  mm := h
  mn := h
  dn := by simp [newL]
  kl := by simp [newL]
  kb := by simp [newL]
  cb := fun i => by simp [newL, canon0]
theorem val_ok {g : Lg} (h : Inv g) (k : ByteArray) : valK g.keys k < 18446744073709551616 ∧ canonN (valK g.keys k) = valK g.keys k := by
  unfold valK
  cases hg : getK g.keys k with
  | none => exact ⟨by simp, by simp [canon0]⟩
  | some x =>
    unfold getK at hg
    rw [Option.map_eq_some_iff] at hg
    obtain ⟨p, hp, rfl⟩ := hg
    have := h.kb p (List.mem_of_find?_eq_some hp)
    exact ⟨this.2.2.1, this.2.2.2⟩
theorem join_members {l : List Int} {id : Int} (h : joinE l id = 0) : membersB (joinL l id) = true := by
  have he := h
  unfold joinE at he
  by_cases hf : (membersB l && decide (0 ≤ id) && decide (id < 16)) = true
  · rw [if_pos hf] at he
    have hid : 0 ≤ id ∧ id < 16 := by simp only [Bool.and_eq_true, decide_eq_true_eq] at hf; exact ⟨hf.1.2, hf.2⟩
    have hm : membersB l = true := by simp only [Bool.and_eq_true] at hf; exact hf.1.1
    obtain ⟨m1, m2, m3, m4⟩ := members_facts hm
    cases hh : hasB l id
    · rw [hh] at he
      have h10 : l.length ≠ 10 := by intro e; simp [e] at he
      have hn : id ∉ l := fun hm => by have := (hasB_iff l id).2 hm; rw [hh] at this; cases this
      obtain ⟨s1, s2, s3⟩ := sorted_place l id m2
      have hJ : joinL l id = l.filter (fun x => decide (x < id)) ++ id :: l.filter (fun x => decide (id ≤ x)) := by unfold joinL; rw [if_pos h]
      have hlen : (joinL l id).length = l.length + 1 := by rw [hJ, s2, s3]; simp; omega
      refine members_of ?_ ?_ (by omega) (by omega)
      · intro x hx
        rw [hJ] at hx
        rcases List.mem_append.1 hx with hx | hx
        · exact m1 x (of_filt hx)
        · rcases List.mem_cons.1 hx with rfl | hx
          · exact hid
          · exact m1 x (of_filt hx)
      · rw [hJ, List.pairwise_append]
        refine ⟨m2.filter _, ?_, ?_⟩
        · rw [List.pairwise_cons]
          refine ⟨fun x hx => ?_, m2.filter _⟩
          have := (List.mem_filter.1 hx).2
          have hle : id ≤ x := of_decide_eq_true this
          have hne : x ≠ id := fun e => hn (e ▸ (List.mem_filter.1 hx).1)
          omega
        · intro x hx y hy
          have hx' : x < id := of_decide_eq_true (List.mem_filter.1 hx).2
          rcases List.mem_cons.1 hy with rfl | hy
          · exact hx'
          · have : id ≤ y := of_decide_eq_true (List.mem_filter.1 hy).2
            omega
    · rw [hh] at he; simp at he
  · rw [if_neg hf] at he; cases he
theorem leave_members {l : List Int} {id : Int} (h : leaveE l id = 0) : membersB (leaveL l id) = true := by
  have he := h
  unfold leaveE at he
  by_cases hf : (membersB l && decide (0 ≤ id) && decide (id < 16)) = true
  · rw [if_pos hf] at he
    have hm : membersB l = true := by simp only [Bool.and_eq_true] at hf; exact hf.1.1
    obtain ⟨m1, m2, m3, m4⟩ := members_facts hm
    cases hh : hasB l id
    · rw [hh] at he; simp at he
    · rw [hh] at he
      have h4 : l.length ≠ 4 := by intro e; simp [e] at he
      obtain ⟨k1, k2⟩ := leave_facts l id m2 hh
      have hJ : leaveL l id = l.filter (fun x => x != id) := by unfold leaveL; rw [if_pos h]
      have hlen : (leaveL l id).length = l.length - 1 := by rw [hJ, k2]; simp; omega
      refine members_of ?_ ?_ (by omega) (by omega)
      · intro x hx
        rw [hJ] at hx
        exact m1 x (of_filt hx)
      · rw [hJ]; exact m2.filter _
  · rw [if_neg hf] at he; cases he
theorem inv_next {g : Lg} (h : Inv g) {n : List Int} (hn : membersB n = true) : Inv (setNext g n) := ⟨h.ep, h.mm, hn, h.dn, h.kl, h.kb, h.cb⟩
theorem inv_keys {g : Lg} (h : Inv g) {k : Ks} (hl : k.length ≤ 16) (hk : ∀ p ∈ k, 1 ≤ p.1.size ∧ p.1.size ≤ 16 ∧ p.2 < 18446744073709551616 ∧ canonN p.2 = p.2) : Inv (setKeys g k) := ⟨h.ep, h.mm, h.mn, h.dn, hl, hk, h.cb⟩
theorem inv_put {g : Lg} (h : Inv g) {k : ByteArray} {x : Nat} (hk : 1 ≤ k.size ∧ k.size ≤ 16) (hx : x < 18446744073709551616) (hc : canonN x = x) (hl : hasK g.keys k = true ∨ g.keys.length ≠ 16) : Inv (setKeys g (setK g.keys k x)) := by
  refine inv_keys h ?_ ?_
  · rw [setK_length]
    have := h.kl
    split
    · exact this
    · rename_i hh
      rcases hl with hl | hl
      · exact absurd hl hh
      · omega
  · intro p hp
    rcases mem_setK hp with rfl | hp
    · exact ⟨hk.1, hk.2, hx, hc⟩
    · exact h.kb p hp
theorem inv_apply {g : Lg} (h : Inv g) {o : Opn} (ho : opB o = true) (hx : o.real < 18446744073709551616) : Inv (applyL g o) ∧ 0 ≤ (applyR g o).code ∧ (applyR g o).code ≤ 8 ∧ (applyR g o).real < 18446744073709551616 ∧ canonN (applyR g o).real = (applyR g o).real := by
  have hv := val_ok h o.key
  have mc : ∀ e, 0 ≤ moveC e ∧ moveC e ≤ 8 := by intro e; unfold moveC; (repeat' split) <;> decide
  have hz : (0 : Nat) < 18446744073709551616 := by decide
  have hk : o.kind ≠ 6 → o.kind ≠ 7 → 1 ≤ o.key.size ∧ o.key.size ≤ 16 := by
    intro h6 h7
    have kk : keyB o = true → 1 ≤ o.key.size ∧ o.key.size ≤ 16 := by
      intro hh; unfold keyB at hh; simp only [Bool.and_eq_true, decide_eq_true_eq] at hh; omega
    unfold opB at ho
    split at ho
    · simp only [Bool.and_eq_true] at ho; exact kk ho.2
    · split at ho
      · exact kk ho
      · rw [if_neg (by omega)] at ho; cases ho
  unfold applyL applyR
  by_cases h6 : o.kind = 6
  · rw [if_pos h6, if_pos h6]
    refine ⟨?_, (mc _).1, (mc _).2, hz, canon0⟩
    unfold moveL; split
    · rename_i e; exact inv_next h (join_members e)
    · exact h
  · rw [if_neg h6, if_neg h6]
    by_cases h7 : o.kind = 7
    · rw [if_pos h7, if_pos h7]
      refine ⟨?_, (mc _).1, (mc _).2, hz, canon0⟩
      unfold moveL; split
      · rename_i e; exact inv_next h (leave_members e)
      · exact h
    · rw [if_neg h7, if_neg h7]
      have hks := hk h6 h7
      by_cases hh : hasK g.keys o.key = true
      · rw [if_pos hh, if_pos hh]
        by_cases h1 : o.kind = 1
        · rw [if_pos h1, if_pos h1]
          exact ⟨inv_put h hks (canon_lt hx) (canon_idem _) (.inl hh), by simp, by simp, canon_lt hx, canon_idem _⟩
        · rw [if_neg h1, if_neg h1]
          by_cases h2 : o.kind = 2
          · rw [if_pos h2, if_pos h2]
            exact ⟨inv_put h hks (addN_lt _ _) (canon_addN _ _) (.inl hh), by simp, by simp, addN_lt _ _, canon_addN _ _⟩
          · rw [if_neg h2, if_neg h2]
            by_cases h3 : o.kind = 3
            · rw [if_pos h3, if_pos h3]
              exact ⟨inv_put h hks (mostN_lt hv.1 hx) (canon_mostN _ _) (.inl hh), by simp, by simp, mostN_lt hv.1 hx, canon_mostN _ _⟩
            · rw [if_neg h3, if_neg h3]
              by_cases h4 : o.kind = 4
              · rw [if_pos h4, if_pos h4]
                refine ⟨inv_keys h ?_ (fun p hp => h.kb p (of_filt hp)), by simp, by simp, hv.1, hv.2⟩
                exact Nat.le_trans (List.length_filter_le _ _) h.kl
              · rw [if_neg h4, if_neg h4]
                exact ⟨inv_put h hks hv.1 hv.2 (.inl hh), by simp, by simp, hv.1, hv.2⟩
      · rw [if_neg hh, if_neg hh]
        by_cases h1 : o.kind = 1
        · rw [if_pos h1, if_pos h1]
          by_cases hl : g.keys.length = 16
          · rw [if_pos hl, if_pos hl]; exact ⟨h, by simp, by simp, hz, canon0⟩
          · rw [if_neg hl, if_neg hl]
            exact ⟨inv_put h hks (canon_lt hx) (canon_idem _) (.inr hl), by simp, by simp, canon_lt hx, canon_idem _⟩
        · rw [if_neg h1, if_neg h1]; exact ⟨h, by simp, by simp, hz, canon0⟩
theorem inv_tick {g : Lg} (h : Inv g) (hf : fullB g = false) : Inv (tick g) := by
  have : ¬ g.done = (g.epoch + 1) * 4 := of_decide_eq_false hf
  have := h.dn
  exact ⟨h.ep, h.mm, h.mn, by show 4 * g.epoch ≤ g.done + 1 ∧ g.done + 1 ≤ 4 * (g.epoch + 1); omega, h.kl, h.kb, h.cb⟩
theorem doE_cases {g : Lg} {r : Req} : doE g r = 0 ↔ (rightB r = true ∨ nullB r = true) ∧ fullB g = false := by
  unfold doE
  cases rightB r <;> cases nullB r <;> cases fullB g <;> simp
theorem rightB_facts {r : Req} (h : rightB r = true) : 1 ≤ r.client ∧ r.client ≤ 8 ∧ 1 ≤ r.stamp ∧ r.stamp ≤ 1048576 ∧ opB r.op = true := by
  unfold rightB withinB at h
  simp only [Bool.and_eq_true, decide_eq_true_eq] at h
  obtain ⟨⟨⟨a, b⟩, c, d⟩, e⟩ := h
  exact ⟨a, b, c, d, e⟩
theorem null_not_right {r : Req} (h : nullB r = true) : rightB r = false := by
  cases hr : rightB r
  · rfl
  · have := rightB_facts hr
    unfold nullB at h
    simp only [Bool.and_eq_true, decide_eq_true_eq] at h
    omega
theorem inv_do {g : Lg} (h : Inv g) (r : Req) (hx : r.op.real < 18446744073709551616) : Inv (doL g r) ∧ 0 ≤ (doR g r).code ∧ (doR g r).code ≤ 8 ∧ (doR g r).real < 18446744073709551616 ∧ canonN (doR g r).real = (doR g r).real := by
  have hz : (0 : Nat) < 18446744073709551616 := by decide
  unfold doL doR
  by_cases he : doE g r = 0
  · have he' : ¬ doE g r ≠ 0 := by simp [he]
    rw [if_neg he', if_neg he']
    obtain ⟨hr, hf⟩ := doE_cases.1 he
    have ht := inv_tick h hf
    by_cases hn : nullB r = true
    · rw [if_pos hn, if_pos hn]; exact ⟨ht, by simp, by simp, hz, canon0⟩
    · rw [if_neg hn, if_neg hn]
      have hr := rightB_facts (hr.resolve_right hn)
      by_cases h1 : r.stamp < (g.cl (idxR r)).stamp
      · rw [if_pos h1, if_pos h1]; exact ⟨ht, by simp, by simp, hz, canon0⟩
      · rw [if_neg h1, if_neg h1]
        by_cases h2 : (g.cl (idxR r)).stamp < r.stamp
        · rw [if_pos h2, if_pos h2]
          obtain ⟨a1, a2, a3, a4, a5⟩ := inv_apply ht (o := r.op) hr.2.2.2.2 hx
          refine ⟨⟨a1.ep, a1.mm, a1.mn, a1.dn, a1.kl, a1.kb, ?_⟩, a2, a3, a4, a5⟩
          intro i
          show 0 ≤ (if i = idxR r then _ else _ : Cl).stamp ∧ _
          have := a1.cb i
          unfold setCl
          simp only
          split
          · refine ⟨?_, ?_, a2, a3, a4, a5, ?_⟩ <;> simp only <;> omega
          · exact this
        · rw [if_neg h2, if_neg h2]
          have := h.cb (idxR r)
          exact ⟨ht, this.2.2.1, this.2.2.2.1, this.2.2.2.2.1, this.2.2.2.2.2.1⟩
  · rw [if_pos he, if_pos he]; exact ⟨h, by simp, by simp, hz, canon0⟩
end Go.Proofs.YtflpkoafebjfdaaGreat

/- Texts of layer 11, in plain words. No program in sight. -/
namespace Go.Proofs.YtflpkoafebjfdaaGreat
open F64
set_option linter.unusedVariables false
set_option linter.unusedSimpArgs false

def keyL (r : Req) : List UInt8 := r.op.key.data.toList
def reqT (r : Req) : List UInt8 := big1 1 ++ big1 r.client ++ big4 r.stamp ++ big1 r.op.kind ++ (big2 (keyL r).length ++ keyL r) ++ big8 (canonN r.op.real) ++ big1 r.op.id
def reqW (lim : Int) (r : Req) : Wr := byteW (bitsW (textW (byteW (longW (byteW (byteW (newW lim) 1) r.client) r.stamp) r.op.kind) (keyL r)) (canonN r.op.real)) r.op.id
/-- A request's text, and its error. -/
def reqL (r : Req) : List UInt8 := if nullB r = true then [0] else if rightB r = true then reqT r else []
def reqS (r : Req) : ByteArray := ⟨(reqL r).toArray⟩
def reqE (r : Req) : Int := if nullB r = true then 0 else if rightB r = true then 0 else 1
theorem put_good {W : Wr} (h : W.err = 0) {c : List UInt8} (hc : (c.length : Int) ≤ W.room) : putW W true c = ⟨W.bs ++ c, W.room - c.length, 0⟩ := by
  unfold putW addW
  rw [if_pos h, if_pos rfl, if_neg (by omega), h]
theorem op_bounds {o : Opn} (h : opB o = true) : 0 ≤ o.kind ∧ o.kind ≤ 255 ∧ 0 ≤ o.id ∧ o.id ≤ 255 ∧ o.key.size ≤ 16 := by
  have kk : keyB o = true → o.key.size ≤ 16 ∧ o.id = 0 := by
    intro hh; unfold keyB at hh; simp only [Bool.and_eq_true, decide_eq_true_eq] at hh; exact ⟨hh.1.2, hh.2⟩
  unfold opB at h
  split at h
  · simp only [Bool.and_eq_true] at h
    have := kk h.2; omega
  · split at h
    · have := kk h; omega
    · split at h
      · simp only [Bool.and_eq_true, decide_eq_true_eq] at h; omega
      · cases h
theorem okN_of {n hi : Int} (h0 : 0 ≤ n) (h1 : n ≤ hi) : okN n hi = true := by unfold okN; simp [h0, h1]
theorem reqT_length (r : Req) : ((reqT r).length : Int) = 18 + (keyL r).length := by
  unfold reqT
  simp [big1, big2, big4, big8]
  omega
theorem req_run {r : Req} (h : rightB r = true) {lim : Int} (hl : 35 ≤ lim) : reqW lim r = ⟨reqT r, lim - (reqT r).length, 0⟩ := by
  obtain ⟨h1, h2, h3, h4, h5⟩ := rightB_facts h
  obtain ⟨o1, o2, o3, o4, o5⟩ := op_bounds h5
  have hk : (keyL r).length ≤ 16 := by have : (keyL r).length = r.op.key.size := size_data _; omega
  have hn : newW lim = ⟨[], lim, 0⟩ := by unfold newW; rw [if_pos (by omega)]
  unfold reqW byteW longW textW bitsW
  rw [hn, okN_of (by decide) (by decide), okN_of (by omega) (by omega), okN_of (by omega) (by omega), okN_of o1 o2, okN_of o3 o4, decide_eq_true (by omega : (keyL r).length ≤ 65535)]
  have p1 := put_good (W := ⟨[], lim, 0⟩) rfl (c := big1 1) (by simp [big1]; omega)
  rw [p1]
  have p2 := put_good (W := ⟨[] ++ big1 1, lim - (big1 1).length, 0⟩) rfl (c := big1 r.client) (by simp [big1]; omega)
  rw [p2]
  have p3 := put_good (W := ⟨[] ++ big1 1 ++ big1 r.client, lim - (big1 1).length - (big1 r.client).length, 0⟩) rfl (c := big4 r.stamp) (by simp [big1, big4]; omega)
  rw [p3]
  have p4 := put_good (W := ⟨[] ++ big1 1 ++ big1 r.client ++ big4 r.stamp, lim - (big1 1).length - (big1 r.client).length - (big4 r.stamp).length, 0⟩) rfl (c := big1 r.op.kind) (by simp [big1, big4]; omega)
  rw [p4]
  have p5 := put_good (W := ⟨[] ++ big1 1 ++ big1 r.client ++ big4 r.stamp ++ big1 r.op.kind, lim - (big1 1).length - (big1 r.client).length - (big4 r.stamp).length - (big1 r.op.kind).length, 0⟩) rfl (c := big2 (keyL r).length ++ keyL r) (by simp [big1, big2, big4]; omega)
  rw [p5]
  have p6 := put_good (W := ⟨[] ++ big1 1 ++ big1 r.client ++ big4 r.stamp ++ big1 r.op.kind ++ (big2 (keyL r).length ++ keyL r), lim - (big1 1).length - (big1 r.client).length - (big4 r.stamp).length - (big1 r.op.kind).length - (big2 (keyL r).length ++ keyL r).length, 0⟩) rfl (c := big8 (canonN r.op.real)) (by simp [big1, big2, big4, big8]; omega)
  rw [p6]
  have p7 := put_good (W := ⟨[] ++ big1 1 ++ big1 r.client ++ big4 r.stamp ++ big1 r.op.kind ++ (big2 (keyL r).length ++ keyL r) ++ big8 (canonN r.op.real), lim - (big1 1).length - (big1 r.client).length - (big4 r.stamp).length - (big1 r.op.kind).length - (big2 (keyL r).length ++ keyL r).length - (big8 (canonN r.op.real)).length, 0⟩) rfl (c := big1 r.op.id) (by simp [big1, big2, big4, big8]; omega)
  rw [p7]
  unfold reqT
  congr 1
  simp [big1, big2, big4, big8]
  omega
theorem reqW_ok {r : Req} (h : rightB r = true) {lim : Int} (hl : 35 ≤ lim) : doneS (reqW lim r) = reqS r ∧ (reqW lim r).err = reqE r := by
  have hn : ¬ nullB r = true := fun e => by rw [null_not_right e] at h; cases h
  rw [req_run h hl]
  unfold doneS reqS reqL reqE
  rw [if_pos rfl, if_neg hn, if_pos h, if_neg hn, if_pos h]
  exact ⟨rfl, rfl⟩
/-! ### What is prepared -/
def headW (lim sg a b c : Int) : Wr := longW (longW (longW (byteW (newW lim) sg) a) b) c
def headL (sg a b c : Int) : List UInt8 := big1 sg ++ big4 a ++ big4 b ++ big4 c
def ok32 (a b c : Int) : Bool := okN a 4294967295 && okN b 4294967295 && okN c 4294967295
def prepB (e v s : Int) (r : Req) : Bool := decide (reqE r = 0) && ok32 e v s
def prepL (e v s : Int) (r : Req) : List UInt8 := if prepB e v s r = true then headL 80 e v s ++ reqL r else []
def prepS (e v s : Int) (r : Req) : ByteArray := ⟨(prepL e v s r).toArray⟩
def prepE (e v s : Int) (r : Req) : Int := if prepB e v s r = true then 0 else 1
theorem err_stays {W : Wr} (h : W.err ≠ 0) (ok : Bool) (c : List UInt8) : (putW W ok c).err = W.err := by unfold putW; rw [if_neg h]
theorem head_run {lim sg a b c : Int} (hl : 13 ≤ lim) (hs : 0 ≤ sg ∧ sg ≤ 255) : (ok32 a b c = true → headW lim sg a b c = ⟨headL sg a b c, lim - 13, 0⟩) ∧ (ok32 a b c = false → (headW lim sg a b c).err ≠ 0) := by
  have hn : newW lim = ⟨[], lim, 0⟩ := by unfold newW; rw [if_pos (by omega)]
  have p1 : byteW (newW lim) sg = ⟨big1 sg, lim - 1, 0⟩ := by
    unfold byteW
    rw [hn, okN_of hs.1 hs.2, put_good rfl (by simp [big1]; omega)]
    simp [big1]
  unfold headW ok32
  rw [p1]
  cases h1 : okN a 4294967295
  · refine ⟨fun h => by simp at h, fun _ => ?_⟩
    have e1 : (longW ⟨big1 sg, lim - 1, 0⟩ a).err = 4 := by unfold longW putW; rw [h1]; rfl
    unfold longW at e1 ⊢
    rw [err_stays (by rw [err_stays (by rw [e1]; decide), e1]; decide), err_stays (by rw [e1]; decide), e1]; decide
  · have p2 : longW ⟨big1 sg, lim - 1, 0⟩ a = ⟨big1 sg ++ big4 a, lim - 5, 0⟩ := by
      unfold longW
      rw [h1, put_good rfl (by simp [big4]; omega)]
      simp [big4]; omega
    rw [p2]
    cases h2 : okN b 4294967295
    · refine ⟨fun h => by simp at h, fun _ => ?_⟩
      have e1 : (longW ⟨big1 sg ++ big4 a, lim - 5, 0⟩ b).err = 4 := by unfold longW putW; rw [h2]; rfl
      unfold longW at e1 ⊢
      rw [err_stays (by rw [e1]; decide), e1]; decide
    · have p3 : longW ⟨big1 sg ++ big4 a, lim - 5, 0⟩ b = ⟨big1 sg ++ big4 a ++ big4 b, lim - 9, 0⟩ := by
        unfold longW
        rw [h2, put_good rfl (by simp [big4]; omega)]
        simp [big4]; omega
      rw [p3]
      cases h3 : okN c 4294967295
      · refine ⟨fun h => by simp at h, fun _ => ?_⟩
        have e1 : (longW ⟨big1 sg ++ big4 a ++ big4 b, lim - 9, 0⟩ c).err = 4 := by unfold longW putW; rw [h3]; rfl
        rw [e1]; decide
      · refine ⟨fun _ => ?_, fun h => by simp at h⟩
        unfold longW
        rw [h3, put_good rfl (by simp [big4]; omega)]
        unfold headL
        simp [big4]; omega
end Go.Proofs.YtflpkoafebjfdaaGreat

/- Layer 16 (change), in plain words. No program in sight. -/
namespace Go.Proofs.YtflpkoafebjfdaaGreat
open F64
set_option linter.unusedVariables false
set_option linter.unusedSimpArgs false

structure Ct where
  view : Int
  slot : Int
  req : Req
  sigs : List Sg
structure Ch where
  from_ : Int
  view : Int
  certs : List Ct
  by_ : Int
  text : ByteArray
instance : Inhabited Ct := ⟨⟨0, 0, ⟨0, 0, ⟨0, ByteArray.empty, 0, 0⟩⟩, []⟩⟩
def ctAt (l : List Ct) (j : Nat) : Ct := l.getD j default
theorem ctAt_get {l : List Ct} {j : Nat} (h : j < l.length) : ctAt l j = l[j] := by unfold ctAt; rw [List.getD_eq_getElem?_getD, List.getElem?_eq_getElem h]; rfl
/-- Signers are nodes. -/
def nodesB : List Sg → Bool
  | [] => true
  | s :: t => decide (0 ≤ s.by_) && decide (s.by_ < 200) && nodesB t
theorem nodes_drop (l : List Sg) (i : Nat) (h : i < l.length) : nodesB (l.drop i) = (decide (0 ≤ (sgAt l i).by_) && decide ((sgAt l i).by_ < 200) && nodesB (l.drop (i + 1))) := by
  rw [List.drop_eq_getElem_cons h, sgAt_get h]; rfl
def askedB (r : Req) : Bool := rightB r || nullB r
def slotB (epoch slot : Int) : Bool := decide (epoch * 4 + 1 ≤ slot) && decide (slot < epoch * 4 + 5)
def headB (epoch behind : Int) (x : Ct) : Bool := decide (behind < x.slot) && slotB epoch x.slot && decide (0 ≤ x.view) && decide (x.view ≤ 15) && decide (x.sigs.length ≤ 16)
def fitsB (epoch behind : Int) (x : Ct) : Bool := headB epoch behind x && nodesB x.sigs && askedB x.req
def certsB (epoch : Int) : Int → List Ct → Bool
  | _, [] => true
  | last, x :: t => fitsB epoch last x && certsB epoch x.slot t
def topB (epoch : Int) (c : Ch) : Bool := decide (0 ≤ epoch) && decide (epoch ≤ 60) && decide (0 ≤ c.from_) && decide (c.from_ < 16) && decide (1 ≤ c.view) && decide (c.view ≤ 15) && decide (c.certs.length ≤ 4)
def mayB (epoch : Int) (c : Ch) : Bool := topB epoch c && certsB epoch 0 c.certs

def wSig (W : Wr) (s : Sg) : Wr := textW (byteW W s.by_) s.text.data.toList
def wSigs (W : Wr) (l : List Sg) : Wr := l.foldl wSig W
def wCert (W : Wr) (x : Ct) : Wr := wSigs (byteW (textW (wordW (byteW W x.view) x.slot) (reqL x.req)) x.sigs.length) x.sigs
def wCerts (W : Wr) (l : List Ct) : Wr := l.foldl wCert W
def wTop (epoch : Int) (c : Ch) : Wr := byteW (byteW (byteW (wordW (byteW (newW 65535) 86) epoch) c.from_) c.view) c.certs.length
def chW (epoch : Int) (c : Ch) : Wr := wCerts (wTop epoch c) c.certs
def chS (epoch : Int) (c : Ch) : ByteArray := if mayB epoch c = true then doneS (chW epoch c) else ⟨#[]⟩
def chE (epoch : Int) (c : Ch) : Int := if mayB epoch c = true then (if (chW epoch c).err = 0 then 0 else 3) else 1
theorem wSigs_take (W : Wr) (l : List Sg) (i : Nat) (h : i < l.length) : wSigs W (l.take (i + 1)) = wSig (wSigs W (l.take i)) (sgAt l i) := by
  unfold wSigs
  rw [List.take_succ_eq_append_getElem h, List.foldl_append, sgAt_get h]; rfl
theorem wCerts_take (W : Wr) (l : List Ct) (i : Nat) (h : i < l.length) : wCerts W (l.take (i + 1)) = wCert (wCerts W (l.take i)) (ctAt l i) := by
  unfold wCerts
  rw [List.take_succ_eq_append_getElem h, List.foldl_append, ctAt_get h]; rfl
end Go.Proofs.YtflpkoafebjfdaaGreat
