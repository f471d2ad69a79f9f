/- Joined texts: R12P. What each proves stands at its head; no conditions beside those in its theorems. -/
import Derived.Sort.KeysCollected
import Derived.Test.YtfefeepljbfcdaaGreatPjAH
/- Layer 12: a ledger's keys in their order, in plain words. No program in sight. -/
namespace Go.Proofs.YtfefeepljbfcdaaGreat
open F64
set_option linter.unusedVariables false
set_option linter.unusedSimpArgs false
def kl (p : ByteArray × Nat) : List UInt8 := p.1.data.toList
theorem bytes_inj {a b : ByteArray} (h : a.data.toList = b.data.toList) : a = b := by
 cases a; cases b; congr 1; exact Array.toList_inj.1 h
def leK (p q : ByteArray × Nat) : Bool := decide (kl p ≤ kl q)
def sortK (ks : Ks) : Ks := ks.mergeSort leK
def RiseK (l : Ks) : Prop := l.Pairwise (fun p q => kl p < kl q)
def NdK (ks : Ks) : Prop := (ks.map (·.1)).Nodup
theorem sortK_perm (ks : Ks) : (sortK ks).Perm ks := List.mergeSort_perm _ _
theorem sortK_len (ks : Ks) : (sortK ks).length = ks.length := (sortK_perm ks).length_eq
theorem NdK.perm {l ks : Ks} (p : l.Perm ks) (h : NdK ks) : NdK l := (p.map (fun q : ByteArray × Nat => q.1)).nodup_iff.2 h
theorem sortK_rise {ks : Ks} (h : NdK ks) : RiseK (sortK ks) := by
 have tr : ∀ a b c : ByteArray × Nat, leK a b = true → leK b c = true → leK a c = true := fun a b c h1 h2 => by simp only [leK, decide_eq_true_eq] at *; exact List.le_trans h1 h2
 have tot : ∀ a b : ByteArray × Nat, (leK a b || leK b a) = true := fun a b => by simp only [leK, Bool.or_eq_true, decide_eq_true_eq]; exact List.le_total _ _
 have h1 := List.pairwise_mergeSort tr tot ks
 have h2 : NdK (sortK ks) := h.perm (sortK_perm ks)
 have h3 : (sortK ks).Pairwise (fun p q => p.1 ≠ q.1) := List.pairwise_map.1 h2
 refine (h1.and h3).imp fun {p q} hh => ?_
 have e1 : kl p ≤ kl q := by have := hh.1; simp only [leK, decide_eq_true_eq] at this; exact this
 rcases Classical.em (kl p < kl q) with e | e
 ·exact e
 ·exact absurd (bytes_inj (List.le_antisymm e1 (List.not_lt.1 e))) hh.2
theorem rise_unique {l l' : Ks} (h : RiseK l) (h' : RiseK l') (p : l.Perm l') : l = l' :=
 List.Perm.eq_of_pairwise (le := fun p q => kl p < kl q) (fun a b _ _ h1 h2 => absurd (List.lt_trans h1 h2) (List.lt_irrefl _)) h h' p
theorem RiseK.nd {l : Ks} (h : RiseK l) : NdK l := List.pairwise_map.2 (h.imp fun {p q} hh e => by unfold kl at hh; rw [e] at hh; exact List.lt_irrefl _ hh)
theorem sortK_of {ks l : Ks} (h : RiseK l) (p : l.Perm ks) : sortK ks = l := by
 have nd : NdK ks := h.nd.perm p.symm
 exact rise_unique (sortK_rise nd) h ((sortK_perm ks).trans p.symm)
/-! Putting a key. -/
def putGo (k : ByteArray) (x : Nat) : Ks → Bool → Ks
 | [], placed => if placed = true then [] else [(k, x)]
 | p :: t, placed => if placed = false ∧ k.data.toList ≤ kl p then (k, x) :: ((if p.1 ≠ k then [p] else []) ++ putGo k x t true) else (if p.1 ≠ k then [p] else []) ++ putGo k x t placed
theorem putGo_true (k : ByteArray) (x : Nat) : ∀ l, putGo k x l true = delK l k
 | [] => rfl
 | p :: t => by
  unfold putGo
  rw [if_neg (by simp), putGo_true k x t]
  unfold delK
  by_cases h : p.1 = k
  ·rw [if_neg (by simpa using h), List.filter_cons_of_neg (by simpa using h)]; rfl
  ·rw [if_pos h, List.filter_cons_of_pos (by simpa using h)]; rfl
theorem putGo_perm (k : ByteArray) (x : Nat) : ∀ l, (putGo k x l false).Perm ((k, x) :: delK l k)
 | [] => List.Perm.refl _
 | p :: t => by
  unfold putGo
  by_cases h : k.data.toList ≤ kl p
  ·rw [if_pos ⟨rfl, h⟩, putGo_true]
   unfold delK
   by_cases e : p.1 = k
   ·rw [if_neg (by simpa using e), List.filter_cons_of_neg (by simpa using e)]; exact List.Perm.refl _
   ·rw [if_pos e, List.filter_cons_of_pos (by simpa using e)]; exact List.Perm.refl _
  ·have e : p.1 ≠ k := fun e => h (by unfold kl; rw [e]; exact List.le_refl _)
   rw [if_neg (fun q => h q.2), if_pos e]
   have ih := putGo_perm k x t
   unfold delK at *
   rw [List.filter_cons_of_pos (by simpa using e)]
   exact (ih.cons p).trans (List.Perm.swap _ _ _)
theorem mem_delK {ks : Ks} {k : ByteArray} {q : ByteArray × Nat} (h : q ∈ delK ks k) : q ∈ ks ∧ q.1 ≠ k := by
 unfold delK at h
 have := List.mem_filter.1 h
 exact ⟨this.1, by simpa using this.2⟩
theorem putGo_rise (k : ByteArray) (x : Nat) : ∀ l, RiseK l → RiseK (putGo k x l false)
 | [], _ => List.pairwise_singleton _ _
 | p :: t, h => by
  obtain ⟨h1, h2⟩ := List.pairwise_cons.1 h
  unfold putGo
  by_cases hk : k.data.toList ≤ kl p
  ·rw [if_pos ⟨rfl, hk⟩, putGo_true]
   have e : (if p.1 ≠ k then [p] else []) ++ delK t k = delK (p :: t) k := by
    unfold delK
    by_cases e : p.1 = k
    ·rw [if_neg (by simpa using e), List.filter_cons_of_neg (by simpa using e)]; rfl
    ·rw [if_pos e, List.filter_cons_of_pos (by simpa using e)]; rfl
   rw [e]
   refine List.pairwise_cons.2 ⟨fun q hq => ?_, h.filter _⟩
   obtain ⟨hq, hne⟩ := mem_delK hq
   have hle : k.data.toList ≤ kl q := by
    rcases List.mem_cons.1 hq with rfl | hq
    ·exact hk
    ·exact List.le_trans hk (List.le_of_lt (h1 q hq))
   rcases Classical.em (k.data.toList < kl q) with e | e
   ·exact e
   ·exact absurd (bytes_inj (List.le_antisymm hle (List.not_lt.1 e))).symm hne
  ·have e : p.1 ≠ k := fun e => hk (by unfold kl; rw [e]; exact List.le_refl _)
   rw [if_neg (fun q => hk q.2), if_pos e]
   refine List.pairwise_cons.2 ⟨fun q hq => ?_, putGo_rise k x t h2⟩
   rcases List.mem_cons.1 ((putGo_perm k x t).mem_iff.1 hq) with rfl | hq
   ·exact List.not_le.1 hk
   ·exact h1 q (mem_delK hq).1
theorem delK_self {ks : Ks} {k : ByteArray} (h : ∀ p ∈ ks, p.1 ≠ k) : delK ks k = ks := by
 unfold delK
 exact List.filter_eq_self.2 (fun p hp => by simpa using h p hp)
theorem setK_perm {ks : Ks} (nd : NdK ks) (k : ByteArray) (x : Nat) : (setK ks k x).Perm ((k, x) :: delK ks k) := by
 unfold setK
 by_cases hh : hasK ks k = true
 ·rw [if_pos hh]
  have hx : ∃ p ∈ ks, p.1 = k := Classical.byContradiction fun hc => by
   have h0 : getK ks k = none := getK_none.2 (fun p hp e => hc ⟨p, hp, e⟩)
   unfold hasK at hh; rw [h0] at hh; cases hh
  clear hh
  have key : ∀ ks : Ks, NdK ks → (∃ p ∈ ks, p.1 = k) → (ks.map (fun p => if p.1 = k then (k, x) else p)).Perm ((k, x) :: delK ks k) := by
   intro ks
   induction ks with
   | nil => rintro _ ⟨p, hp, _⟩; cases hp
   | cons a t ih =>
    intro nd hx
    have nd' : a.1 ∉ t.map (·.1) ∧ NdK t := by unfold NdK at *; simpa using nd
    by_cases e : a.1 = k
    ·have hn : ∀ p ∈ t, p.1 ≠ k := fun p hp e2 => nd'.1 (List.mem_map.2 ⟨p, hp, by rw [e2, e]⟩)
     have h1 : t.map (fun p => if p.1 = k then (k, x) else p) = t := by
      conv => rhs; rw [← List.map_id t]
      exact List.map_congr_left (fun q hq => by rw [if_neg (hn q hq)]; rfl)
     have h2 : delK (a :: t) k = t := by
      have := delK_self hn
      unfold delK at *
      rw [List.filter_cons_of_neg (by simpa using e)]; exact this
     rw [List.map_cons, if_pos e, h1, h2]
    ·have hx' : ∃ p ∈ t, p.1 = k := by
      obtain ⟨p, hp, he⟩ := hx
      rcases List.mem_cons.1 hp with rfl | hp
      ·exact absurd he e
      ·exact ⟨p, hp, he⟩
     have := ih nd'.2 hx'
     rw [List.map_cons, if_neg e]
     have h2 : delK (a :: t) k = a :: delK t k := by unfold delK; rw [List.filter_cons_of_pos (by simpa using e)]
     rw [h2]
     exact (this.cons a).trans (List.Perm.swap _ _ _)
  exact key ks nd hx
 ·rw [if_neg hh]
  have hn : ∀ p ∈ ks, p.1 ≠ k := getK_none.1 (by unfold hasK at hh; simpa using hh)
  rw [delK_self hn]
  exact List.perm_append_comm
theorem putGo_sort {ks : Ks} (nd : NdK ks) (k : ByteArray) (x : Nat) : putGo k x (sortK ks) false = sortK (setK ks k x) := by
 refine (sortK_of (putGo_rise k x _ (sortK_rise nd)) ?_).symm
 refine (putGo_perm k x _).trans (List.Perm.trans ?_ (setK_perm nd k x).symm)
 exact ((sortK_perm ks).filter _).cons _
theorem cut_sort {ks : Ks} (nd : NdK ks) (k : ByteArray) : delK (sortK ks) k = sortK (delK ks k) :=
 (sortK_of (List.Pairwise.filter _ (sortK_rise nd)) ((sortK_perm ks).filter _)).symm
theorem nd_setK {ks : Ks} (nd : NdK ks) (k : ByteArray) (x : Nat) : NdK (setK ks k x) := by
 have h := putGo_rise k x _ (sortK_rise nd)
 rw [putGo_sort nd] at h
 exact h.nd.perm (sortK_perm _).symm
theorem nd_delK {ks : Ks} (nd : NdK ks) (k : ByteArray) : NdK (delK ks k) := by
 have h : (delK ks k).Sublist ks := by unfold delK; exact List.filter_sublist
 exact List.Sublist.nodup (h.map (fun q : ByteArray × Nat => q.1)) nd
theorem getK_mem {ks : Ks} (nd : NdK ks) {k : ByteArray} {x : Nat} : getK ks k = some x ↔ (k, x) ∈ ks := by
 constructor
 ·intro h
  unfold getK at h
  rw [Option.map_eq_some_iff] at h
  obtain ⟨p, hp, rfl⟩ := h
  have h1 := List.mem_of_find?_eq_some hp
  have h2 := List.find?_some hp
  have : p.1 = k := by simpa using h2
  subst this; exact h1
 ·intro h
  obtain ⟨j, hj, e⟩ := List.getElem_of_mem h
  exact getK_at nd (j := j) (by rw [List.getElem?_eq_getElem hj, e])
theorem getK_perm {l ks : Ks} (p : l.Perm ks) (nd : NdK ks) (k : ByteArray) : getK l k = getK ks k := by
 have nd' : NdK l := nd.perm p
 cases h : getK ks k with
 | none =>
  rw [getK_none] at h ⊢
  exact fun q hq => h q (p.mem_iff.1 hq)
 | some x => exact (getK_mem nd').2 (p.mem_iff.2 ((getK_mem nd).1 h))
/-! Where a key stands. -/
def atK (k : ByteArray) : Ks → Option Nat
 | [] => none
 | p :: t => if p.1 = k then some 0 else (atK k t).map (· + 1)
theorem atK_drop (k : ByteArray) (l : Ks) (i : Nat) (h : i < l.length) : atK k (l.drop i) = if (l[i]).1 = k then some 0 else (atK k (l.drop (i + 1))).map (· + 1) := by
 rw [List.drop_eq_getElem_cons h]; rfl
theorem atK_none {k : ByteArray} : ∀ {l : Ks}, atK k l = none ↔ getK l k = none
 | [] => by simp [atK, getK]
 | p :: t => by
  have ih := atK_none (k := k) (l := t)
  unfold atK
  by_cases e : p.1 = k
  ·rw [if_pos e]
   exact ⟨fun h => (nomatch h), fun h => absurd e (getK_none.1 h p List.mem_cons_self)⟩
  ·rw [if_neg e, getK_none]
   rw [getK_none] at ih
   rw [Option.map_eq_none_iff, ih]
   exact ⟨fun h q hq => by rcases List.mem_cons.1 hq with rfl | hq; exact e; exact h q hq, fun h q hq => h q (List.mem_cons_of_mem _ hq)⟩
theorem atK_some {k : ByteArray} : ∀ {l : Ks} {i : Nat}, atK k l = some i → ∃ h : i < l.length, (l[i]).1 = k
 | p :: t, i, h => by
  unfold atK at h
  by_cases e : p.1 = k
  ·rw [if_pos e] at h
   injection h with h
   subst h
   exact ⟨by simp, e⟩
  ·rw [if_neg e] at h
   cases ho : atK k t with
   | none => rw [ho] at h; cases h
   | some j =>
    rw [ho] at h
    injection h with h
    have h : j + 1 = i := h
    subst h
    obtain ⟨h1, h2⟩ := atK_some ho
    exact ⟨by simp; omega, h2⟩
theorem at_sort {ks : Ks} (nd : NdK ks) {k : ByteArray} {i : Nat} (h : atK k (sortK ks) = some i) : ∃ hi : i < (sortK ks).length, (sortK ks)[i] = (k, valK ks k) ∧ hasK ks k = true := by
 obtain ⟨hi, e⟩ := atK_some h
 have hm : (k, ((sortK ks)[i]).2) ∈ sortK ks := by rw [← e]; exact List.getElem_mem hi
 have hg := (getK_mem nd).2 ((sortK_perm ks).mem_iff.1 hm)
 refine ⟨hi, ?_, by unfold hasK; rw [hg]; rfl⟩
 unfold valK
 rw [hg]
 show _ = (k, ((sortK ks)[i]).2)
 rw [← e]
theorem at_sort_none {ks : Ks} (nd : NdK ks) {k : ByteArray} : atK k (sortK ks) = none ↔ hasK ks k = false := by
 rw [atK_none, getK_perm (sortK_perm ks) nd]
 unfold hasK
 cases getK ks k <;> simp
theorem setK_same {ks : Ks} (nd : NdK ks) {k : ByteArray} (h : hasK ks k = true) : setK ks k (valK ks k) = ks := by
 unfold setK
 rw [if_pos h]
 conv => rhs; rw [← List.map_id ks]
 refine List.map_congr_left (fun q hq => ?_)
 by_cases e : q.1 = k
 ·rw [if_pos e]
  have : getK ks k = some q.2 := (getK_mem nd).2 (by rw [← e]; exact hq)
  unfold valK
  rw [this]
  show (k, q.2) = q
  rw [← e]
 ·rw [if_neg e]; rfl
end Go.Proofs.YtfefeepljbfcdaaGreat
