/- Layer 22 in plain words: one log of histories. No program in sight. -/
import Derived.Test.YtekbonciafbjiaaSagaP3
namespace Go.Proofs.Ytekbonciafbjiaa
open F64
set_option linter.unusedVariables false
set_option linter.unusedSimpArgs false

structure En where
  slot : Int
  req : Req
def askedE_ (l : List En) : Bool := l.all (fun x => askedB x.req)
def slotsE_ (l : List En) : Bool := l.all (fun x => decide (1 ≤ x.slot) && decide (x.slot ≤ 244))
def chkE (l : List En) : Int := if askedE_ l = true then (if slotsE_ l = true then 0 else 14) else 1
abbrev Tab := Nat → Option Req
def putE (m : Tab) (x : En) : Tab := fun j => if j = x.slot.toNat then some x.req else m j
def okPut (m : Tab) (x : En) : Bool := match m x.slot.toNat with | some r => sameT r x.req | none => true
def foldE : Tab → List En → Option Tab
  | m, [] => some m
  | m, x :: t => if okPut m x = true then foldE (putE m x) t else none
def mostE (l : List En) : Nat := l.foldl (fun a x => max a x.slot.toNat) 0
def fullT (m : Tab) (n : Nat) : Bool := (List.range n).all (fun j => (m (j + 1)).isSome)
def listT (m : Tab) (n : Nat) : List Req := (List.range n).filterMap (fun j => m (j + 1))
def mergeE (l : List En) : Int := if chkE l = 0 then (match foldE (fun _ => none) l with | none => 22 | some m => if fullT m (mostE l) = true then 0 else 8) else chkE l
def mergeL (l : List En) : List Req := if mergeE l = 0 then (match foldE (fun _ => none) l with | some m => listT m (mostE l) | none => []) else []

/-! What stands in the table. -/
theorem sameT_eqv_symm {a b : Req} (h : sameT a b = true) : sameT b a = true := by
  unfold sameT at h ⊢
  simp only [Bool.and_eq_true, beq_iff_eq] at h ⊢
  exact ⟨⟨h.1.2, h.1.1⟩, h.2.symm⟩
theorem sameT_eqv_trans {a b c : Req} (h : sameT a b = true) (k : sameT b c = true) : sameT a c = true := by
  unfold sameT at h k ⊢
  simp only [Bool.and_eq_true, beq_iff_eq] at h k ⊢
  exact ⟨⟨h.1.1, k.1.2⟩, h.2.trans k.2⟩
/-- All entries of a slot are alike. -/
def Alike (l : List En) : Prop := ∀ x ∈ l, ∀ y ∈ l, x.slot.toNat = y.slot.toNat → sameT x.req y.req = true
/-- The table of entries: each slot's is one of them. -/
structure TabI (m : Tab) (p : List En) : Prop where
  some_ : ∀ j r, m j = some r → ∃ x ∈ p, x.slot.toNat = j ∧ x.req = r
  has : ∀ x ∈ p, ∃ r, m x.slot.toNat = some r
theorem put_I {m : Tab} {p : List En} (h : TabI m p) (x : En) : TabI (putE m x) (p ++ [x]) := by
  refine ⟨fun j r hr => ?_, fun y hy => ?_⟩
  · unfold putE at hr
    split at hr
    · rename_i e
      injection hr with hr
      exact ⟨x, by simp, e.symm, hr⟩
    · obtain ⟨y, hy, e⟩ := h.some_ j r hr
      exact ⟨y, List.mem_append_left _ hy, e⟩
  · unfold putE
    by_cases e : y.slot.toNat = x.slot.toNat
    · exact ⟨x.req, if_pos e⟩
    · rw [if_neg e]
      rcases List.mem_append.1 hy with hy | hy
      · exact h.has y hy
      · simp at hy; subst hy; exact absurd rfl e
theorem fold_I : ∀ (t p : List En) (m : Tab), (∀ x ∈ p ++ t, askedB x.req = true) → Alike p → TabI m p →
    (Alike (p ++ t) → ∃ m', foldE m t = some m' ∧ TabI m' (p ++ t)) ∧ (foldE m t ≠ none → Alike (p ++ t))
  | [], p, m, _, ha, hi => ⟨fun _ => ⟨m, rfl, by simpa using hi⟩, fun _ => by simpa using ha⟩
  | x :: t, p, m, hq, ha, hi => by
    have hx : askedB x.req = true := hq x (by simp)
    have ok_iff : okPut m x = true ↔ ∀ y ∈ p, y.slot.toNat = x.slot.toNat → sameT y.req x.req = true := by
      unfold okPut
      cases hm : m x.slot.toNat with
      | none =>
        refine ⟨fun _ y hy e => ?_, fun _ => rfl⟩
        obtain ⟨r, hr⟩ := hi.has y hy
        rw [e, hm] at hr; cases hr
      | some r =>
        obtain ⟨z, hz, e1, e2⟩ := hi.some_ _ _ hm
        refine ⟨fun h y hy e => ?_, fun h => ?_⟩
        · have h1 := ha y hy z hz (by rw [e, e1])
          rw [e2] at h1
          exact sameT_eqv_trans h1 h
        · have := h z hz e1
          rw [e2] at this; exact this
    have alike_snoc : okPut m x = true → Alike (p ++ [x]) := fun hok a hA b hB e => by
      rcases List.mem_append.1 hA with h1 | h1 <;> rcases List.mem_append.1 hB with h2 | h2
      · exact ha a h1 b h2 e
      · simp at h2; subst h2; exact ok_iff.1 hok a h1 e
      · simp at h1; subst h1; exact sameT_eqv_symm (ok_iff.1 hok b h2 e.symm)
      · simp at h1 h2; subst h1; subst h2; exact sameT_self hx
    have assoc : p ++ x :: t = (p ++ [x]) ++ t := by simp
    unfold foldE
    by_cases hok : okPut m x = true
    · rw [if_pos hok]
      have ih := fold_I t (p ++ [x]) (putE m x) (by rw [← assoc]; exact hq) (alike_snoc hok) (put_I hi x)
      rw [assoc]
      exact ih
    · rw [if_neg hok]
      refine ⟨fun h => ?_, fun h => absurd rfl h⟩
      exfalso
      exact hok (ok_iff.2 (fun y hy e => h y (List.mem_append_left _ hy) x (by simp) e))
theorem fold_spec (l : List En) (hq : ∀ x ∈ l, askedB x.req = true) : (Alike l → ∃ m, foldE (fun _ => none) l = some m ∧ TabI m l) ∧ (foldE (fun _ => none) l ≠ none → Alike l) := by
  have := fold_I l [] (fun _ => none) (by simpa using hq) (fun x hx => absurd hx List.not_mem_nil) ⟨fun j r h => (by cases h), fun x hx => absurd hx List.not_mem_nil⟩
  simpa using this
theorem most_ge : ∀ (l : List En) (a : Nat), a ≤ l.foldl (fun a x => max a x.slot.toNat) a ∧ ∀ x ∈ l, x.slot.toNat ≤ l.foldl (fun a x => max a x.slot.toNat) a
  | [], a => ⟨Nat.le_refl _, fun x hx => absurd hx List.not_mem_nil⟩
  | y :: t, a => by
    obtain ⟨h1, h2⟩ := most_ge t (max a y.slot.toNat)
    simp only [List.foldl_cons]
    refine ⟨by omega, fun x hx => ?_⟩
    rcases List.mem_cons.1 hx with rfl | hx
    · omega
    · exact h2 x hx
theorem most_le : ∀ (l : List En) (a b : Nat), a ≤ b → (∀ x ∈ l, x.slot.toNat ≤ b) → l.foldl (fun a x => max a x.slot.toNat) a ≤ b
  | [], a, b, h, _ => h
  | y :: t, a, b, h, hx => by
    simp only [List.foldl_cons]
    exact most_le t _ b (by have := hx y List.mem_cons_self; omega) (fun x h => hx x (List.mem_cons_of_mem _ h))
/-- What counts of a list is which entries it has. -/
theorem most_same {l k : List En} (h : ∀ x, x ∈ l ↔ x ∈ k) : mostE l = mostE k := by
  refine Nat.le_antisymm ?_ ?_
  · exact most_le l 0 _ (Nat.zero_le _) (fun x hx => (most_ge k 0).2 x ((h x).1 hx))
  · exact most_le k 0 _ (Nat.zero_le _) (fun x hx => (most_ge l 0).2 x ((h x).2 hx))
theorem all_same {p : En → Bool} {l k : List En} (h : ∀ x, x ∈ l ↔ x ∈ k) : l.all p = k.all p := by
  rw [Bool.eq_iff_iff, List.all_eq_true, List.all_eq_true]
  exact ⟨fun f x hx => f x ((h x).2 hx), fun f x hx => f x ((h x).1 hx)⟩
theorem full_iff (m : Tab) (n : Nat) : fullT m n = true ↔ ∀ j, j < n → ∃ r, m (j + 1) = some r := by
  unfold fullT
  rw [List.all_eq_true]
  refine ⟨fun h j hj => Option.isSome_iff_exists.1 (h j (List.mem_range.2 hj)), fun h j hj => ?_⟩
  obtain ⟨r, e⟩ := h j (List.mem_range.1 hj)
  rw [e]; rfl
theorem list_len (m : Tab) : ∀ n, fullT m n = true → (listT m n).length = n := by
  intro n
  induction n with
  | zero => intro _; rfl
  | succ n ih =>
    intro h
    have h' := (full_iff m (n + 1)).1 h
    have hn : fullT m n = true := (full_iff m n).2 (fun j hj => h' j (by omega))
    obtain ⟨r, e⟩ := h' n (by omega)
    unfold listT at ih ⊢
    rw [List.range_succ, List.filterMap_append, List.length_append, ih hn]
    simp [List.filterMap_cons, e]
theorem list_get (m : Tab) : ∀ n j (h : fullT m n = true) (hj : j < n), (listT m n)[j]? = m (j + 1) := by
  intro n
  induction n with
  | zero => intro j _ hj; omega
  | succ n ih =>
    intro j h hj
    have h' := (full_iff m (n + 1)).1 h
    have hn : fullT m n = true := (full_iff m n).2 (fun j hj => h' j (by omega))
    have hl := list_len m n hn
    have e : listT m (n + 1) = listT m n ++ (m (n + 1)).toList := by
      unfold listT
      rw [List.range_succ, List.filterMap_append]
      obtain ⟨r, e⟩ := h' n (by omega)
      simp [List.filterMap_cons, e]
    rw [e]
    by_cases hjn : j < n
    · rw [List.getElem?_append_left (by omega)]; exact ih j hn hjn
    · have : j = n := by omega
      subst this
      rw [List.getElem?_append_right (by omega), hl, Nat.sub_self]
      obtain ⟨r, e⟩ := h' j (by omega)
      rw [e]; rfl
theorem tab_some {m : Tab} {l : List En} (h : TabI m l) (j : Nat) : (∃ r, m j = some r) ↔ ∃ x ∈ l, x.slot.toNat = j :=
  ⟨fun ⟨r, e⟩ => by obtain ⟨x, hx, e1, _⟩ := h.some_ j r e; exact ⟨x, hx, e1⟩, fun ⟨x, hx, e⟩ => by rw [← e]; exact h.has x hx⟩
theorem chk_same {l k : List En} (h : ∀ x, x ∈ l ↔ x ∈ k) : chkE l = chkE k := by
  unfold chkE askedE_ slotsE_
  rw [all_same h, all_same h]
theorem chk_asked {l : List En} (h : chkE l = 0) : ∀ x ∈ l, askedB x.req = true ∧ 1 ≤ x.slot ∧ x.slot ≤ 244 := by
  unfold chkE at h
  split at h
  · rename_i h1
    split at h
    · rename_i h2
      intro x hx
      have a := List.all_eq_true.1 h1 x hx
      have b := List.all_eq_true.1 h2 x hx
      simp only [Bool.and_eq_true, decide_eq_true_eq] at b
      exact ⟨a, b⟩
    · cases h
  · cases h
theorem alike_same {l k : List En} (h : ∀ x, x ∈ l ↔ x ∈ k) : Alike l ↔ Alike k :=
  ⟨fun f x hx y hy => f x ((h x).2 hx) y ((h y).2 hy), fun f x hx y hy => f x ((h x).1 hx) y ((h y).1 hy)⟩
/-- What a log has of its entries. -/
theorem merge_has {l : List En} (h : mergeE l = 0) : ∀ x ∈ l, 1 ≤ x.slot ∧ x.slot ≤ (mergeL l).length ∧ ∃ r, (mergeL l)[(x.slot - 1).toNat]? = some r ∧ sameT r x.req = true := by
  have hc : chkE l = 0 := by
    unfold mergeE at h
    split at h
    · assumption
    · exact h
  have hq := chk_asked hc
  intro x hx
  unfold mergeE at h
  rw [if_pos hc] at h
  obtain ⟨f1, f2⟩ := fold_spec l (fun x hx => (hq x hx).1)
  cases hf : foldE (fun _ => none) l with
  | none => rw [hf] at h; cases h
  | some m =>
    rw [hf] at h
    simp only at h
    have hfull : fullT m (mostE l) = true := by
      by_cases hh : fullT m (mostE l) = true
      · exact hh
      · rw [if_neg hh] at h; cases h
    have hal : Alike l := f2 (by rw [hf]; simp)
    obtain ⟨m', e, hI⟩ := f1 hal
    rw [hf] at e; injection e with e; subst e
    have hL : mergeL l = listT m (mostE l) := by
      unfold mergeL mergeE
      rw [if_pos hc, hf]
      simp only
      rw [if_pos hfull]; rfl
    have hb := (most_ge l 0).2 x hx
    have hlen := list_len m (mostE l) hfull
    obtain ⟨s1, s2⟩ := (hq x hx).2
    rw [hL, hlen]
    refine ⟨s1, ?_, ?_⟩
    · have : x.slot.toNat ≤ mostE l := hb
      omega
    · have : x.slot.toNat ≤ mostE l := hb
      rw [list_get m (mostE l) (x.slot - 1).toNat hfull (by omega), show (x.slot - 1).toNat + 1 = x.slot.toNat by omega]
      obtain ⟨r, e⟩ := hI.has x hx
      obtain ⟨y, hy, e1, e2⟩ := hI.some_ _ _ e
      refine ⟨r, e, ?_⟩
      rw [← e2]
      exact hal y hy x hx e1
/-- The log hangs on no order. -/
theorem merge_same {l k : List En} (h : ∀ x, x ∈ l ↔ x ∈ k) : mergeE l = mergeE k ∧ (mergeE l = 0 → (mergeL l).length = (mergeL k).length ∧ ∀ (j : Nat) (r s : Req), (mergeL l)[j]? = some r → (mergeL k)[j]? = some s → sameT r s = true) := by
  have hck := chk_same h
  by_cases hc : chkE l = 0
  · have hc' : chkE k = 0 := by rw [← hck]; exact hc
    have ql := chk_asked hc; have qk := chk_asked hc'
    obtain ⟨a1, a2⟩ := fold_spec l (fun x hx => (ql x hx).1)
    obtain ⟨b1, b2⟩ := fold_spec k (fun x hx => (qk x hx).1)
    by_cases hal : Alike l
    · have hak := (alike_same h).1 hal
      obtain ⟨m, e1, i1⟩ := a1 hal
      obtain ⟨n, e2, i2⟩ := b1 hak
      have hm := most_same h
      have hf : fullT m (mostE l) = fullT n (mostE k) := by
        rw [Bool.eq_iff_iff, full_iff, full_iff, hm]
        refine ⟨fun f j hj => (tab_some i2 _).2 ?_, fun f j hj => (tab_some i1 _).2 ?_⟩
        · obtain ⟨x, hx, e⟩ := (tab_some i1 _).1 (f j hj)
          exact ⟨x, (h x).1 hx, e⟩
        · obtain ⟨x, hx, e⟩ := (tab_some i2 _).1 (f j hj)
          exact ⟨x, (h x).2 hx, e⟩
      have hE : mergeE l = mergeE k := by
        unfold mergeE
        rw [if_pos hc, if_pos hc', e1, e2]
        simp only
        rw [hf]
      refine ⟨hE, fun h0 => ?_⟩
      have h0' : mergeE k = 0 := by rw [← hE]; exact h0
      have hfull : fullT m (mostE l) = true := by
        unfold mergeE at h0
        rw [if_pos hc, e1] at h0
        simp only at h0
        by_cases hh : fullT m (mostE l) = true
        · exact hh
        · rw [if_neg hh] at h0; cases h0
      have hfull' : fullT n (mostE k) = true := by rw [← hf]; exact hfull
      have L1 : mergeL l = listT m (mostE l) := by unfold mergeL; rw [if_pos h0, e1]
      have L2 : mergeL k = listT n (mostE k) := by unfold mergeL; rw [if_pos h0', e2]
      refine ⟨by rw [L1, L2, list_len _ _ hfull, list_len _ _ hfull', hm], fun j r s hr hs => ?_⟩
      have hj : j < mostE l := by
        have := (List.getElem?_eq_some_iff.1 hr).1
        rw [L1, list_len _ _ hfull] at this; exact this
      rw [L1, list_get m _ j hfull hj] at hr
      rw [L2, list_get n _ j hfull' (by rw [← hm]; exact hj)] at hs
      obtain ⟨x, hx, x1, x2⟩ := i1.some_ _ _ hr
      obtain ⟨y, hy, y1, y2⟩ := i2.some_ _ _ hs
      rw [← x2, ← y2]
      exact hal x hx y ((h y).2 hy) (by rw [x1, y1])
    · have hak : ¬ Alike k := fun e => hal ((alike_same h).2 e)
      have n1 : foldE (fun _ => none) l = none := by
        cases hf : foldE (fun _ => none) l with
        | none => rfl
        | some m => exact absurd (a2 (by rw [hf]; simp)) hal
      have n2 : foldE (fun _ => none) k = none := by
        cases hf : foldE (fun _ => none) k with
        | none => rfl
        | some m => exact absurd (b2 (by rw [hf]; simp)) hak
      have hE : mergeE l = 22 := by unfold mergeE; rw [if_pos hc, n1]
      have hE' : mergeE k = 22 := by unfold mergeE; rw [if_pos hc', n2]
      exact ⟨by rw [hE, hE'], fun h0 => by rw [hE] at h0; cases h0⟩
  · have hc' : ¬ chkE k = 0 := by rw [← hck]; exact hc
    have e1 : mergeE l = chkE l := by unfold mergeE; rw [if_neg hc]
    have e2 : mergeE k = chkE k := by unfold mergeE; rw [if_neg hc']
    exact ⟨by rw [e1, e2, hck], fun h0 => absurd (by rw [← e1]; exact h0) hc⟩
end Go.Proofs.Ytekbonciafbjiaa
