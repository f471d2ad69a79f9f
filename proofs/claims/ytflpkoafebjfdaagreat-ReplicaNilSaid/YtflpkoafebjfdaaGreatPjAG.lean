/- Joined texts: RelV, RelJ. What each proves stands at its head; no conditions beside those in its theorems. -/
import Derived.Test.YtflpkoafebjfdaaGreatPjAF
/- As XRelS; but what comes behind a writing operation by the program's own order may tell what that operation leaves. -/
namespace Go.Proofs.YtflpkoafebjfdaaGreat
open Go.RowKit
set_option linter.unusedVariables false
set_option linter.unusedSimpArgs false
/-- Which operations come behind operation c in every order. -/
def upAny (ups : List Bool) (o : Oper) : Bool := o.after.toList.any fun e => Region.binds .any e && ups.getD e.on false
def upL (c : Nat) : Nat → List Bool → List Oper → List Bool
  | _, acc, [] => acc
  | i, acc, o :: t => upL c (i + 1) (acc ++ [i == c || upAny acc o]) t
def upB (ops : List Oper) (c i : Nat) : Bool := (upL c 0 [] ops).getD i false
theorem upL_spec {full : List Oper} {listed : Array Bool} {c : Nat} (down : ∀ (i : Nat) (o : Oper), full[i]? = some o → listed.getD i false = true → ∀ e ∈ o.after, Region.binds .any e = true → listed.getD e.on false = true) :
    ∀ (t : List Oper) (i : Nat) (acc : List Bool), acc.length = i → (∀ k, t[k]? = full[i + k]?) → (∀ j, acc.getD j false = true → listed.getD j false = true → listed.getD c false = true) → ∀ j, (upL c i acc t).getD j false = true → listed.getD j false = true → listed.getD c false = true
  | [], _, _, _, _, h => h
  | o :: t, i, acc, hl, ht, h => by
    refine upL_spec down t (i + 1) _ (by simp [hl]) (fun k => by have := ht (k + 1); rw [List.getElem?_cons_succ] at this; rw [this]; congr 1; omega) (fun j hj hlj => ?_)
    by_cases h1 : j < acc.length
    · refine h j ?_ hlj
      rw [List.getD_eq_getElem?_getD, List.getElem?_append_left h1] at hj
      rw [List.getD_eq_getElem?_getD]; exact hj
    · by_cases h2 : j = i
      · subst h2
        rw [List.getD_eq_getElem?_getD, List.getElem?_append_right (by omega), hl, Nat.sub_self] at hj
        simp only [List.getElem?_cons_zero, Option.getD_some, Bool.or_eq_true, beq_iff_eq] at hj
        rcases hj with hj | hj
        · rw [← hj]; exact hlj
        · unfold upAny at hj
          rw [List.any_eq_true] at hj
          obtain ⟨e, he, hb⟩ := hj
          rw [Bool.and_eq_true] at hb
          have he : e ∈ o.after := by simpa using he
          have h0 := ht 0
          rw [List.getElem?_cons_zero] at h0
          exact h e.on hb.2 (down j o (by rw [h0]; rfl) hlj e he hb.1)
      · rw [List.getD_eq_getElem?_getD, List.getElem?_eq_none_iff.2 (by simp; omega)] at hj
        cases hj
theorem up_not {ops : List Oper} {listed : Array Bool} {c j : Nat} (down : ∀ (i : Nat) (o : Oper), ops[i]? = some o → listed.getD i false = true → ∀ e ∈ o.after, Region.binds .any e = true → listed.getD e.on false = true) (hj : listed.getD j false = true) (hc : listed.getD c false = false) : upB ops c j = false := by
  cases h : upB ops c j with
  | false => rfl
  | true =>
    have := upL_spec down ops 0 [] rfl (fun k => by rw [Nat.zero_add]) (fun j h _ => by simp at h) j h hj
    rw [hc] at this; cases this
section
variable {P : Program} {ops : List Oper} {a0 : Act} {w0 : World} {R : Nat → Value → World → Prop} {S1 S2 : Nat → Prop} {c1 c2 : Nat} {St1 St2 : World → Prop}
theorem InvR.putV {listed : Array Bool} {a : Act} {w w' : World} (h : InvR ops a0 w R listed a w) (hd : dstB a0.tmps.size ops = true)
    {i : Nat} {o : Oper} {v : Value} (ho : ops[i]? = some o) (hu : listed.getD i true = false) (hm : ∀ j v, j ≠ i → listed.getD j false = true → R j v w → R j v w') (hv : R i v w') : InvR ops a0 w' R (listed.setIfInBounds i true) (a.put o.dst v) w' := by
  obtain ⟨hd1, hd2⟩ := dstB_spec _ _ hd
  obtain ⟨d, hdd, hdn⟩ := hd1 i o ho
  have hap : ∀ (j : Nat) (p : Oper) d', ops[j]? = some p → j ≠ i → p.dst = some d' → d' ≠ d := fun j p d' hj hji hp e => by
    subst e
    rcases Nat.lt_or_gt_of_ne hji with q | q
    · exact hd2 j i p o q hj ho (hp.trans hdd.symm)
    · exact hd2 i j o p q ho hj (hdd.trans hp.symm)
  have hput : a.put o.dst v = { a with tmps := a.tmps.setIfInBounds d v } := by rw [hdd]; rfl
  rw [hput]
  refine ⟨Ext.refl Non w', by simpa using h.lsize, by simp [h.size], h.defers, fun d' hd' => ?_, fun j p d' hj hl hp => ?_⟩
  · have hne : d ≠ d' := fun e => by
      subst e
      exact hd' i o ho (by
        have hi : i < listed.size := Nat.lt_of_lt_of_le (List.getElem?_eq_some_iff.1 ho).1 h.lsize
        simp [hi]) hdd
    simp only [Array.getElem?_setIfInBounds, if_neg hne]
    refine h.slots d' fun j p hj hl => hd' j p hj ?_
    by_cases hji : i = j
    · subst hji
      have hi : i < listed.size := Nat.lt_of_lt_of_le (List.getElem?_eq_some_iff.1 ho).1 h.lsize
      simp [hi]
    · rw [getD_set_ne false hji]; exact hl
  · by_cases hji : j = i
    · subst hji
      have hpo : p = o := Option.some.inj (hj.symm.trans ho)
      subst hpo
      have : d' = d := Option.some.inj (hp.symm.trans hdd)
      subst this
      have e : (a.tmps.setIfInBounds d' v).getD d' undef = v := by simp [h.size, hdn]
      show R j ((a.tmps.setIfInBounds d' v).getD d' undef) w'
      rw [e]; exact hv
    · have hne := hap j p d' hj hji hp
      rw [getD_set_ne false (fun e => hji e.symm)] at hl
      have e : (a.tmps.setIfInBounds d v).getD d' undef = a.tmps.getD d' undef := by simp [Array.getElem?_setIfInBounds, Ne.symm hne]
      show R j ((a.tmps.setIfInBounds d v).getD d' undef) w'
      rw [e]
      exact hm _ _ hji hl (h.done j p d' hj hl hp)
structure InvV (ops : List Oper) (a0 : Act) (w0 : World) (R : Nat → Value → World → Prop) (S1 : Nat → Prop) (c1 : Nat) (St1 : World → Prop) (S2 : Nat → Prop) (c2 : Nat) (St2 : World → Prop) (listed : Array Bool) (a : Act) (w : World) : Prop where
  ext : Ext (Or2 S1 S2) w0 w
  st1 : listed.getD c1 false = false → St1 w
  st2 : listed.getD c2 false = false → St2 w
  down : ∀ (i : Nat) (o : Oper), ops[i]? = some o → listed.getD i false = true → ∀ e ∈ o.after, Region.binds .any e = true → listed.getD e.on false = true
  inv : InvR ops a0 w R listed a w
theorem InvV.put {listed : Array Bool} {a : Act} {w w' : World} (h : InvV ops a0 w0 R S1 c1 St1 S2 c2 St2 listed a w) (hd : dstB a0.tmps.size ops = true) (hmono : ∀ i v w w', Ext Non w w' → R i v w → R i v w') (hm1 : ∀ i, i ≠ c1 → upB ops c1 i = false → ∀ v w w', Ext S1 w w' → R i v w → R i v w') (hm2 : ∀ i, i ≠ c2 → upB ops c2 i = false → ∀ v w w', Ext S2 w w' → R i v w → R i v w') (hs10 : ∀ w w', Ext Non w w' → St1 w → St1 w') (hs12 : ∀ w w', Ext S2 w w' → St1 w → St1 w') (hs20 : ∀ w w', Ext Non w w' → St2 w → St2 w') (hs21 : ∀ w w', Ext S1 w w' → St2 w → St2 w') (hne : c1 ≠ c2)
    {i : Nat} {o : Oper} {v : Value} (ho : ops[i]? = some o) (hu : listed.getD i true = false) (hall : ∀ e ∈ o.after, Region.binds .any e = true → listed.getD e.on false = true) (x : Ext (Fp S1 c1 S2 c2 i) w w') (hv : R i v w') : InvV ops a0 w0 R S1 c1 St1 S2 c2 St2 (listed.setIfInBounds i true) (a.put o.dst v) w' := by
  have hi : i < listed.size := Nat.lt_of_lt_of_le (List.getElem?_eq_some_iff.1 ho).1 h.inv.lsize
  refine ⟨h.ext.trans (Fp.toS x), fun hl => ?_, fun hl => ?_, fun j p hj hl e he hb => ?_, h.inv.putV hd ho hu (fun j u hj hlj hr => ?_) hv⟩
  · by_cases e : i = c1
    · exfalso
      subst e
      simp [hi] at hl
    · rw [getD_set_ne false e] at hl
      by_cases e2 : i = c2
      · exact hs12 _ _ (Fp.toTwo e x) (h.st1 hl)
      · exact hs10 _ _ (Fp.toNon e e2 x) (h.st1 hl)
  · by_cases e : i = c2
    · exfalso
      subst e
      simp [hi] at hl
    · rw [getD_set_ne false e] at hl
      by_cases e2 : i = c1
      · exact hs21 _ _ (Fp.toOne e x) (h.st2 hl)
      · exact hs20 _ _ (Fp.toNon e2 e x) (h.st2 hl)
  · have keep : listed.getD e.on false = true → (listed.setIfInBounds i true).getD e.on false = true := fun q => by
      by_cases z : i = e.on
      · rw [← z]; simp [hi]
      · rw [getD_set_ne false z]; exact q
    by_cases q : i = j
    · subst q
      have hpo : p = o := Option.some.inj (hj.symm.trans ho)
      subst hpo
      exact keep (hall e he hb)
    · rw [getD_set_ne false q] at hl
      exact keep (h.down j p hj hl e he hb)
  · by_cases e : i = c1
    · exact hm1 j (fun q => hj (q.trans e.symm)) (up_not h.down hlj (by rw [← e]; exact getD_false_of hu)) _ _ _ (Fp.toOne (fun q => hne (e.symm.trans q)) x) hr
    · by_cases e2 : i = c2
      · exact hm2 j (fun q => hj (q.trans e2.symm)) (up_not h.down hlj (by rw [← e2]; exact getD_false_of hu)) _ _ _ (Fp.toTwo e x) hr
      · exact hmono _ _ _ _ (Fp.toNon e e2 x) hr
end
def StillV (ops : List Oper) (S : Nat → Prop) (c : Nat) : Nat → List Mo → Prop
  | _, [] => True
  | i, m :: t => (i = c ∨ upB ops c i = true ∨ m.Still S) ∧ StillV ops S c (i + 1) t
theorem StillV.get {ops : List Oper} {S : Nat → Prop} {c : Nat} : ∀ (l : List Mo) (k : Nat), StillV ops S c k l → ∀ i, k + i ≠ c → upB ops c (k + i) = false → (l.getD i Mo.any).Still S
  | [], _, _, i, _, _ => fun _ _ _ _ h => by simp at h ⊢; exact trivial
  | m :: t, k, hs, i, hi, hu => by
    cases i with
    | zero => exact (hs.1.resolve_left hi).resolve_left (by rw [Nat.add_zero] at hu; rw [hu]; decide)
    | succ i => exact StillV.get t (k + 1) hs.2 i (by omega) (by rw [show k + 1 + i = k + (i + 1) by omega]; exact hu)
end Go.Proofs.YtflpkoafebjfdaaGreat

/- As XRelV, with a predicate J of worlds that stands at all times (what operation c1 leaves tells it anew) and is told to every operation. Printed by wip/genrelj.py. -/
namespace Go.Proofs.YtflpkoafebjfdaaGreat
open Go.RowKit
set_option linter.unusedVariables false
section
variable {P : Program} {ops : List Oper} {a0 : Act} {w0 : World} {R : Nat → Value → World → Prop} {S1 S2 : Nat → Prop} {c1 c2 : Nat} {St1 St2 : World → Prop} {J : World → Prop}
/-- What is asked of each operation. -/
def StepJ (P : Program) (full ops : List Oper) (a0 : Act) (w0 : World) (R : Nat → Value → World → Prop) (S1 : Nat → Prop) (c1 : Nat) (St1 : World → Prop) (S2 : Nat → Prop) (c2 : Nat) (St2 : World → Prop) (J : World → Prop) : Prop :=
  ∀ (i : Nat) (o : Oper), ops[i]? = some o → ∀ a w, Ext (Or2 S1 S2) w0 w → J w → (i = c1 → St1 w) → (i = c2 → St2 w) → (∀ d, (∀ (j : Nat) (p : Oper), ops[j]? = some p → p.dst ≠ some d) → a.tmps[d]? = a0.tmps[d]?) →
    (∀ e ∈ o.after, Region.binds .any e = true → ∀ (p : Oper) d, ops[e.on]? = some p → p.dst = some d → R e.on (a.tmps.getD d undef) w) →
    (Region.wanted o (yielded full.toArray a.tmps) = true ∧ relAtT P (Fp S1 c1 S2 c2 i) o a w (R i)) ∨ (Region.wanted o (yielded full.toArray a.tmps) = false ∧ R i undef w)
/-- What is asked of one operation that is not the call. -/
def StepNJ (P : Program) (full ops : List Oper) (a0 : Act) (w0 : World) (R : Nat → Value → World → Prop) (C : Nat → Prop) (J : World → Prop) (i : Nat) (o : Oper) : Prop :=
  ∀ a w, Ext C w0 w → J w → (∀ d, ops.all (fun p => p.dst != some d) = true → a.tmps[d]?.getD undef = a0.tmps[d]?.getD undef) →
    (∀ j d, o.after.toList.any (fun e => e.on == j && Region.binds .any e) = true → (ops[j]?).bind (·.dst) = some d → R j (a.tmps[d]?.getD undef) w) →
    (Region.wanted o (yielded full.toArray a.tmps) = true ∧ relAt P o a w (R i)) ∨ (Region.wanted o (yielded full.toArray a.tmps) = false ∧ R i undef w)
/-- What is asked of the call. -/
def StepXJ (P : Program) (full ops : List Oper) (a0 : Act) (w0 : World) (R : Nat → Value → World → Prop) (C S : Nat → Prop) (St : World → Prop) (J : World → Prop) (i : Nat) (o : Oper) : Prop :=
  ∀ a w, Ext C w0 w → J w → St w → (∀ d, ops.all (fun p => p.dst != some d) = true → a.tmps[d]?.getD undef = a0.tmps[d]?.getD undef) →
    (∀ j d, o.after.toList.any (fun e => e.on == j && Region.binds .any e) = true → (ops[j]?).bind (·.dst) = some d → R j (a.tmps[d]?.getD undef) w) →
    Region.wanted o (yielded full.toArray a.tmps) = true ∧ relAtT P S o a w (R i)
def StepJD (P : Program) (full ops : List Oper) (a0 : Act) (w0 : World) (R : Nat → Value → World → Prop) (S1 : Nat → Prop) (c1 : Nat) (St1 : World → Prop) (S2 : Nat → Prop) (c2 : Nat) (St2 : World → Prop) (J : World → Prop) : Nat → List Oper → Prop
  | _, [] => True
  | i, o :: t => ((i ≠ c1 ∧ i ≠ c2 ∧ StepNJ P full ops a0 w0 R (Or2 S1 S2) J i o) ∨ (i = c1 ∧ StepXJ P full ops a0 w0 R (Or2 S1 S2) S1 St1 J i o) ∨ (i = c2 ∧ StepXJ P full ops a0 w0 R (Or2 S1 S2) S2 St2 J i o)) ∧ StepJD P full ops a0 w0 R S1 c1 St1 S2 c2 St2 J (i + 1) t
theorem StepJD.get {full : List Oper} : ∀ (l : List Oper) (k : Nat), StepJD P full ops a0 w0 R S1 c1 St1 S2 c2 St2 J k l → ∀ (i : Nat) (o : Oper), l[i]? = some o → (k + i ≠ c1 ∧ k + i ≠ c2 ∧ StepNJ P full ops a0 w0 R (Or2 S1 S2) J (k + i) o) ∨ (k + i = c1 ∧ StepXJ P full ops a0 w0 R (Or2 S1 S2) S1 St1 J (k + i) o) ∨ (k + i = c2 ∧ StepXJ P full ops a0 w0 R (Or2 S1 S2) S2 St2 J (k + i) o)
  | [], _, _, i, o, h => by simp at h
  | p :: t, k, hs, i, o, h => by
    cases i with
    | zero => simp at h; subst h; exact hs.1
    | succ i =>
      have := StepJD.get t (k + 1) hs.2 i o (by simpa using h)
      rwa [show k + 1 + i = k + (i + 1) by omega] at this
theorem StepJD.all {full : List Oper} (hne : c1 ≠ c2) (h : StepJD P full ops a0 w0 R S1 c1 St1 S2 c2 St2 J 0 ops) : StepJ P full ops a0 w0 R S1 c1 St1 S2 c2 St2 J := fun i o ho a w hx jw hst1 hst2 hs hd => by
  have := StepJD.get ops 0 h i o ho
  rw [Nat.zero_add] at this
  have h1 : ∀ d, ops.all (fun p => p.dst != some d) = true → a.tmps[d]?.getD undef = a0.tmps[d]?.getD undef := fun d hd' => by
    have e := hs d (fun j p hj e => by
      have := List.all_eq_true.1 hd' p (List.mem_of_getElem? hj)
      rw [e] at this; simp at this)
    rw [e]
  have h2 : ∀ j d, o.after.toList.any (fun e => e.on == j && Region.binds .any e) = true → (ops[j]?).bind (·.dst) = some d → R j (a.tmps[d]?.getD undef) w := fun j d hb hj => by
    rw [List.any_eq_true] at hb
    obtain ⟨e, he, hb⟩ := hb
    have he : e ∈ o.after := by simpa using he
    simp only [Bool.and_eq_true, beq_iff_eq] at hb
    cases hp : ops[j]? with
    | none => rw [hp] at hj; cases hj
    | some p =>
      rw [hp] at hj
      have := hd e he hb.2 p d (by rw [hb.1]; exact hp) hj
      rw [hb.1, Array.getD_eq_getD_getElem?] at this
      exact this
  rcases this with ⟨_, _, q⟩ | ⟨e, q⟩ | ⟨e, q⟩
  · rcases q a w hx jw h1 h2 with ⟨z1, z2⟩ | z
    · exact .inl ⟨z1, z2.toT⟩
    · exact .inr z
  · subst e
    obtain ⟨z1, z2⟩ := q a w hx jw (hst1 rfl) h1 h2
    refine .inl ⟨z1, ?_⟩
    have e : Fp S1 i S2 c2 i = S1 := by funext k; unfold Fp; simp [hne]
    rw [e]; exact z2
  · subst e
    obtain ⟨z1, z2⟩ := q a w hx jw (hst2 rfl) h1 h2
    refine .inl ⟨z1, ?_⟩
    have e : Fp S1 c1 S2 i i = S2 := by funext k; unfold Fp; simp [Ne.symm hne]
    rw [e]; exact z2
end
end Go.Proofs.YtflpkoafebjfdaaGreat
