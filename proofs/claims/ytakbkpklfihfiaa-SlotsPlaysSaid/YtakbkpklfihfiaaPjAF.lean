/- Joined texts: RelV. What each proves stands at its head; no conditions beside those in its theorems. -/
import Derived.Test.YtakbkpklfihfiaaPjAE
/- As XRelS; but what comes behind a writing operation by the program's own order may tell what that operation leaves. -/
namespace Go.Proofs.Ytakbkpklfihfiaa
open Go.RowKit
set_option linter.unusedVariables false
set_option linter.unusedSimpArgs false
/-- Which operations come behind operation c in every order. -/
def upAny (ups : List Bool) (o : Oper) : Bool := o.after.toList.any fun e => Region.binds .any e && ups.getD e.on false
def upL (c : Nat) : Nat → List Bool → List Oper → List Bool
  | _, acc, [] => acc
  | i, acc, o :: t => upL c (i + 1) (acc ++ [i == c || upAny acc o]) t
def upB (ops : List Oper) (c i : Nat) : Bool := (upL c 0 [] ops).getD i false
theorem upL_spec {full : List Oper} {listed : Array Bool} {c : Nat} (down : ∀ (i : Nat) (o : Oper), full[i]? = some o → listed.getD i false = true → ∀ e ∈ o.after, Region.binds .any e = true → listed.getD e.on false = true) :
    ∀ (t : List Oper) (i : Nat) (acc : List Bool), acc.length = i → (∀ k, t[k]? = full[i + k]?) → (∀ j, acc.getD j false = true → listed.getD j false = true → listed.getD c false = true) → ∀ j, (upL c i acc t).getD j false = true → listed.getD j false = true → listed.getD c false = true
  | [], _, _, _, _, h => h
  | o :: t, i, acc, hl, ht, h => by
    refine upL_spec down t (i + 1) _ (by simp [hl]) (fun k => by have := ht (k + 1); rw [List.getElem?_cons_succ] at this; rw [this]; congr 1; omega) (fun j hj hlj => ?_)
    by_cases h1 : j < acc.length
    · refine h j ?_ hlj
      rw [List.getD_eq_getElem?_getD, List.getElem?_append_left h1] at hj
      rw [List.getD_eq_getElem?_getD]; exact hj
    · by_cases h2 : j = i
      · subst h2
        rw [List.getD_eq_getElem?_getD, List.getElem?_append_right (by omega), hl, Nat.sub_self] at hj
        simp only [List.getElem?_cons_zero, Option.getD_some, Bool.or_eq_true, beq_iff_eq] at hj
        rcases hj with hj | hj
        · rw [← hj]; exact hlj
        · unfold upAny at hj
          rw [List.any_eq_true] at hj
          obtain ⟨e, he, hb⟩ := hj
          rw [Bool.and_eq_true] at hb
          have he : e ∈ o.after := by simpa using he
          have h0 := ht 0
          rw [List.getElem?_cons_zero] at h0
          exact h e.on hb.2 (down j o (by rw [h0]; rfl) hlj e he hb.1)
      · rw [List.getD_eq_getElem?_getD, List.getElem?_eq_none_iff.2 (by simp; omega)] at hj
        cases hj
theorem up_not {ops : List Oper} {listed : Array Bool} {c j : Nat} (down : ∀ (i : Nat) (o : Oper), ops[i]? = some o → listed.getD i false = true → ∀ e ∈ o.after, Region.binds .any e = true → listed.getD e.on false = true) (hj : listed.getD j false = true) (hc : listed.getD c false = false) : upB ops c j = false := by
  cases h : upB ops c j with
  | false => rfl
  | true =>
    have := upL_spec down ops 0 [] rfl (fun k => by rw [Nat.zero_add]) (fun j h _ => by simp at h) j h hj
    rw [hc] at this; cases this
section
variable {P : Program} {ops : List Oper} {a0 : Act} {w0 : World} {R : Nat → Value → World → Prop} {S1 S2 : Nat → Prop} {c1 c2 : Nat} {St1 St2 : World → Prop}
theorem InvR.putV {listed : Array Bool} {a : Act} {w w' : World} (h : InvR ops a0 w R listed a w) (hd : dstB a0.tmps.size ops = true)
    {i : Nat} {o : Oper} {v : Value} (ho : ops[i]? = some o) (hu : listed.getD i true = false) (hm : ∀ j v, j ≠ i → listed.getD j false = true → R j v w → R j v w') (hv : R i v w') : InvR ops a0 w' R (listed.setIfInBounds i true) (a.put o.dst v) w' := by
  obtain ⟨hd1, hd2⟩ := dstB_spec _ _ hd
  obtain ⟨d, hdd, hdn⟩ := hd1 i o ho
  have hap : ∀ (j : Nat) (p : Oper) d', ops[j]? = some p → j ≠ i → p.dst = some d' → d' ≠ d := fun j p d' hj hji hp e => by
    subst e
    rcases Nat.lt_or_gt_of_ne hji with q | q
    · exact hd2 j i p o q hj ho (hp.trans hdd.symm)
    · exact hd2 i j o p q ho hj (hdd.trans hp.symm)
  have hput : a.put o.dst v = { a with tmps := a.tmps.setIfInBounds d v } := by rw [hdd]; rfl
  rw [hput]
  refine ⟨Ext.refl Non w', by simpa using h.lsize, by simp [h.size], h.defers, fun d' hd' => ?_, fun j p d' hj hl hp => ?_⟩
  · have hne : d ≠ d' := fun e => by
      subst e
      exact hd' i o ho (by
        have hi : i < listed.size := Nat.lt_of_lt_of_le (List.getElem?_eq_some_iff.1 ho).1 h.lsize
        simp [hi]) hdd
    simp only [Array.getElem?_setIfInBounds, if_neg hne]
    refine h.slots d' fun j p hj hl => hd' j p hj ?_
    by_cases hji : i = j
    · subst hji
      have hi : i < listed.size := Nat.lt_of_lt_of_le (List.getElem?_eq_some_iff.1 ho).1 h.lsize
      simp [hi]
    · rw [getD_set_ne false hji]; exact hl
  · by_cases hji : j = i
    · subst hji
      have hpo : p = o := Option.some.inj (hj.symm.trans ho)
      subst hpo
      have : d' = d := Option.some.inj (hp.symm.trans hdd)
      subst this
      have e : (a.tmps.setIfInBounds d' v).getD d' undef = v := by simp [h.size, hdn]
      show R j ((a.tmps.setIfInBounds d' v).getD d' undef) w'
      rw [e]; exact hv
    · have hne := hap j p d' hj hji hp
      rw [getD_set_ne false (fun e => hji e.symm)] at hl
      have e : (a.tmps.setIfInBounds d v).getD d' undef = a.tmps.getD d' undef := by simp [Array.getElem?_setIfInBounds, Ne.symm hne]
      show R j ((a.tmps.setIfInBounds d v).getD d' undef) w'
      rw [e]
      exact hm _ _ hji hl (h.done j p d' hj hl hp)
structure InvV (ops : List Oper) (a0 : Act) (w0 : World) (R : Nat → Value → World → Prop) (S1 : Nat → Prop) (c1 : Nat) (St1 : World → Prop) (S2 : Nat → Prop) (c2 : Nat) (St2 : World → Prop) (listed : Array Bool) (a : Act) (w : World) : Prop where
  ext : Ext (Or2 S1 S2) w0 w
  st1 : listed.getD c1 false = false → St1 w
  st2 : listed.getD c2 false = false → St2 w
  down : ∀ (i : Nat) (o : Oper), ops[i]? = some o → listed.getD i false = true → ∀ e ∈ o.after, Region.binds .any e = true → listed.getD e.on false = true
  inv : InvR ops a0 w R listed a w
theorem InvV.put {listed : Array Bool} {a : Act} {w w' : World} (h : InvV ops a0 w0 R S1 c1 St1 S2 c2 St2 listed a w) (hd : dstB a0.tmps.size ops = true) (hmono : ∀ i v w w', Ext Non w w' → R i v w → R i v w') (hm1 : ∀ i, i ≠ c1 → upB ops c1 i = false → ∀ v w w', Ext S1 w w' → R i v w → R i v w') (hm2 : ∀ i, i ≠ c2 → upB ops c2 i = false → ∀ v w w', Ext S2 w w' → R i v w → R i v w') (hs10 : ∀ w w', Ext Non w w' → St1 w → St1 w') (hs12 : ∀ w w', Ext S2 w w' → St1 w → St1 w') (hs20 : ∀ w w', Ext Non w w' → St2 w → St2 w') (hs21 : ∀ w w', Ext S1 w w' → St2 w → St2 w') (hne : c1 ≠ c2)
    {i : Nat} {o : Oper} {v : Value} (ho : ops[i]? = some o) (hu : listed.getD i true = false) (hall : ∀ e ∈ o.after, Region.binds .any e = true → listed.getD e.on false = true) (x : Ext (Fp S1 c1 S2 c2 i) w w') (hv : R i v w') : InvV ops a0 w0 R S1 c1 St1 S2 c2 St2 (listed.setIfInBounds i true) (a.put o.dst v) w' := by
  have hi : i < listed.size := Nat.lt_of_lt_of_le (List.getElem?_eq_some_iff.1 ho).1 h.inv.lsize
  refine ⟨h.ext.trans (Fp.toS x), fun hl => ?_, fun hl => ?_, fun j p hj hl e he hb => ?_, h.inv.putV hd ho hu (fun j u hj hlj hr => ?_) hv⟩
  · by_cases e : i = c1
    · exfalso
      subst e
      simp [hi] at hl
    · rw [getD_set_ne false e] at hl
      by_cases e2 : i = c2
      · exact hs12 _ _ (Fp.toTwo e x) (h.st1 hl)
      · exact hs10 _ _ (Fp.toNon e e2 x) (h.st1 hl)
  · by_cases e : i = c2
    · exfalso
      subst e
      simp [hi] at hl
    · rw [getD_set_ne false e] at hl
      by_cases e2 : i = c1
      · exact hs21 _ _ (Fp.toOne e x) (h.st2 hl)
      · exact hs20 _ _ (Fp.toNon e2 e x) (h.st2 hl)
  · have keep : listed.getD e.on false = true → (listed.setIfInBounds i true).getD e.on false = true := fun q => by
      by_cases z : i = e.on
      · rw [← z]; simp [hi]
      · rw [getD_set_ne false z]; exact q
    by_cases q : i = j
    · subst q
      have hpo : p = o := Option.some.inj (hj.symm.trans ho)
      subst hpo
      exact keep (hall e he hb)
    · rw [getD_set_ne false q] at hl
      exact keep (h.down j p hj hl e he hb)
  · by_cases e : i = c1
    · exact hm1 j (fun q => hj (q.trans e.symm)) (up_not h.down hlj (by rw [← e]; exact getD_false_of hu)) _ _ _ (Fp.toOne (fun q => hne (e.symm.trans q)) x) hr
    · by_cases e2 : i = c2
      · exact hm2 j (fun q => hj (q.trans e2.symm)) (up_not h.down hlj (by rw [← e2]; exact getD_false_of hu)) _ _ _ (Fp.toTwo e x) hr
      · exact hmono _ _ _ _ (Fp.toNon e e2 x) hr
theorem wp_region_wv_tail {id : Nat} {Q : Exit → Act → World → Prop} {a : Act} {w : World} {l : List Oper} (n : Nat) (R : Nat → Value → World → Prop) (hm : P.follows .mixedOrders = true) (ht : topoB (l.take n) 0 (l.take n) = true) (hd : dstB a.tmps.size (l.take n) = true)
    (hs : Region.sinkB .any l.toArray n = true) (hc : Region.chainB .any l.toArray n = true) (hn : n < l.length) (hseq : Region.seqB .any l.toArray (l.length - n) n (headArr l.length n) = true)
    (hmono : ∀ i v w w', Ext Non w w' → R i v w → R i v w') (hm1 : ∀ i, i ≠ c1 → upB (l.take n) c1 i = false → ∀ v w w', Ext S1 w w' → R i v w → R i v w') (hm2 : ∀ i, i ≠ c2 → upB (l.take n) c2 i = false → ∀ v w w', Ext S2 w w' → R i v w → R i v w') (hs10 : ∀ w w', Ext Non w w' → St1 w → St1 w') (hs12 : ∀ w w', Ext S2 w w' → St1 w → St1 w') (hs20 : ∀ w w', Ext Non w w' → St2 w → St2 w') (hs21 : ∀ w w', Ext S1 w w' → St2 w → St2 w') (hne : c1 ≠ c2) (ht1 : St1 w) (ht2 : St2 w) (hstep : StepW P l (l.take n) a w R S1 c1 St1 S2 c2 St2)
    (hQ : ∀ (vs : Nat → Value) w', Ext (Or2 S1 S2) w w' → (∀ i, i < n → R i (vs i) w') → wpList P l.toArray Q (l.drop n) (putAll vs 0 (l.take n) a) w') : (Code.region id l.toArray true).wp P Q a w := by
  have hlen : (l.take n).length = n := by simp; omega
  have htk : ∀ i, i < n → (l.take n)[i]? = l[i]? := fun i hi => by simp [hi]
  have main : ∀ (f : Nat) (listed : Array Bool) (a' : Act) (w' : World), InvV (l.take n) a w R S1 c1 St1 S2 c2 St2 listed a' w' → HeadInv .any l.toArray n listed → ((List.range n).filter (fun i => !listed.getD i false)).length = f → wpAny P .any l.toArray Q (f + (l.length - n)) listed a' w' := by
    intro f
    induction f with
    | zero =>
      intro listed a' w' h hv hf
      have hall : ∀ i, i < n → listed.getD i false = true := fun i hi => by
        cases hg : listed.getD i false with
        | true => rfl
        | false =>
          have : i ∈ (List.range n).filter (fun i => !listed.getD i false) := by rw [List.mem_filter, List.mem_range]; exact ⟨hi, by rw [hg]; rfl⟩
          have := List.length_pos_of_mem this
          omega
      have hl : listed = headArr l.length n := by
        apply Array.ext
        · rw [hv.size]; simp [headArr]
        · intro i h1 h2
          have hil : i < l.length := by have := hv.size; simp at this; omega
          have e : (headArr l.length n)[i] = decide (i < n) := by simp [headArr]
          rw [e]
          by_cases q : i < n
          · have := hall i q
            simp [h1] at this
            rw [this]; simp [q]
          · have := hv.tail i (by omega) (by simpa using hil)
            simp [h1] at this
            rw [this]; simp [q]
      obtain ⟨vs, rfl, hr⟩ := h.inv.frame hd (fun i hi => hall i (by rw [hlen] at hi; exact hi))
      rw [Nat.zero_add, hl]
      have hdl : (l.drop n).length = l.length - n := by simp
      have := wpAny_of_seq (P := P) (md := .any) (Q' := Q) (l.drop n) n (headArr l.length n) (putAll vs 0 (l.take n) a) w' (fun j => by simp [List.getElem?_drop]) (by rw [hdl]; exact hseq) (hQ vs w' h.ext (fun i hi => hr i (by rw [hlen]; exact hi)))
      rwa [hdl] at this
    | succ f ih =>
      intro listed a' w' h hv hf
      obtain ⟨i0, hi0⟩ : ∃ i, i ∈ (List.range n).filter (fun i => !listed.getD i false) := by
        cases hq : (List.range n).filter (fun i => !listed.getD i false) with
        | nil => rw [hq] at hf; simp at hf
        | cons x t => exact ⟨x, by simp⟩
      rw [List.mem_filter, List.mem_range] at hi0
      have hne : ∃ i, i < n ∧ listed.getD i false = false ∧ ∀ j, j < i → listed.getD j false = true := by
        have : ∀ m, (∀ j, j < m → listed.getD j false = true) ∨ ∃ i, i < m ∧ listed.getD i false = false ∧ ∀ j, j < i → listed.getD j false = true := by
          intro m
          induction m with
          | zero => left; intro j hj; omega
          | succ m ihm =>
            rcases ihm with q | ⟨i, h1, h2, h3⟩
            · cases hg : listed.getD m false with
              | true =>
                left; intro j hj
                by_cases e : j = m
                · subst e; exact hg
                · exact q j (by omega)
              | false => right; exact ⟨m, by omega, hg, q⟩
            · right; exact ⟨i, by omega, h2, h3⟩
        rcases this n with q | q
        · have := q i0 hi0.1
          rw [this] at hi0; simp at hi0
        · exact q
      obtain ⟨i1, h1, h2, h3⟩ := hne
      have hil1 : i1 < l.length := by omega
      have hsz1 : i1 < listed.size := by rw [hv.size]; simpa using hil1
      have hrd : i1 ∈ Region.ready .any l.toArray listed := by
        refine mem_ready.2 ⟨getD_in hsz1 h2, l[i1], by simp [hil1], fun e he hb => ?_⟩
        have := topoB_spec (l.take n) (l.take n) 0 ht i1 l[i1] (by rw [htk i1 h1]; exact List.getElem?_eq_getElem hil1) e he hb
        exact h3 e.on (by omega)
      rw [show f + 1 + (l.length - n) = (f + (l.length - n)) + 1 by omega]
      refine ⟨fun hr => (by rw [hr] at hrd; cases hrd), fun i hi => ?_⟩
      have hin : i < n := by
        rcases Nat.lt_or_ge i n with q | q
        · exact q
        · exact absurd hi (tail_waits hs hc (by simpa using hn) hv _ i1 rfl h1 (getD_in hsz1 h2) i q)
      obtain ⟨hu, o, ho', hall⟩ := mem_ready.1 hi
      have hol : l[i]? = some o := by simpa using ho'
      have ho : (l.take n)[i]? = some o := by rw [htk i hin]; exact hol
      have hst := hstep i o ho a' w' h.ext (fun e => h.st1 (by rw [← e]; exact getD_false_of hu)) (fun e => h.st2 (by rw [← e]; exact getD_false_of hu)) (fun d hd' => h.inv.slots d fun j p hj _ => hd' j p hj) (fun e he hb p d hp hpd => h.inv.done e.on p d hp (hall e he hb) hpd)
      have next : ∀ v w'', Ext (Fp S1 c1 S2 c2 i) w' w'' → R i v w'' → wpAny P .any l.toArray Q (f + (l.length - n)) (listed.setIfInBounds i true) (a'.put o.dst v) w'' := by
        intro v w'' x hvv
        refine ih _ _ _ (h.put hd hmono hm1 hm2 hs10 hs12 hs20 hs21 hne ho hu hall x hvv) (hv.set hi hin) ?_
        have hsz : i < listed.size := by rw [hv.size]; simp; omega
        have e : (List.range n).filter (fun j => !(listed.setIfInBounds i true).getD j false) = ((List.range n).filter (fun j => !listed.getD j false)).filter (fun j => j != i) := by
          rw [List.filter_filter]
          apply List.filter_congr
          intro j _
          by_cases hji : j = i
          · subst hji; simp [hsz]
          · rw [getD_set_ne false (fun e => hji e.symm)]; simp [hji]
        rw [e]
        have hmem : i ∈ (List.range n).filter (fun j => !listed.getD j false) := by rw [List.mem_filter, List.mem_range]; exact ⟨hin, by rw [getD_both hu]; rfl⟩
        have hnd : ((List.range n).filter (fun j => !listed.getD j false)).Nodup := List.Pairwise.filter _ List.nodup_range
        have := hnd.erase_eq_filter i
        rw [← this, List.length_erase_of_mem hmem, hf]; rfl
      unfold wpOp
      rcases hst with ⟨hw, hr⟩ | ⟨hw, hvv⟩
      rotate_left
      · simp only [ho', hw]
        exact next undef w' (Ext.refl _ _) hvv
      simp only [ho', hw, if_true]
      left
      unfold relAtT at hr
      unfold Oper.wp
      generalize (execOp a'.eval o).run P w' = r at hr
      cases r with
      | ok q w'' =>
        cases q <;> simp only [relUponT] at hr <;> simp only [Oper.upon]
        case value u => exact next u w'' hr.1 hr.2
        case skip => exact next undef w'' hr.1 hr.2
        case enter g args =>
          obtain ⟨rfl, hcc⟩ := hr
          exact hcc.mono fun e w3 ⟨v, he, x, hvv⟩ => by subst he; exact next v w3 x hvv
      | halt x w'' => simp only [relUponT] at hr
  refine wp_region_any hm ?_
  have hinit : ((List.range n).filter (fun i => !(Array.replicate l.toArray.size false).getD i false)).length = n := by
    have : (List.range n).filter (fun i => !(Array.replicate l.toArray.size false).getD i false) = List.range n := by
      rw [List.filter_eq_self]
      intro i _
      rw [getD_replicate_false]; rfl
    rw [this]; simp
  have := main n (Array.replicate l.toArray.size false) a { w with drawn := w.drawn + 1 } ⟨(Ext.refl (Or2 S1 S2) w).drew, fun _ => hs10 _ _ (Ext.refl Non w).drew ht1, fun _ => hs20 _ _ (Ext.refl Non w).drew ht2, fun i o _ hl => (by rw [getD_replicate_false] at hl; cases hl), ⟨Ext.refl _ _, by simp; omega, rfl, rfl, fun _ _ => rfl, fun i o d _ hl => by rw [getD_replicate_false] at hl; cases hl⟩⟩
    ⟨by simp, fun j oj _ hl => (by rw [getD_replicate_false] at hl; cases hl), fun t _ ht => getD_in (by simpa using ht) (getD_replicate_false _ _)⟩ hinit
  rw [show n + (l.length - n) = l.length by omega] at this
  simpa using this
end
def StillV (ops : List Oper) (S : Nat → Prop) (c : Nat) : Nat → List Mo → Prop
  | _, [] => True
  | i, m :: t => (i = c ∨ upB ops c i = true ∨ m.Still S) ∧ StillV ops S c (i + 1) t
theorem StillV.get {ops : List Oper} {S : Nat → Prop} {c : Nat} : ∀ (l : List Mo) (k : Nat), StillV ops S c k l → ∀ i, k + i ≠ c → upB ops c (k + i) = false → (l.getD i Mo.any).Still S
  | [], _, _, i, _, _ => fun _ _ _ _ h => by simp at h ⊢; exact trivial
  | m :: t, k, hs, i, hi, hu => by
    cases i with
    | zero => exact (hs.1.resolve_left hi).resolve_left (by rw [Nat.add_zero] at hu; rw [hu]; decide)
    | succ i => exact StillV.get t (k + 1) hs.2 i (by omega) (by rw [show k + 1 + i = k + (i + 1) by omega]; exact hu)
theorem relR_stillV {ops : List Oper} {S : Nat → Prop} {c : Nat} {Rs : List Mo} (h : StillV ops S c 0 Rs) : ∀ i, i ≠ c → upB ops c i = false → ∀ v w w', Ext S w w' → relR Rs i v w → relR Rs i v w' := fun i hi hu v w w' x hr => StillV.get Rs 0 h i (by omega) (by rw [Nat.zero_add]; exact hu) v w w' x hr
/-- The law as the marks use it. -/
theorem wp_region_wv {P : Program} {id : Nat} {Q : Exit → Act → World → Prop} {a : Act} {w : World} {l : List Oper} (n : Nat) (Rs : List Mo) (S1 : Nat → Prop) (c1 : Nat) (St1 : World → Prop) (S2 : Nat → Prop) (c2 : Nat) (St2 : World → Prop) (hm : P.follows .mixedOrders = true) (ht : topoB (l.take n) 0 (l.take n) = true) (hd : dstB a.tmps.size (l.take n) = true)
    (hs : Region.sinkB .any l.toArray n = true) (hc : Region.chainB .any l.toArray n = true) (hn : n < l.length) (hseq : Region.seqB .any l.toArray (l.length - n) n (headArr l.length n) = true) (hne : c1 ≠ c2)
    (ht1 : St1 w) (ht2 : St2 w) (hs10 : ∀ w w', Ext Non w w' → St1 w → St1 w') (hs12 : ∀ w w', Ext S2 w w' → St1 w → St1 w') (hs20 : ∀ w w', Ext Non w w' → St2 w → St2 w') (hs21 : ∀ w w', Ext S1 w w' → St2 w → St2 w')
    (hm1 : StillV (l.take n) S1 c1 0 Rs) (hm2 : StillV (l.take n) S2 c2 0 Rs) (hstep : StepWD P l (l.take n) a w (relR Rs) S1 c1 St1 S2 c2 St2 0 (l.take n))
    (hQ : ∀ (vs : Nat → Value) w', Ext (Or2 S1 S2) w w' → (∀ i, i < n → relR Rs i (vs i) w') → wpList P l.toArray Q (l.drop n) (putAll vs 0 (l.take n) a) w') : (Code.region id l.toArray true).wp P Q a w :=
  wp_region_wv_tail n (relR Rs) hm ht hd hs hc hn hseq (relR_mono Rs) (relR_stillV hm1) (relR_stillV hm2) hs10 hs12 hs20 hs21 hne ht1 ht2 (hstep.all hne) hQ
end Go.Proofs.Ytakbkpklfihfiaa
