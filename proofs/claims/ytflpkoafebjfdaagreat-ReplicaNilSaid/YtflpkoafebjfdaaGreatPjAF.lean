/- Joined texts: RelS, RelL. What each proves stands at its head; no conditions beside those in its theorems. -/
import Derived.Test.YtflpkoafebjfdaaGreatPjAD
/- A region that draws its order and holds one or two operations (calls, appends) that write: c1 blocks of S1, c2 blocks of S2; the others write nothing old. What these two find is told by St1 and St2. -/
namespace Go.Proofs.YtflpkoafebjfdaaGreat
open Go.RowKit
set_option linter.unusedVariables false
/-- Blocks of the one or of the other. -/
def Or2 (S1 S2 : Nat → Prop) : Nat → Prop := fun k => S1 k ∨ S2 k
/-- What operation i may write. -/
def Fp (S1 : Nat → Prop) (c1 : Nat) (S2 : Nat → Prop) (c2 i : Nat) : Nat → Prop := fun k => (i = c1 ∧ S1 k) ∨ (i = c2 ∧ S2 k)
theorem Fp.toS {S1 S2 : Nat → Prop} {c1 c2 i : Nat} {w w' : World} (x : Ext (Fp S1 c1 S2 c2 i) w w') : Ext (Or2 S1 S2) w w' := x.mono fun _ _ h => h.imp (fun q => q.2) (fun q => q.2)
theorem Fp.toNon {S1 S2 : Nat → Prop} {c1 c2 i : Nat} {w w' : World} (h1 : i ≠ c1) (h2 : i ≠ c2) (x : Ext (Fp S1 c1 S2 c2 i) w w') : Ext Non w w' := x.mono fun _ _ q => q.elim (fun q => absurd q.1 h1) (fun q => absurd q.1 h2)
theorem Fp.toOne {S1 S2 : Nat → Prop} {c1 c2 i : Nat} {w w' : World} (h2 : i ≠ c2) (x : Ext (Fp S1 c1 S2 c2 i) w w') : Ext S1 w w' := x.mono fun _ _ q => q.elim (fun q => q.2) (fun q => absurd q.1 h2)
theorem Fp.toTwo {S1 S2 : Nat → Prop} {c1 c2 i : Nat} {w w' : World} (h1 : i ≠ c1) (x : Ext (Fp S1 c1 S2 c2 i) w w') : Ext S2 w w' := x.mono fun _ _ q => q.elim (fun q => absurd q.1 h1) (fun q => q.2)
theorem EW.cellO {S1 S2 : Nat → Prop} {w : World} (x : EW (Or2 S1 S2) w) (k i : Nat) (s : Option Nat) (h1 : S1 k = False) (h2 : S2 k = False) : x.on.cell? ⟨k, i, s⟩ = (w.cell? ⟨k, i, s⟩).or (restC w x.on ⟨k, i, s⟩) := x.ext.cell_keep (fun f => by rcases f with f | f; rw [← h1]; exact f; rw [← h2]; exact f)
theorem EW.frozO {S1 S2 : Nat → Prop} {w : World} (x : EW (Or2 S1 S2) w) (k i : Nat) (s : Option Nat) (h1 : S1 k = False) (h2 : S2 k = False) : x.on.frozen? ⟨k, i, s⟩ = if (w.cell? ⟨k, i, s⟩).isSome = true then w.frozen? ⟨k, i, s⟩ else restF w x.on ⟨k, i, s⟩ := x.ext.froz_keep (fun f => by rcases f with f | f; rw [← h1]; exact f; rw [← h2]; exact f)
def relUponT (P : Program) (T : Nat → Prop) (w : World) (R : Value → World → Prop) : Result Next → Prop
  | .ok (.value v) w' => Ext T w w' ∧ R v w'
  | .ok .skip w' => Ext T w w' ∧ R undef w'
  | .ok (.enter f args) w' => w' = w ∧ Calls P f args w (fun e w'' => ∃ v, e = .returned v ∧ Ext T w w'' ∧ R v w'')
  | _ => False
def relAtT (P : Program) (T : Nat → Prop) (o : Oper) (a : Act) (w : World) (R : Value → World → Prop) : Prop := relUponT P T w R ((execOp a.eval o).run P w)
theorem relAt.toT {P : Program} {T : Nat → Prop} {o : Oper} {a : Act} {w : World} {R : Value → World → Prop} (h : relAt P o a w R) : relAtT P T o a w R := by
  unfold relAt at h
  unfold relAtT
  generalize (execOp a.eval o).run P w = r at *
  cases r with
  | ok q w'' =>
    cases q <;> simp only [relUpon] at h <;> simp only [relUponT]
    case value u => exact ⟨h.1.ofNon, h.2⟩
    case skip => exact ⟨h.1.ofNon, h.2⟩
    case enter g args => exact ⟨h.1, h.2.mono fun e w3 ⟨v, he, x, hv⟩ => ⟨v, he, x.ofNon, hv⟩⟩
  | halt x w'' => simp only [relUpon] at h
theorem getD_false_of {listed : Array Bool} {i : Nat} (h : listed.getD i true = false) : listed.getD i false = false := getD_both h
section
variable {P : Program} {ops : List Oper} {a0 : Act} {w0 : World} {R : Nat → Value → World → Prop} {S1 S2 : Nat → Prop} {c1 c2 : Nat} {St1 St2 : World → Prop}
theorem InvR.putG {listed : Array Bool} {a : Act} {w w' : World} (h : InvR ops a0 w R listed a w) (hd : dstB a0.tmps.size ops = true)
    {i : Nat} {o : Oper} {v : Value} (ho : ops[i]? = some o) (hu : listed.getD i true = false) (hm : ∀ j v, j ≠ i → R j v w → R j v w') (hv : R i v w') : InvR ops a0 w' R (listed.setIfInBounds i true) (a.put o.dst v) w' := by
  obtain ⟨hd1, hd2⟩ := dstB_spec _ _ hd
  obtain ⟨d, hdd, hdn⟩ := hd1 i o ho
  have hap : ∀ (j : Nat) (p : Oper) d', ops[j]? = some p → j ≠ i → p.dst = some d' → d' ≠ d := fun j p d' hj hji hp e => by
    subst e
    rcases Nat.lt_or_gt_of_ne hji with q | q
    · exact hd2 j i p o q hj ho (hp.trans hdd.symm)
    · exact hd2 i j o p q ho hj (hdd.trans hp.symm)
  have hput : a.put o.dst v = { a with tmps := a.tmps.setIfInBounds d v } := by rw [hdd]; rfl
  rw [hput]
  refine ⟨Ext.refl Non w', by simpa using h.lsize, by simp [h.size], h.defers, fun d' hd' => ?_, fun j p d' hj hl hp => ?_⟩
  · have hne : d ≠ d' := fun e => by
      subst e
      exact hd' i o ho (by
        have hi : i < listed.size := Nat.lt_of_lt_of_le (List.getElem?_eq_some_iff.1 ho).1 h.lsize
        simp [hi]) hdd
    simp only [Array.getElem?_setIfInBounds, if_neg hne]
    refine h.slots d' fun j p hj hl => hd' j p hj ?_
    by_cases hji : i = j
    · subst hji
      have hi : i < listed.size := Nat.lt_of_lt_of_le (List.getElem?_eq_some_iff.1 ho).1 h.lsize
      simp [hi]
    · rw [getD_set_ne false hji]; exact hl
  · by_cases hji : j = i
    · subst hji
      have hpo : p = o := Option.some.inj (hj.symm.trans ho)
      subst hpo
      have : d' = d := Option.some.inj (hp.symm.trans hdd)
      subst this
      have e : (a.tmps.setIfInBounds d' v).getD d' undef = v := by simp [h.size, hdn]
      show R j ((a.tmps.setIfInBounds d' v).getD d' undef) w'
      rw [e]; exact hv
    · have hne := hap j p d' hj hji hp
      rw [getD_set_ne false (fun e => hji e.symm)] at hl
      have e : (a.tmps.setIfInBounds d v).getD d' undef = a.tmps.getD d' undef := by simp [Array.getElem?_setIfInBounds, Ne.symm hne]
      show R j ((a.tmps.setIfInBounds d v).getD d' undef) w'
      rw [e]
      exact hm _ _ hji (h.done j p d' hj hl hp)
structure InvS (ops : List Oper) (a0 : Act) (w0 : World) (R : Nat → Value → World → Prop) (S1 : Nat → Prop) (c1 : Nat) (St1 : World → Prop) (S2 : Nat → Prop) (c2 : Nat) (St2 : World → Prop) (listed : Array Bool) (a : Act) (w : World) : Prop where
  ext : Ext (Or2 S1 S2) w0 w
  st1 : listed.getD c1 false = false → St1 w
  st2 : listed.getD c2 false = false → St2 w
  inv : InvR ops a0 w R listed a w
theorem InvS.put {listed : Array Bool} {a : Act} {w w' : World} (h : InvS ops a0 w0 R S1 c1 St1 S2 c2 St2 listed a w) (hd : dstB a0.tmps.size ops = true) (hmono : ∀ i v w w', Ext Non w w' → R i v w → R i v w') (hm1 : ∀ i, i ≠ c1 → ∀ v w w', Ext S1 w w' → R i v w → R i v w') (hm2 : ∀ i, i ≠ c2 → ∀ v w w', Ext S2 w w' → R i v w → R i v w') (hs10 : ∀ w w', Ext Non w w' → St1 w → St1 w') (hs12 : ∀ w w', Ext S2 w w' → St1 w → St1 w') (hs20 : ∀ w w', Ext Non w w' → St2 w → St2 w') (hs21 : ∀ w w', Ext S1 w w' → St2 w → St2 w') (hne : c1 ≠ c2)
    {i : Nat} {o : Oper} {v : Value} (ho : ops[i]? = some o) (hu : listed.getD i true = false) (x : Ext (Fp S1 c1 S2 c2 i) w w') (hv : R i v w') : InvS ops a0 w0 R S1 c1 St1 S2 c2 St2 (listed.setIfInBounds i true) (a.put o.dst v) w' := by
  have hi : i < listed.size := Nat.lt_of_lt_of_le (List.getElem?_eq_some_iff.1 ho).1 h.inv.lsize
  refine ⟨h.ext.trans (Fp.toS x), fun hl => ?_, fun hl => ?_, h.inv.putG hd ho hu (fun j u hj hr => ?_) hv⟩
  · by_cases e : i = c1
    · exfalso
      subst e
      simp [hi] at hl
    · rw [getD_set_ne false e] at hl
      by_cases e2 : i = c2
      · exact hs12 _ _ (Fp.toTwo e x) (h.st1 hl)
      · exact hs10 _ _ (Fp.toNon e e2 x) (h.st1 hl)
  · by_cases e : i = c2
    · exfalso
      subst e
      simp [hi] at hl
    · rw [getD_set_ne false e] at hl
      by_cases e2 : i = c1
      · exact hs21 _ _ (Fp.toOne e x) (h.st2 hl)
      · exact hs20 _ _ (Fp.toNon e2 e x) (h.st2 hl)
  · by_cases e : i = c1
    · exact hm1 j (fun q => hj (q.trans e.symm)) _ _ _ (Fp.toOne (fun q => hne (e.symm.trans q)) x) hr
    · by_cases e2 : i = c2
      · exact hm2 j (fun q => hj (q.trans e2.symm)) _ _ _ (Fp.toTwo e x) hr
      · exact hmono _ _ _ _ (Fp.toNon e e2 x) hr
/-- What is asked of each operation. -/
def StepW (P : Program) (full ops : List Oper) (a0 : Act) (w0 : World) (R : Nat → Value → World → Prop) (S1 : Nat → Prop) (c1 : Nat) (St1 : World → Prop) (S2 : Nat → Prop) (c2 : Nat) (St2 : World → Prop) : Prop :=
  ∀ (i : Nat) (o : Oper), ops[i]? = some o → ∀ a w, Ext (Or2 S1 S2) w0 w → (i = c1 → St1 w) → (i = c2 → St2 w) → (∀ d, (∀ (j : Nat) (p : Oper), ops[j]? = some p → p.dst ≠ some d) → a.tmps[d]? = a0.tmps[d]?) →
    (∀ e ∈ o.after, Region.binds .any e = true → ∀ (p : Oper) d, ops[e.on]? = some p → p.dst = some d → R e.on (a.tmps.getD d undef) w) →
    (Region.wanted o (yielded full.toArray a.tmps) = true ∧ relAtT P (Fp S1 c1 S2 c2 i) o a w (R i)) ∨ (Region.wanted o (yielded full.toArray a.tmps) = false ∧ R i undef w)
theorem wp_region_wr_tail {id : Nat} {Q : Exit → Act → World → Prop} {a : Act} {w : World} {l : List Oper} (n : Nat) (R : Nat → Value → World → Prop) (hm : P.follows .mixedOrders = true) (ht : topoB (l.take n) 0 (l.take n) = true) (hd : dstB a.tmps.size (l.take n) = true)
    (hs : Region.sinkB .any l.toArray n = true) (hc : Region.chainB .any l.toArray n = true) (hn : n < l.length) (hseq : Region.seqB .any l.toArray (l.length - n) n (headArr l.length n) = true)
    (hmono : ∀ i v w w', Ext Non w w' → R i v w → R i v w') (hm1 : ∀ i, i ≠ c1 → ∀ v w w', Ext S1 w w' → R i v w → R i v w') (hm2 : ∀ i, i ≠ c2 → ∀ v w w', Ext S2 w w' → R i v w → R i v w') (hs10 : ∀ w w', Ext Non w w' → St1 w → St1 w') (hs12 : ∀ w w', Ext S2 w w' → St1 w → St1 w') (hs20 : ∀ w w', Ext Non w w' → St2 w → St2 w') (hs21 : ∀ w w', Ext S1 w w' → St2 w → St2 w') (hne : c1 ≠ c2) (ht1 : St1 w) (ht2 : St2 w) (hstep : StepW P l (l.take n) a w R S1 c1 St1 S2 c2 St2)
    (hQ : ∀ (vs : Nat → Value) w', Ext (Or2 S1 S2) w w' → (∀ i, i < n → R i (vs i) w') → wpList P l.toArray Q (l.drop n) (putAll vs 0 (l.take n) a) w') : (Code.region id l.toArray true).wp P Q a w := by
  have hlen : (l.take n).length = n := by simp; omega
  have htk : ∀ i, i < n → (l.take n)[i]? = l[i]? := fun i hi => by simp [hi]
  have main : ∀ (f : Nat) (listed : Array Bool) (a' : Act) (w' : World), InvS (l.take n) a w R S1 c1 St1 S2 c2 St2 listed a' w' → HeadInv .any l.toArray n listed → ((List.range n).filter (fun i => !listed.getD i false)).length = f → wpAny P .any l.toArray Q (f + (l.length - n)) listed a' w' := by
    intro f
    induction f with
    | zero =>
      intro listed a' w' h hv hf
      have hall : ∀ i, i < n → listed.getD i false = true := fun i hi => by
        cases hg : listed.getD i false with
        | true => rfl
        | false =>
          have : i ∈ (List.range n).filter (fun i => !listed.getD i false) := by rw [List.mem_filter, List.mem_range]; exact ⟨hi, by rw [hg]; rfl⟩
          have := List.length_pos_of_mem this
          omega
      have hl : listed = headArr l.length n := by
        apply Array.ext
        · rw [hv.size]; simp [headArr]
        · intro i h1 h2
          have hil : i < l.length := by have := hv.size; simp at this; omega
          have e : (headArr l.length n)[i] = decide (i < n) := by simp [headArr]
          rw [e]
          by_cases q : i < n
          · have := hall i q
            simp [h1] at this
            rw [this]; simp [q]
          · have := hv.tail i (by omega) (by simpa using hil)
            simp [h1] at this
            rw [this]; simp [q]
      obtain ⟨vs, rfl, hr⟩ := h.inv.frame hd (fun i hi => hall i (by rw [hlen] at hi; exact hi))
      rw [Nat.zero_add, hl]
      have hdl : (l.drop n).length = l.length - n := by simp
      have := wpAny_of_seq (P := P) (md := .any) (Q' := Q) (l.drop n) n (headArr l.length n) (putAll vs 0 (l.take n) a) w' (fun j => by simp [List.getElem?_drop]) (by rw [hdl]; exact hseq) (hQ vs w' h.ext (fun i hi => hr i (by rw [hlen]; exact hi)))
      rwa [hdl] at this
    | succ f ih =>
      intro listed a' w' h hv hf
      obtain ⟨i0, hi0⟩ : ∃ i, i ∈ (List.range n).filter (fun i => !listed.getD i false) := by
        cases hq : (List.range n).filter (fun i => !listed.getD i false) with
        | nil => rw [hq] at hf; simp at hf
        | cons x t => exact ⟨x, by simp⟩
      rw [List.mem_filter, List.mem_range] at hi0
      have hne : ∃ i, i < n ∧ listed.getD i false = false ∧ ∀ j, j < i → listed.getD j false = true := by
        have : ∀ m, (∀ j, j < m → listed.getD j false = true) ∨ ∃ i, i < m ∧ listed.getD i false = false ∧ ∀ j, j < i → listed.getD j false = true := by
          intro m
          induction m with
          | zero => left; intro j hj; omega
          | succ m ihm =>
            rcases ihm with q | ⟨i, h1, h2, h3⟩
            · cases hg : listed.getD m false with
              | true =>
                left; intro j hj
                by_cases e : j = m
                · subst e; exact hg
                · exact q j (by omega)
              | false => right; exact ⟨m, by omega, hg, q⟩
            · right; exact ⟨i, by omega, h2, h3⟩
        rcases this n with q | q
        · have := q i0 hi0.1
          rw [this] at hi0; simp at hi0
        · exact q
      obtain ⟨i1, h1, h2, h3⟩ := hne
      have hil1 : i1 < l.length := by omega
      have hsz1 : i1 < listed.size := by rw [hv.size]; simpa using hil1
      have hrd : i1 ∈ Region.ready .any l.toArray listed := by
        refine mem_ready.2 ⟨getD_in hsz1 h2, l[i1], by simp [hil1], fun e he hb => ?_⟩
        have := topoB_spec (l.take n) (l.take n) 0 ht i1 l[i1] (by rw [htk i1 h1]; exact List.getElem?_eq_getElem hil1) e he hb
        exact h3 e.on (by omega)
      rw [show f + 1 + (l.length - n) = (f + (l.length - n)) + 1 by omega]
      refine ⟨fun hr => (by rw [hr] at hrd; cases hrd), fun i hi => ?_⟩
      have hin : i < n := by
        rcases Nat.lt_or_ge i n with q | q
        · exact q
        · exact absurd hi (tail_waits hs hc (by simpa using hn) hv _ i1 rfl h1 (getD_in hsz1 h2) i q)
      obtain ⟨hu, o, ho', hall⟩ := mem_ready.1 hi
      have hol : l[i]? = some o := by simpa using ho'
      have ho : (l.take n)[i]? = some o := by rw [htk i hin]; exact hol
      have hst := hstep i o ho a' w' h.ext (fun e => h.st1 (by rw [← e]; exact getD_false_of hu)) (fun e => h.st2 (by rw [← e]; exact getD_false_of hu)) (fun d hd' => h.inv.slots d fun j p hj _ => hd' j p hj) (fun e he hb p d hp hpd => h.inv.done e.on p d hp (hall e he hb) hpd)
      have next : ∀ v w'', Ext (Fp S1 c1 S2 c2 i) w' w'' → R i v w'' → wpAny P .any l.toArray Q (f + (l.length - n)) (listed.setIfInBounds i true) (a'.put o.dst v) w'' := by
        intro v w'' x hvv
        refine ih _ _ _ (h.put hd hmono hm1 hm2 hs10 hs12 hs20 hs21 hne ho hu x hvv) (hv.set hi hin) ?_
        have hsz : i < listed.size := by rw [hv.size]; simp; omega
        have e : (List.range n).filter (fun j => !(listed.setIfInBounds i true).getD j false) = ((List.range n).filter (fun j => !listed.getD j false)).filter (fun j => j != i) := by
          rw [List.filter_filter]
          apply List.filter_congr
          intro j _
          by_cases hji : j = i
          · subst hji; simp [hsz]
          · rw [getD_set_ne false (fun e => hji e.symm)]; simp [hji]
        rw [e]
        have hmem : i ∈ (List.range n).filter (fun j => !listed.getD j false) := by rw [List.mem_filter, List.mem_range]; exact ⟨hin, by rw [getD_both hu]; rfl⟩
        have hnd : ((List.range n).filter (fun j => !listed.getD j false)).Nodup := List.Pairwise.filter _ List.nodup_range
        have := hnd.erase_eq_filter i
        rw [← this, List.length_erase_of_mem hmem, hf]; rfl
      unfold wpOp
      rcases hst with ⟨hw, hr⟩ | ⟨hw, hvv⟩
      rotate_left
      · simp only [ho', hw]
        exact next undef w' (Ext.refl _ _) hvv
      simp only [ho', hw, if_true]
      left
      unfold relAtT at hr
      unfold Oper.wp
      generalize (execOp a'.eval o).run P w' = r at hr
      cases r with
      | ok q w'' =>
        cases q <;> simp only [relUponT] at hr <;> simp only [Oper.upon]
        case value u => exact next u w'' hr.1 hr.2
        case skip => exact next undef w'' hr.1 hr.2
        case enter g args =>
          obtain ⟨rfl, hcc⟩ := hr
          exact hcc.mono fun e w3 ⟨v, he, x, hvv⟩ => by subst he; exact next v w3 x hvv
      | halt x w'' => simp only [relUponT] at hr
  refine wp_region_any hm ?_
  have hinit : ((List.range n).filter (fun i => !(Array.replicate l.toArray.size false).getD i false)).length = n := by
    have : (List.range n).filter (fun i => !(Array.replicate l.toArray.size false).getD i false) = List.range n := by
      rw [List.filter_eq_self]
      intro i _
      rw [getD_replicate_false]; rfl
    rw [this]; simp
  have := main n (Array.replicate l.toArray.size false) a { w with drawn := w.drawn + 1 } ⟨(Ext.refl (Or2 S1 S2) w).drew, fun _ => hs10 _ _ (Ext.refl Non w).drew ht1, fun _ => hs20 _ _ (Ext.refl Non w).drew ht2, ⟨Ext.refl _ _, by simp; omega, rfl, rfl, fun _ _ => rfl, fun i o d _ hl => by rw [getD_replicate_false] at hl; cases hl⟩⟩
    ⟨by simp, fun j oj _ hl => (by rw [getD_replicate_false] at hl; cases hl), fun t _ ht => getD_in (by simpa using ht) (getD_replicate_false _ _)⟩ hinit
  rw [show n + (l.length - n) = l.length by omega] at this
  simpa using this
/-- What is asked of one operation that is not the call. -/
def StepN (P : Program) (full ops : List Oper) (a0 : Act) (w0 : World) (R : Nat → Value → World → Prop) (C : Nat → Prop) (i : Nat) (o : Oper) : Prop :=
  ∀ a w, Ext C w0 w → (∀ d, ops.all (fun p => p.dst != some d) = true → a.tmps[d]?.getD undef = a0.tmps[d]?.getD undef) →
    (∀ j d, o.after.toList.any (fun e => e.on == j && Region.binds .any e) = true → (ops[j]?).bind (·.dst) = some d → R j (a.tmps[d]?.getD undef) w) →
    (Region.wanted o (yielded full.toArray a.tmps) = true ∧ relAt P o a w (R i)) ∨ (Region.wanted o (yielded full.toArray a.tmps) = false ∧ R i undef w)
/-- What is asked of the call. -/
def StepX (P : Program) (full ops : List Oper) (a0 : Act) (w0 : World) (R : Nat → Value → World → Prop) (C S : Nat → Prop) (St : World → Prop) (i : Nat) (o : Oper) : Prop :=
  ∀ a w, Ext C w0 w → St w → (∀ d, ops.all (fun p => p.dst != some d) = true → a.tmps[d]?.getD undef = a0.tmps[d]?.getD undef) →
    (∀ j d, o.after.toList.any (fun e => e.on == j && Region.binds .any e) = true → (ops[j]?).bind (·.dst) = some d → R j (a.tmps[d]?.getD undef) w) →
    Region.wanted o (yielded full.toArray a.tmps) = true ∧ relAtT P S o a w (R i)
def StepWD (P : Program) (full ops : List Oper) (a0 : Act) (w0 : World) (R : Nat → Value → World → Prop) (S1 : Nat → Prop) (c1 : Nat) (St1 : World → Prop) (S2 : Nat → Prop) (c2 : Nat) (St2 : World → Prop) : Nat → List Oper → Prop
  | _, [] => True
  | i, o :: t => ((i ≠ c1 ∧ i ≠ c2 ∧ StepN P full ops a0 w0 R (Or2 S1 S2) i o) ∨ (i = c1 ∧ StepX P full ops a0 w0 R (Or2 S1 S2) S1 St1 i o) ∨ (i = c2 ∧ StepX P full ops a0 w0 R (Or2 S1 S2) S2 St2 i o)) ∧ StepWD P full ops a0 w0 R S1 c1 St1 S2 c2 St2 (i + 1) t
theorem StepWD.get {full : List Oper} : ∀ (l : List Oper) (k : Nat), StepWD P full ops a0 w0 R S1 c1 St1 S2 c2 St2 k l → ∀ (i : Nat) (o : Oper), l[i]? = some o → (k + i ≠ c1 ∧ k + i ≠ c2 ∧ StepN P full ops a0 w0 R (Or2 S1 S2) (k + i) o) ∨ (k + i = c1 ∧ StepX P full ops a0 w0 R (Or2 S1 S2) S1 St1 (k + i) o) ∨ (k + i = c2 ∧ StepX P full ops a0 w0 R (Or2 S1 S2) S2 St2 (k + i) o)
  | [], _, _, i, o, h => by simp at h
  | p :: t, k, hs, i, o, h => by
    cases i with
    | zero => simp at h; subst h; exact hs.1
    | succ i =>
      have := StepWD.get t (k + 1) hs.2 i o (by simpa using h)
      rwa [show k + 1 + i = k + (i + 1) by omega] at this
theorem StepWD.all {full : List Oper} (hne : c1 ≠ c2) (h : StepWD P full ops a0 w0 R S1 c1 St1 S2 c2 St2 0 ops) : StepW P full ops a0 w0 R S1 c1 St1 S2 c2 St2 := fun i o ho a w hx hst1 hst2 hs hd => by
  have := StepWD.get ops 0 h i o ho
  rw [Nat.zero_add] at this
  have h1 : ∀ d, ops.all (fun p => p.dst != some d) = true → a.tmps[d]?.getD undef = a0.tmps[d]?.getD undef := fun d hd' => by
    have e := hs d (fun j p hj e => by
      have := List.all_eq_true.1 hd' p (List.mem_of_getElem? hj)
      rw [e] at this; simp at this)
    rw [e]
  have h2 : ∀ j d, o.after.toList.any (fun e => e.on == j && Region.binds .any e) = true → (ops[j]?).bind (·.dst) = some d → R j (a.tmps[d]?.getD undef) w := fun j d hb hj => by
    rw [List.any_eq_true] at hb
    obtain ⟨e, he, hb⟩ := hb
    have he : e ∈ o.after := by simpa using he
    simp only [Bool.and_eq_true, beq_iff_eq] at hb
    cases hp : ops[j]? with
    | none => rw [hp] at hj; cases hj
    | some p =>
      rw [hp] at hj
      have := hd e he hb.2 p d (by rw [hb.1]; exact hp) hj
      rw [hb.1, Array.getD_eq_getD_getElem?] at this
      exact this
  rcases this with ⟨_, _, q⟩ | ⟨e, q⟩ | ⟨e, q⟩
  · rcases q a w hx h1 h2 with ⟨z1, z2⟩ | z
    · exact .inl ⟨z1, z2.toT⟩
    · exact .inr z
  · subst e
    obtain ⟨z1, z2⟩ := q a w hx (hst1 rfl) h1 h2
    refine .inl ⟨z1, ?_⟩
    have e : Fp S1 i S2 c2 i = S1 := by funext k; unfold Fp; simp [hne]
    rw [e]; exact z2
  · subst e
    obtain ⟨z1, z2⟩ := q a w hx (hst2 rfl) h1 h2
    refine .inl ⟨z1, ?_⟩
    have e : Fp S1 c1 S2 i i = S2 := by funext k; unfold Fp; simp [Ne.symm hne]
    rw [e]; exact z2
end
/-- Predicates that hold on whatever S's blocks get. -/
def Mo.Still (S : Nat → Prop) (m : Mo) : Prop := ∀ v w w', Ext S w w' → m.p v w → m.p v w'
theorem Mo.is_still (S : Nat → Prop) (u : Value) : (Mo.is u).Still S := fun _ _ _ _ h => h
def StillL (S : Nat → Prop) (c : Nat) : Nat → List Mo → Prop
  | _, [] => True
  | i, m :: t => (i = c ∨ m.Still S) ∧ StillL S c (i + 1) t
theorem StillL.get {S : Nat → Prop} {c : Nat} : ∀ (l : List Mo) (k : Nat), StillL S c k l → ∀ i, k + i ≠ c → (l.getD i Mo.any).Still S
  | [], _, _, i, _ => fun _ _ _ _ h => by simp at h ⊢; exact trivial
  | m :: t, k, hs, i, hi => by
    cases i with
    | zero => exact hs.1.resolve_left hi
    | succ i => exact StillL.get t (k + 1) hs.2 i (by omega)
theorem relR_still {S : Nat → Prop} {c : Nat} {Rs : List Mo} (h : StillL S c 0 Rs) : ∀ i, i ≠ c → ∀ v w w', Ext S w w' → relR Rs i v w → relR Rs i v w' := fun i hi v w w' x hr => StillL.get Rs 0 h i (by omega) v w w' x hr
/-- The law as the marks use it. -/
theorem wp_region_wr {P : Program} {id : Nat} {Q : Exit → Act → World → Prop} {a : Act} {w : World} {l : List Oper} (n : Nat) (Rs : List Mo) (S1 : Nat → Prop) (c1 : Nat) (St1 : World → Prop) (S2 : Nat → Prop) (c2 : Nat) (St2 : World → Prop) (hm : P.follows .mixedOrders = true) (ht : topoB (l.take n) 0 (l.take n) = true) (hd : dstB a.tmps.size (l.take n) = true)
    (hs : Region.sinkB .any l.toArray n = true) (hc : Region.chainB .any l.toArray n = true) (hn : n < l.length) (hseq : Region.seqB .any l.toArray (l.length - n) n (headArr l.length n) = true) (hne : c1 ≠ c2)
    (ht1 : St1 w) (ht2 : St2 w) (hs10 : ∀ w w', Ext Non w w' → St1 w → St1 w') (hs12 : ∀ w w', Ext S2 w w' → St1 w → St1 w') (hs20 : ∀ w w', Ext Non w w' → St2 w → St2 w') (hs21 : ∀ w w', Ext S1 w w' → St2 w → St2 w')
    (hm1 : StillL S1 c1 0 Rs) (hm2 : StillL S2 c2 0 Rs) (hstep : StepWD P l (l.take n) a w (relR Rs) S1 c1 St1 S2 c2 St2 0 (l.take n))
    (hQ : ∀ (vs : Nat → Value) w', Ext (Or2 S1 S2) w w' → (∀ i, i < n → relR Rs i (vs i) w') → wpList P l.toArray Q (l.drop n) (putAll vs 0 (l.take n) a) w') : (Code.region id l.toArray true).wp P Q a w :=
  wp_region_wr_tail n (relR Rs) hm ht hd hs hc hn hseq (relR_mono Rs) (relR_still hm1) (relR_still hm2) hs10 hs12 hs20 hs21 hne ht1 ht2 (hstep.all hne) hQ
end Go.Proofs.YtflpkoafebjfdaaGreat

/- The law of XRel with a tail, where one of the head's operations (a plain one) may be drawn behind the tail's first one (an extract that does not wait for a store). -/
namespace Go.Proofs.YtflpkoafebjfdaaGreat
open Go.RowKit
set_option linter.unusedVariables false
set_option linter.unusedSimpArgs false
def sinkL (ops : Array Oper) (n p : Nat) : Bool :=
  (List.range n).all fun i => decide (i = p) || (List.range (n + 1)).any fun j => decide (i < j) && decide (j ≠ p) && Region.waitsFor .any ops j i
def lateArr (len n p : Nat) : Array Bool := ((List.range len).map fun i => decide (i < n) && decide (i ≠ p)).toArray
theorem eq_single {l : List Nat} {p : Nat} (hnd : l.Nodup) (hm : ∀ j, j ∈ l ↔ j = p) : l = [p] := by
  match l, hnd, hm with
  | [], _, hm => exact absurd ((hm p).2 rfl) (by simp)
  | [x], _, hm => rw [(hm x).1 (by simp)]
  | x :: y :: t, hnd, hm =>
    exfalso
    have h1 := (hm x).1 (by simp)
    have h2 := (hm y).1 (by simp)
    simp at hnd
    exact hnd.1.1 (h1.trans h2.symm)
theorem late_waits {ops : Array Oper} {n p : Nat} {listed : Array Bool} (hs : sinkL ops n p = true) (hc : Region.chainB .any ops n = true) (hn : n < ops.size) (inv : HeadInv .any ops n listed) :
    ∀ (d i : Nat), n - i = d → i < n → i ≠ p → listed.getD i true = false → ∀ t, n ≤ t → t ∉ Region.ready .any ops listed := by
  intro d
  induction d using Nat.strongRecOn with
  | _ d ih =>
    intro i hd hi hip hun t ht hr
    obtain ⟨_, ot, hot, hall⟩ := mem_ready.1 hr
    have htlt : t < ops.size := (Array.getElem?_eq_some_iff.1 hot).1
    by_cases htn : t = n
    · subst htn
      have h1 := List.all_eq_true.1 hs i (List.mem_range.2 hi)
      simp only [Bool.or_eq_true, decide_eq_true_eq] at h1
      have h1 := h1.resolve_left hip
      obtain ⟨j, hj, hj2⟩ := List.any_eq_true.1 h1
      simp only [Bool.and_eq_true, decide_eq_true_eq] at hj2
      obtain ⟨oj, hoj, e, he, hb, hon⟩ := Region.waitsFor_spec hj2.2
      have hjle : j ≤ t := by have := List.mem_range.1 hj; omega
      by_cases hjt : j = t
      · subst hjt
        have : oj = ot := Option.some.inj (hoj.symm.trans hot)
        subst this
        have h2 := hall e he hb
        rw [hon, getD_both hun] at h2
        cases h2
      · cases hl : listed.getD j false with
        | true =>
          have h2 := inv.closed j oj hoj hl e he hb
          rw [hon, getD_both hun] at h2
          cases h2
        | false =>
          have hjs : j < listed.size := by rw [inv.size]; omega
          exact ih (t - j) (by omega) j rfl (by omega) hj2.1.2 (getD_in hjs hl) t (Nat.le_refl _) hr
    · have h1 := List.all_eq_true.1 hc t (List.mem_range.2 htlt)
      simp only [Bool.or_eq_true, decide_eq_true_eq] at h1
      rcases h1 with h1 | h1
      · omega
      · obtain ⟨o', ho', e, he, hb, hon⟩ := Region.waitsFor_spec h1
        have : o' = ot := Option.some.inj (ho'.symm.trans hot)
        subst this
        have h2 := hall e he hb
        rw [hon, getD_both (inv.tail (t - 1) (by omega) (by omega))] at h2
        cases h2
section
variable {P : Program} {ops : List Oper} {a0 : Act} {w0 : World} {R : Nat → Value → World → Prop}
theorem InvR.frameP {listed : Array Bool} {a : Act} {w : World} (h : InvR ops a0 w0 R listed a w) (hd : dstB a0.tmps.size ops = true) :
    ∃ vs : Nat → Value, (a = putAll vs 0 ops a0 ∧ (∀ (i : Nat) (o : Oper) d, ops[i]? = some o → o.dst = some d → vs i = a.tmps.getD d undef)) ∧ ∀ i, i < ops.length → listed.getD i false = true → R i (vs i) w := by
  obtain ⟨hd1, hd2⟩ := dstB_spec _ _ hd
  let vs : Nat → Value := fun i => match (ops[i]?).bind (·.dst) with | some d => a.tmps.getD d undef | none => undef
  obtain ⟨i1, i2, i3, i4⟩ := putAll_spec vs ops 0 a0 hd
  have hvs : ∀ (i : Nat) (o : Oper) d, ops[i]? = some o → o.dst = some d → vs i = a.tmps.getD d undef := fun i o d ho hd => by simp only [vs, ho, Option.bind_some, hd]
  refine ⟨vs, ⟨?_, hvs⟩, fun i hi hl => ?_⟩
  · have e : a.tmps = (putAll vs 0 ops a0).tmps := by
      apply Array.ext_getElem?
      intro d
      by_cases q : ∃ (i : Nat) (o : Oper), ops[i]? = some o ∧ o.dst = some d
      · obtain ⟨i, o, ho, hod⟩ := q
        rw [i4 i o d ho hod, Nat.zero_add, hvs i o d ho hod]
        obtain ⟨d', hd', hn⟩ := hd1 i o ho
        have : d = d' := Option.some.inj (hod.symm.trans hd')
        subst this
        have hsz : d < a.tmps.size := by rw [h.size]; exact hn
        simp [hsz]
      · have q' : ∀ (i : Nat) (o : Oper), ops[i]? = some o → o.dst ≠ some d := fun i o ho e => q ⟨i, o, ho, e⟩
        rw [i3 d q', h.slots d (fun i o ho _ => q' i o ho)]
    have e2 := h.defers.trans i1.symm
    generalize putAll vs 0 ops a0 = b at e e2
    cases a; cases b; simp at e e2; rw [e, e2]
  · have ho : ops[i]? = some ops[i] := List.getElem?_eq_getElem hi
    obtain ⟨d, hdd, _⟩ := hd1 i _ ho
    rw [hvs i _ d ho hdd]
    exact h.done i _ d ho hl hdd
theorem wp_region_rel_late {id : Nat} {Q : Exit → Act → World → Prop} {a : Act} {w : World} {l : List Oper} (n p : Nat) (R : Nat → Value → World → Prop) (hm : P.follows .mixedOrders = true) (ht : topoB (l.take n) 0 (l.take n) = true) (hd : dstB a.tmps.size (l.take n) = true)
    (hs : sinkL l.toArray n p = true) (hc : Region.chainB .any l.toArray n = true) (hn : n < l.length) (hpn : p < n) (hseq : Region.seqB .any l.toArray (l.length - n) n (headArr l.length n) = true) (hrd2 : Region.ready .any l.toArray ((lateArr l.length n p).setIfInBounds n true) = [p]) (hseq2 : Region.seqB .any l.toArray (l.length - (n + 1)) (n + 1) (((lateArr l.length n p).setIfInBounds n true).setIfInBounds p true) = true)
    (hmono : ∀ i v w w', Ext Non w w' → R i v w → R i v w') (hstep : StepR P l (l.take n) a w R)
    (hQ : ∀ (vs : Nat → Value) w', Ext Non w w' → (∀ i, i < n → R i (vs i) w') → wpList P l.toArray Q (l.drop n) (putAll vs 0 (l.take n) a) w')
    (hQ2 : ∀ (vs : Nat → Value) w', Ext Non w w' → (∀ i, i < n → i ≠ p → R i (vs i) w') → (∀ d, (l[p]?).bind (·.dst) = some d → vs p = a.tmps[d]?.getD undef) → wpList P l.toArray Q ((l.drop n).take 1 ++ (l.drop p).take 1 ++ l.drop (n + 1)) (putAll vs 0 (l.take n) a) w') : (Code.region id l.toArray true).wp P Q a w := by
  have hlen : (l.take n).length = n := by simp; omega
  have htk : ∀ i, i < n → (l.take n)[i]? = l[i]? := fun i hi => by simp [hi]
  have main : ∀ (f : Nat) (listed : Array Bool) (a' : Act) (w' : World), InvR (l.take n) a w R listed a' w' → HeadInv .any l.toArray n listed → ((List.range n).filter (fun i => !listed.getD i false)).length = f → wpAny P .any l.toArray Q (f + (l.length - n)) listed a' w' := by
    intro f
    induction f with
    | zero =>
      intro listed a' w' h hv hf
      have hall : ∀ i, i < n → listed.getD i false = true := fun i hi => by
        cases hg : listed.getD i false with
        | true => rfl
        | false =>
          have : i ∈ (List.range n).filter (fun i => !listed.getD i false) := by rw [List.mem_filter, List.mem_range]; exact ⟨hi, by rw [hg]; rfl⟩
          have := List.length_pos_of_mem this
          omega
      have hl : listed = headArr l.length n := by
        apply Array.ext
        · rw [hv.size]; simp [headArr]
        · intro i h1 h2
          have hil : i < l.length := by have := hv.size; simp at this; omega
          have e : (headArr l.length n)[i] = decide (i < n) := by simp [headArr]
          rw [e]
          by_cases q : i < n
          · have := hall i q
            simp [h1] at this
            rw [this]; simp [q]
          · have := hv.tail i (by omega) (by simpa using hil)
            simp [h1] at this
            rw [this]; simp [q]
      obtain ⟨vs, rfl, hr⟩ := h.frame hd (fun i hi => hall i (by rw [hlen] at hi; exact hi))
      rw [Nat.zero_add, hl]
      have hdl : (l.drop n).length = l.length - n := by simp
      have := wpAny_of_seq (P := P) (md := .any) (Q' := Q) (l.drop n) n (headArr l.length n) (putAll vs 0 (l.take n) a) w' (fun j => by simp [List.getElem?_drop]) (by rw [hdl]; exact hseq) (hQ vs w' h.ext (fun i hi => hr i (by rw [hlen]; exact hi)))
      rwa [hdl] at this
    | succ f ih =>
      intro listed a' w' h hv hf
      obtain ⟨i0, hi0⟩ : ∃ i, i ∈ (List.range n).filter (fun i => !listed.getD i false) := by
        cases hq : (List.range n).filter (fun i => !listed.getD i false) with
        | nil => rw [hq] at hf; simp at hf
        | cons x t => exact ⟨x, by simp⟩
      rw [List.mem_filter, List.mem_range] at hi0
      have hne : ∃ i, i < n ∧ listed.getD i false = false ∧ ∀ j, j < i → listed.getD j false = true := by
        have : ∀ m, (∀ j, j < m → listed.getD j false = true) ∨ ∃ i, i < m ∧ listed.getD i false = false ∧ ∀ j, j < i → listed.getD j false = true := by
          intro m
          induction m with
          | zero => left; intro j hj; omega
          | succ m ihm =>
            rcases ihm with q | ⟨i, h1, h2, h3⟩
            · cases hg : listed.getD m false with
              | true =>
                left; intro j hj
                by_cases e : j = m
                · subst e; exact hg
                · exact q j (by omega)
              | false => right; exact ⟨m, by omega, hg, q⟩
            · right; exact ⟨i, by omega, h2, h3⟩
        rcases this n with q | q
        · have := q i0 hi0.1
          rw [this] at hi0; simp at hi0
        · exact q
      obtain ⟨i1, h1, h2, h3⟩ := hne
      have hil1 : i1 < l.length := by omega
      have hsz1 : i1 < listed.size := by rw [hv.size]; simpa using hil1
      have hrd : i1 ∈ Region.ready .any l.toArray listed := by
        refine mem_ready.2 ⟨getD_in hsz1 h2, l[i1], by simp [hil1], fun e he hb => ?_⟩
        have := topoB_spec (l.take n) (l.take n) 0 ht i1 l[i1] (by rw [htk i1 h1]; exact List.getElem?_eq_getElem hil1) e he hb
        exact h3 e.on (by omega)
      rw [show f + 1 + (l.length - n) = (f + (l.length - n)) + 1 by omega]
      refine ⟨fun hr => (by rw [hr] at hrd; cases hrd), fun i hi => ?_⟩
      rcases Nat.lt_or_ge i n with hin | hge
      rotate_left
      · -- the tail's first one, ahead of the late one
        have honly : ∀ j, j < n → listed.getD j false = false → j = p := fun j hj hf0 => by
          rcases Nat.decEq j p with e | e
          · exact absurd hi (late_waits hs hc (by simpa using hn) hv _ j rfl hj e (getD_in (by rw [hv.size]; simp; omega) hf0) i hge)
          · exact e
        have hpf : listed.getD p false = false := by rw [← honly i1 h1 h2]; exact h2
        have hin : i = n := by
          rcases Nat.eq_or_lt_of_le hge with e | e
          · exact e.symm
          · exfalso
            obtain ⟨_, oi, hoi, hall⟩ := mem_ready.1 hi
            have hil : i < l.toArray.size := (Array.getElem?_eq_some_iff.1 hoi).1
            have h1 := List.all_eq_true.1 hc i (List.mem_range.2 hil)
            simp only [Bool.or_eq_true, decide_eq_true_eq] at h1
            rcases h1 with h1 | h1
            · omega
            · obtain ⟨o', ho', e2, he, hb, hon⟩ := Region.waitsFor_spec h1
              have : o' = oi := Option.some.inj (ho'.symm.trans hoi)
              subst this
              have h2 := hall e2 he hb
              rw [hon, getD_both (hv.tail (i - 1) (by omega) (by omega))] at h2
              cases h2
        subst hin
        have hl : listed = lateArr l.length i p := by
          apply Array.ext
          · rw [hv.size]; simp [lateArr]
          · intro j q1 q2
            have hjl : j < l.length := by have := hv.size; simp at this; omega
            have e : (lateArr l.length i p)[j] = (decide (j < i) && decide (j ≠ p)) := by simp [lateArr]
            rw [e]
            by_cases q : j < i
            · by_cases qp : j = p
              · subst qp
                simp [q1] at hpf
                rw [hpf]; simp
              · have : listed.getD j false = true := by
                  cases hg : listed.getD j false with
                  | true => rfl
                  | false => exact absurd (honly j q hg) qp
                simp [q1] at this
                rw [this]; simp [q, qp]
            · have := hv.tail j (by omega) (by simpa using hjl)
              simp [q1] at this
              rw [this]; simp [q]
        have hf1 : f = 0 := by
          have : (List.range i).filter (fun j => !listed.getD j false) = [p] := by
            have hnd : ((List.range i).filter (fun j => !listed.getD j false)).Nodup := List.Pairwise.filter _ List.nodup_range
            have hmem : ∀ j, j ∈ (List.range i).filter (fun j => !listed.getD j false) ↔ j = p := fun j => by
              rw [List.mem_filter, List.mem_range]
              refine ⟨fun ⟨z1, z2⟩ => honly j z1 (by simpa using z2), fun e => by subst e; exact ⟨hpn, by rw [hpf]; rfl⟩⟩
            exact eq_single hnd hmem
          rw [this] at hf; simp at hf; omega
        subst hf1
        obtain ⟨vs, hvs, hr⟩ := h.frameP hd
        have hdl : (l.drop (i + 1)).length = l.length - (i + 1) := by simp
        have hli : l[i]? = some l[i] := List.getElem?_eq_getElem hn
        have hlp : l[p]? = some l[p] := List.getElem?_eq_getElem (by omega)
        have q2 := hQ2 vs w' h.ext (fun j hj hjp => hr j (by rw [hlen]; exact hj) (by
          cases hg : listed.getD j false with
          | true => rfl
          | false => exact absurd (honly j hj hg) hjp)) (fun d hd' => by
            have ho : (l.take i)[p]? = l[p]? := htk p hpn
            rw [hvs.2 p l[p] d (by rw [ho]; exact hlp) (by rw [hlp] at hd'; exact hd')]
            have := h.slots d (fun j oj hoj hlj hdj => by
              have hjp : j ≠ p := fun e => by subst e; rw [hpf] at hlj; cases hlj
              have hoj' : (l.take i)[j]? = some oj := hoj
              have e2 := (dstB_spec _ _ hd).2
              have hop : (l.take i)[p]? = some l[p] := by rw [ho]; exact hlp
              have hdp : (l[p]).dst = some d := by rw [hlp] at hd'; exact hd'
              rcases Nat.lt_or_gt_of_ne hjp with z | z
              · exact e2 j p oj l[p] z hoj' hop (hdj.trans hdp.symm)
              · exact e2 p j l[p] oj z hop hoj' (hdp.trans hdj.symm))
            rw [Array.getD_eq_getD_getElem?, this])
        rw [← hvs.1] at q2
        have e0 : (l.drop i).take 1 ++ (l.drop p).take 1 ++ l.drop (i + 1) = l[i] :: l[p] :: l.drop (i + 1) := by
          have z1 : (l.drop i).take 1 = [l[i]] := by rw [List.drop_eq_getElem_cons hn]; rfl
          have z2 : (l.drop p).take 1 = [l[p]] := by rw [List.drop_eq_getElem_cons (show p < l.length by omega)]; rfl
          rw [z1, z2]; rfl
        rw [e0] at q2
        have hw : wpOp P l.toArray Q i (wpList P l.toArray Q (l[p] :: l.drop (i + 1))) a' w' := by
          unfold wpOp; simp only [show l.toArray[i]? = some l[i] by simp]; exact q2
        rw [show 0 + (l.length - i) = (l.length - (i + 1)) + 1 by omega]
        refine wpOp_mono (fun a2 w2 h' => ?_) hw
        rw [hl]
        refine ⟨fun hr0 => (by rw [hrd2] at hr0; cases hr0), fun j hj => ?_⟩
        rw [hrd2] at hj
        have hj : j = p := by simpa using hj
        subst hj
        have hw2 : wpOp P l.toArray Q j (wpList P l.toArray Q (l.drop (i + 1))) a2 w2 := by
          unfold wpOp; simp only [show l.toArray[j]? = some l[j] by simp]; exact h'
        refine wpOp_mono (fun a3 w3 h3 => ?_) hw2
        have := wpAny_of_seq (P := P) (md := .any) (Q' := Q) (l.drop (i + 1)) (i + 1) _ a3 w3 (fun j => by simp [List.getElem?_drop]) (by rw [hdl]; exact hseq2) h3
        rwa [hdl] at this
      obtain ⟨hu, o, ho', hall⟩ := mem_ready.1 hi
      have hol : l[i]? = some o := by simpa using ho'
      have ho : (l.take n)[i]? = some o := by rw [htk i hin]; exact hol
      have hst := hstep i o ho a' w' h.ext (fun d hd' => h.slots d fun j p hj _ => hd' j p hj) (fun e he hb p d hp hpd => h.done e.on p d hp (hall e he hb) hpd)
      have next : ∀ v w'', Ext Non w' w'' → R i v w'' → wpAny P .any l.toArray Q (f + (l.length - n)) (listed.setIfInBounds i true) (a'.put o.dst v) w'' := by
        intro v w'' x hvv
        refine ih _ _ _ (h.put hd hmono ho hu x hvv) (hv.set hi hin) ?_
        have hsz : i < listed.size := by rw [hv.size]; simp; omega
        have e : (List.range n).filter (fun j => !(listed.setIfInBounds i true).getD j false) = ((List.range n).filter (fun j => !listed.getD j false)).filter (fun j => j != i) := by
          rw [List.filter_filter]
          apply List.filter_congr
          intro j _
          by_cases hji : j = i
          · subst hji; simp [hsz]
          · rw [getD_set_ne false (fun e => hji e.symm)]; simp [hji]
        rw [e]
        have hmem : i ∈ (List.range n).filter (fun j => !listed.getD j false) := by rw [List.mem_filter, List.mem_range]; exact ⟨hin, by rw [getD_both hu]; rfl⟩
        have hnd : ((List.range n).filter (fun j => !listed.getD j false)).Nodup := List.Pairwise.filter _ List.nodup_range
        have := hnd.erase_eq_filter i
        rw [← this, List.length_erase_of_mem hmem, hf]; rfl
      unfold wpOp
      rcases hst with ⟨hw, hr⟩ | ⟨hw, hvv⟩
      rotate_left
      · simp only [ho', hw]
        exact next undef w' (Ext.refl _ _) hvv
      simp only [ho', hw, if_true]
      left
      unfold relAt at hr
      unfold Oper.wp
      generalize (execOp a'.eval o).run P w' = r at hr
      cases r with
      | ok q w'' =>
        cases q <;> simp only [relUpon] at hr <;> simp only [Oper.upon]
        case value u => exact next u w'' hr.1 hr.2
        case skip => exact next undef w'' hr.1 hr.2
        case enter g args =>
          obtain ⟨rfl, hcc⟩ := hr
          exact hcc.mono fun e w3 ⟨v, he, x, hvv⟩ => by subst he; exact next v w3 x hvv
      | halt x w'' => simp only [relUpon] at hr
  refine wp_region_any hm ?_
  have hinit : ((List.range n).filter (fun i => !(Array.replicate l.toArray.size false).getD i false)).length = n := by
    have : (List.range n).filter (fun i => !(Array.replicate l.toArray.size false).getD i false) = List.range n := by
      rw [List.filter_eq_self]
      intro i _
      rw [getD_replicate_false]; rfl
    rw [this]; simp
  have := main n (Array.replicate l.toArray.size false) a { w with drawn := w.drawn + 1 } ⟨(Ext.refl Non w).drew, by simp; omega, rfl, rfl, fun _ _ => rfl, fun i o d _ hl => by rw [getD_replicate_false] at hl; cases hl⟩
    ⟨by simp, fun j oj _ hl => (by rw [getD_replicate_false] at hl; cases hl), fun t _ ht => getD_in (by simpa using ht) (getD_replicate_false _ _)⟩ hinit
  rw [show n + (l.length - n) = l.length by omega] at this
  simpa using this
end
end Go.Proofs.YtflpkoafebjfdaaGreat
