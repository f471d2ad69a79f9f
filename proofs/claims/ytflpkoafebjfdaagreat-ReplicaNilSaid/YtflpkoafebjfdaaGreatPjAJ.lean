/- Joined texts: RelM. What each proves stands at its head; no conditions beside those in its theorems. -/
import Derived.Carry
import Derived.Test.YtflpkoafebjfdaaGreatPjAF
/- The law of XRel for a region that makes two maps: they are two. Printed by wip/genrelm.py. -/
namespace Go.Proofs.YtflpkoafebjfdaaGreat
open Go.RowKit
set_option linter.unusedVariables false
set_option linter.unusedSimpArgs false
section
variable {P : Program} {ops : List Oper} {a0 : Act} {w0 : World} {R : Nat → Value → World → Prop}
theorem wp_region_rel_m_tail {id : Nat} {Q : Exit → Act → World → Prop} {a : Act} {w : World} {l : List Oper} (n p q dp dq : Nat) (R : Nat → Value → World → Prop) (hpq : p ≠ q) (hpn : p < n) (hqn : q < n) (hp0 : ∃ o t, l[p]? = some o ∧ o.op = .makeMap t none ∧ o.dst = some dp) (hq0 : ∃ o t, l[q]? = some o ∧ o.op = .makeMap t none ∧ o.dst = some dq) (hRp : ∀ u w, R p u w → ∃ m, u = .map (some m) ∧ m < w.heap.size) (hRq : ∀ u w, R q u w → ∃ m, u = .map (some m) ∧ m < w.heap.size) (hm : P.follows .mixedOrders = true) (ht : topoB (l.take n) 0 (l.take n) = true) (hd : dstB a.tmps.size (l.take n) = true)
    (hs : Region.sinkB .any l.toArray n = true) (hc : Region.chainB .any l.toArray n = true) (hn : n < l.length) (hseq : Region.seqB .any l.toArray (l.length - n) n (headArr l.length n) = true)
    (hmono : ∀ i v w w', Ext Non w w' → R i v w → R i v w') (hstep : StepR P l (l.take n) a w R)
    (hQ : ∀ (vs : Nat → Value) w', Ext Non w w' → (∀ i, i < n → R i (vs i) w') → vs p ≠ vs q → wpList P l.toArray Q (l.drop n) (putAll vs 0 (l.take n) a) w') : (Code.region id l.toArray true).wp P Q a w := by
  have hlen : (l.take n).length = n := by simp; omega
  have htk : ∀ i, i < n → (l.take n)[i]? = l[i]? := fun i hi => by simp [hi]
  have hp : ∃ o t, (l.take n)[p]? = some o ∧ o.op = .makeMap t none ∧ o.dst = some dp := by rw [htk p hpn]; exact hp0
  have hq : ∃ o t, (l.take n)[q]? = some o ∧ o.op = .makeMap t none ∧ o.dst = some dq := by rw [htk q hqn]; exact hq0
  have main : ∀ (f : Nat) (listed : Array Bool) (a' : Act) (w' : World), InvR (l.take n) a w R listed a' w' → (listed.getD p false = true → listed.getD q false = true → a'.tmps.getD dp undef ≠ a'.tmps.getD dq undef) → HeadInv .any l.toArray n listed → ((List.range n).filter (fun i => !listed.getD i false)).length = f → wpAny P .any l.toArray Q (f + (l.length - n)) listed a' w' := by
    intro f
    induction f with
    | zero =>
      intro listed a' w' h hJ hv hf
      have hall : ∀ i, i < n → listed.getD i false = true := fun i hi => by
        cases hg : listed.getD i false with
        | true => rfl
        | false =>
          have : i ∈ (List.range n).filter (fun i => !listed.getD i false) := by rw [List.mem_filter, List.mem_range]; exact ⟨hi, by rw [hg]; rfl⟩
          have := List.length_pos_of_mem this
          omega
      have hl : listed = headArr l.length n := by
        apply Array.ext
        · rw [hv.size]; simp [headArr]
        · intro i h1 h2
          have hil : i < l.length := by have := hv.size; simp at this; omega
          have e : (headArr l.length n)[i] = decide (i < n) := by simp [headArr]
          rw [e]
          by_cases q : i < n
          · have := hall i q
            simp [h1] at this
            rw [this]; simp [q]
          · have := hv.tail i (by omega) (by simpa using hil)
            simp [h1] at this
            rw [this]; simp [q]
      obtain ⟨vs, ⟨e1, hvs⟩, hr0⟩ := h.frameP hd
      have hr : ∀ i, i < (l.take n).length → R i (vs i) w' := fun i hi => hr0 i hi (hall i (by rw [hlen] at hi; exact hi))
      have hne : vs p ≠ vs q := by
        obtain ⟨op, tp, hp1, hp2, hp3⟩ := hp
        obtain ⟨oq, tq, hq1, hq2, hq3⟩ := hq
        have := hJ (hall p hpn) (hall q hqn)
        rwa [← hvs p op dp hp1 hp3, ← hvs q oq dq hq1 hq3] at this
      subst e1
      rw [Nat.zero_add, hl]
      have hdl : (l.drop n).length = l.length - n := by simp
      have := wpAny_of_seq (P := P) (md := .any) (Q' := Q) (l.drop n) n (headArr l.length n) (putAll vs 0 (l.take n) a) w' (fun j => by simp [List.getElem?_drop]) (by rw [hdl]; exact hseq) (hQ vs w' h.ext (fun i hi => hr i (by rw [hlen]; exact hi)) hne)
      rwa [hdl] at this
    | succ f ih =>
      intro listed a' w' h hJ hv hf
      obtain ⟨i0, hi0⟩ : ∃ i, i ∈ (List.range n).filter (fun i => !listed.getD i false) := by
        cases hq : (List.range n).filter (fun i => !listed.getD i false) with
        | nil => rw [hq] at hf; simp at hf
        | cons x t => exact ⟨x, by simp⟩
      rw [List.mem_filter, List.mem_range] at hi0
      have hne : ∃ i, i < n ∧ listed.getD i false = false ∧ ∀ j, j < i → listed.getD j false = true := by
        have : ∀ m, (∀ j, j < m → listed.getD j false = true) ∨ ∃ i, i < m ∧ listed.getD i false = false ∧ ∀ j, j < i → listed.getD j false = true := by
          intro m
          induction m with
          | zero => left; intro j hj; omega
          | succ m ihm =>
            rcases ihm with q | ⟨i, h1, h2, h3⟩
            · cases hg : listed.getD m false with
              | true =>
                left; intro j hj
                by_cases e : j = m
                · subst e; exact hg
                · exact q j (by omega)
              | false => right; exact ⟨m, by omega, hg, q⟩
            · right; exact ⟨i, by omega, h2, h3⟩
        rcases this n with q | q
        · have := q i0 hi0.1
          rw [this] at hi0; simp at hi0
        · exact q
      obtain ⟨i1, h1, h2, h3⟩ := hne
      have hil1 : i1 < l.length := by omega
      have hsz1 : i1 < listed.size := by rw [hv.size]; simpa using hil1
      have hrd : i1 ∈ Region.ready .any l.toArray listed := by
        refine mem_ready.2 ⟨getD_in hsz1 h2, l[i1], by simp [hil1], fun e he hb => ?_⟩
        have := topoB_spec (l.take n) (l.take n) 0 ht i1 l[i1] (by rw [htk i1 h1]; exact List.getElem?_eq_getElem hil1) e he hb
        exact h3 e.on (by omega)
      rw [show f + 1 + (l.length - n) = (f + (l.length - n)) + 1 by omega]
      refine ⟨fun hr => (by rw [hr] at hrd; cases hrd), fun i hi => ?_⟩
      have hin : i < n := by
        rcases Nat.lt_or_ge i n with q | q
        · exact q
        · exact absurd hi (tail_waits hs hc (by simpa using hn) hv _ i1 rfl h1 (getD_in hsz1 h2) i q)
      obtain ⟨hu, o, ho', hall⟩ := mem_ready.1 hi
      have hol : l[i]? = some o := by simpa using ho'
      have ho : (l.take n)[i]? = some o := by rw [htk i hin]; exact hol
      have hst := hstep i o ho a' w' h.ext (fun d hd' => h.slots d fun j p hj _ => hd' j p hj) (fun e he hb p d hp hpd => h.done e.on p d hp (hall e he hb) hpd)
      have next : ∀ v w'', (i = p ∨ i = q → v = .map (some w'.heap.size)) → Ext Non w' w'' → R i v w'' → wpAny P .any l.toArray Q (f + (l.length - n)) (listed.setIfInBounds i true) (a'.put o.dst v) w'' := by
        intro v w'' hvm x hvv
        refine ih _ _ _ (h.put hd hmono ho hu x hvv) ?_ (hv.set hi hin) ?_
        · obtain ⟨op, tp, hp1, hp2, hp3⟩ := hp
          obtain ⟨oq, tq, hq1, hq2, hq3⟩ := hq
          obtain ⟨hd1, hd2⟩ := dstB_spec _ _ hd
          have hdn : dp < a'.tmps.size := by
            obtain ⟨d, e, hn⟩ := hd1 p op hp1
            rw [h.size, show dp = d from Option.some.inj (hp3.symm.trans e)]; exact hn
          have hdm : dq < a'.tmps.size := by
            obtain ⟨d, e, hn⟩ := hd1 q oq hq1
            rw [h.size, show dq = d from Option.some.inj (hq3.symm.trans e)]; exact hn
          have hapart : ∀ (j k : Nat) (oj ok : Oper) (d : Nat), (l.take n)[j]? = some oj → (l.take n)[k]? = some ok → oj.dst = some d → ok.dst = some d → j = k := fun j k oj ok d h1 h2 h3 h4 => by
            rcases Nat.lt_trichotomy j k with z | z | z
            · exact absurd (h3.trans h4.symm) (hd2 j k oj ok z h1 h2)
            · exact z
            · exact absurd (h4.trans h3.symm) (hd2 k j ok oj z h2 h1)
          have hdpq : dp ≠ dq := fun e => hpq (hapart p q op oq dp hp1 hq1 hp3 (by rw [e]; exact hq3))
          obtain ⟨d, hod, hdl⟩ := hd1 i o ho
          have hput : (a'.put o.dst v).tmps = a'.tmps.setIfInBounds d v := by rw [hod]; rfl
          rw [hput]
          intro hl1 hl2
          by_cases ip : i = p
          · subst ip
            have e1 : d = dp := by have : o = op := Option.some.inj (ho.symm.trans hp1); subst this; exact Option.some.inj (hod.symm.trans hp3)
            subst e1
            have hlq : listed.getD q false = true := by rwa [getD_set_ne false hpq] at hl2
            obtain ⟨m, hm1, hm2⟩ := hRq _ _ (h.done q oq dq hq1 hlq hq3)
            have v1 : (a'.tmps.setIfInBounds d v).getD d undef = v := by simp [hdn]
            have v2 : (a'.tmps.setIfInBounds d v).getD dq undef = a'.tmps.getD dq undef := by simp [Array.getElem?_setIfInBounds, hdpq]
            rw [v1, v2, hm1, hvm (.inl rfl)]
            intro e; injection e with e; injection e with e; omega
          · by_cases iq : i = q
            · subst iq
              have e1 : d = dq := by have : o = oq := Option.some.inj (ho.symm.trans hq1); subst this; exact Option.some.inj (hod.symm.trans hq3)
              subst e1
              have hlp : listed.getD p false = true := by rwa [getD_set_ne false (fun e => hpq e.symm)] at hl1
              obtain ⟨m, hm1, hm2⟩ := hRp _ _ (h.done p op dp hp1 hlp hp3)
              have v1 : (a'.tmps.setIfInBounds d v).getD d undef = v := by simp [hdm]
              have v2 : (a'.tmps.setIfInBounds d v).getD dp undef = a'.tmps.getD dp undef := by simp [Array.getElem?_setIfInBounds, Ne.symm hdpq]
              rw [v1, v2, hm1, hvm (.inr rfl)]
              intro e; injection e with e; injection e with e; omega
            · have dn1 : d ≠ dp := fun e => ip (hapart i p o op d ho hp1 hod (by rw [e]; exact hp3))
              have dn2 : d ≠ dq := fun e => iq (hapart i q o oq d ho hq1 hod (by rw [e]; exact hq3))
              rw [getD_set_ne false ip] at hl1
              rw [getD_set_ne false iq] at hl2
              have v1 : (a'.tmps.setIfInBounds d v).getD dp undef = a'.tmps.getD dp undef := by simp [Array.getElem?_setIfInBounds, dn1]
              have v2 : (a'.tmps.setIfInBounds d v).getD dq undef = a'.tmps.getD dq undef := by simp [Array.getElem?_setIfInBounds, dn2]
              rw [v1, v2]
              exact hJ hl1 hl2
        have hsz : i < listed.size := by rw [hv.size]; simp; omega
        have e : (List.range n).filter (fun j => !(listed.setIfInBounds i true).getD j false) = ((List.range n).filter (fun j => !listed.getD j false)).filter (fun j => j != i) := by
          rw [List.filter_filter]
          apply List.filter_congr
          intro j _
          by_cases hji : j = i
          · subst hji; simp [hsz]
          · rw [getD_set_ne false (fun e => hji e.symm)]; simp [hji]
        rw [e]
        have hmem : i ∈ (List.range n).filter (fun j => !listed.getD j false) := by rw [List.mem_filter, List.mem_range]; exact ⟨hin, by rw [getD_both hu]; rfl⟩
        have hnd : ((List.range n).filter (fun j => !listed.getD j false)).Nodup := List.Pairwise.filter _ List.nodup_range
        have := hnd.erase_eq_filter i
        rw [← this, List.length_erase_of_mem hmem, hf]; rfl
      unfold wpOp
      rcases hst with ⟨hw, hr⟩ | ⟨hw, hvv⟩
      rotate_left
      · simp only [ho', hw]
        have hnm : ¬ (i = p ∨ i = q) := fun hm => by
          rcases hm with rfl | rfl
          · obtain ⟨m, hm1, -⟩ := hRp _ _ hvv; cases hm1
          · obtain ⟨m, hm1, -⟩ := hRq _ _ hvv; cases hm1
        exact next undef w' (fun hm => absurd hm hnm) (Ext.refl _ _) hvv
      simp only [ho', hw, if_true]
      left
      unfold relAt at hr
      unfold Oper.wp
      have hmk : i = p ∨ i = q → (execOp a'.eval o).run P w' = .ok (.value (.map (some w'.heap.size))) (w'.alloc (.map #[] 0)) := fun hm => by
        have hop : ∃ t, o.op = .makeMap t none := by
          rcases hm with e | e
          · obtain ⟨op, tp, hp1, hp2, -⟩ := hp
            rw [e] at ho
            have : o = op := Option.some.inj (ho.symm.trans hp1)
            exact ⟨tp, by rw [this]; exact hp2⟩
          · obtain ⟨oq, tq, hq1, hq2, -⟩ := hq
            rw [e] at ho
            have : o = oq := Option.some.inj (ho.symm.trans hq1)
            exact ⟨tq, by rw [this]; exact hq2⟩
        obtain ⟨t, ht⟩ := hop
        unfold execOp
        simp only [ht, Option.map_none, Sem.run_bind, run_makeMap, Result.andThen_ok, Sem.run_pure]
      generalize (execOp a'.eval o).run P w' = r at hr hmk
      cases r with
      | ok q w'' =>
        cases q <;> simp only [relUpon] at hr <;> simp only [Oper.upon]
        case value u => exact next u w'' (fun hm => by have := hmk hm; injection this with this; injection this) hr.1 hr.2
        case skip => exact next undef w'' (fun hm => by have := hmk hm; injection this with this; cases this) hr.1 hr.2
        case enter g args =>
          have hnm : ¬ (i = p ∨ i = q) := fun hm => by have := hmk hm; injection this with this; cases this
          obtain ⟨rfl, hcc⟩ := hr
          exact hcc.mono fun e w3 ⟨v, he, x, hvv⟩ => by subst he; exact next v w3 (fun hm => absurd hm hnm) x hvv
      | halt x w'' => simp only [relUpon] at hr
  refine wp_region_any hm ?_
  have hinit : ((List.range n).filter (fun i => !(Array.replicate l.toArray.size false).getD i false)).length = n := by
    have : (List.range n).filter (fun i => !(Array.replicate l.toArray.size false).getD i false) = List.range n := by
      rw [List.filter_eq_self]
      intro i _
      rw [getD_replicate_false]; rfl
    rw [this]; simp
  have := main n (Array.replicate l.toArray.size false) a { w with drawn := w.drawn + 1 } ⟨(Ext.refl Non w).drew, by simp; omega, rfl, rfl, fun _ _ => rfl, fun i o d _ hl => by rw [getD_replicate_false] at hl; cases hl⟩ (fun hl _ => by rw [getD_replicate_false] at hl; cases hl)
    ⟨by simp, fun j oj _ hl => (by rw [getD_replicate_false] at hl; cases hl), fun t _ ht => getD_in (by simpa using ht) (getD_replicate_false _ _)⟩ hinit
  rw [show n + (l.length - n) = l.length by omega] at this
  simpa using this
end
/-- A new map. -/
def moMap (n : Nat) : Mo := ⟨fun v w => ∃ m, v = .map (some m) ∧ n ≤ m ∧ w.heap[m]? = some (.map #[] 0), fun _ _ _ x ⟨m, e, hn, h⟩ => ⟨m, e, hn, (x.block m (Array.getElem?_eq_some_iff.1 h).1 (fun f => f)).trans h⟩⟩
theorem moMap_lt {n : Nat} {u : Value} {w : World} (h : (moMap n).p u w) : ∃ m, u = .map (some m) ∧ m < w.heap.size := by
  obtain ⟨m, e, -, h⟩ := h
  exact ⟨m, e, (Array.getElem?_eq_some_iff.1 h).1⟩
end Go.Proofs.YtflpkoafebjfdaaGreat
