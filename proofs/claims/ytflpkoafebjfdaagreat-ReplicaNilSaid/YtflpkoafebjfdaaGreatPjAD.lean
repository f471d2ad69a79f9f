/- Joined texts: Rel. What each proves stands at its head; no conditions beside those in its theorems. -/
import Derived.StillTail
import Derived.Test.YtflpkoafebjfdaaGreatPjAB
/- A region that draws its order, whose operations make memory and write nothing old, by PREDICATES: what each operation yields is told by R i, which holds on as the world grows; whatever order is drawn, in the end all of them hold. -/
namespace Go.Proofs.YtflpkoafebjfdaaGreat
open Go.RowKit
set_option linter.unusedVariables false

/-- An operation, carried out in frame a and world w, yields a value of R and a world that grew. -/
def relUpon (P : Program) (w : World) (R : Value → World → Prop) : Result Next → Prop
  | .ok (.value v) w' => Ext Non w w' ∧ R v w'
  | .ok .skip w' => Ext Non w w' ∧ R undef w'
  | .ok (.enter f args) w' => w' = w ∧ Calls P f args w (fun e w'' => ∃ v, e = .returned v ∧ Ext Non w w'' ∧ R v w'')
  | _ => False
def relAt (P : Program) (o : Oper) (a : Act) (w : World) (R : Value → World → Prop) : Prop := relUpon P w R ((execOp a.eval o).run P w)

def topoB (ops : List Oper) : Nat → List Oper → Bool
  | _, [] => true
  | i, o :: t => o.after.all (fun e => !Region.binds .any e || decide (e.on < i)) && topoB ops (i + 1) t
/-- The slots are apart, and lie in the frame. -/
def dstB (n : Nat) : List Oper → Bool
  | [] => true
  | o :: t => (match o.dst with | some d => decide (d < n) && t.all (fun o' => o'.dst != some d) | none => false) && dstB n t
def putAll (vs : Nat → Value) : Nat → List Oper → Act → Act
  | _, [], a => a
  | i, o :: t, a => putAll vs (i + 1) t (a.put o.dst (vs i))

theorem topoB_spec (ops : List Oper) : ∀ (l : List Oper) (k : Nat), topoB ops k l = true → ∀ (j : Nat) (o : Oper), l[j]? = some o → ∀ e ∈ o.after, Region.binds .any e = true → e.on < k + j
  | [], _, _, j, o, h, _, _, _ => by simp at h
  | p :: t, k, hB, j, o, h, e, he, hb => by
    simp only [topoB, Bool.and_eq_true] at hB
    cases j with
    | zero =>
      simp at h; subst h
      have := Array.all_eq_true_iff_forall_mem.1 hB.1 e he
      rw [hb] at this
      simpa using this
    | succ j =>
      have := topoB_spec ops t (k + 1) hB.2 j o (by simpa using h) e he hb
      omega
theorem dstB_spec (n : Nat) : ∀ (l : List Oper), dstB n l = true → (∀ (j : Nat) (o : Oper), l[j]? = some o → ∃ d, o.dst = some d ∧ d < n) ∧ (∀ (i j : Nat) (oi oj : Oper), i < j → l[i]? = some oi → l[j]? = some oj → oi.dst ≠ oj.dst)
  | [], _ => ⟨fun j o h => by simp at h, fun i j oi oj _ h => by simp at h⟩
  | p :: t, hB => by
    simp only [dstB, Bool.and_eq_true] at hB
    obtain ⟨h1, h2⟩ := hB
    obtain ⟨i1, i2⟩ := dstB_spec n t h2
    cases hd : p.dst with
    | none => rw [hd] at h1; cases h1
    | some d =>
      rw [hd] at h1
      simp only [Bool.and_eq_true, decide_eq_true_eq, List.all_eq_true] at h1
      refine ⟨fun j o h => ?_, fun i j oi oj hij hi hj => ?_⟩
      · cases j with
        | zero => simp at h; subst h; exact ⟨d, hd, h1.1⟩
        | succ j => exact i1 j o (by simpa using h)
      · cases j with
        | zero => omega
        | succ j =>
          have hj' : t[j]? = some oj := by simpa using hj
          cases i with
          | zero =>
            simp at hi; subst hi
            have := h1.2 oj (List.mem_of_getElem? hj')
            intro e
            rw [← e, hd] at this
            simp at this
          | succ i => exact i2 i j oi oj (by omega) (by simpa using hi) hj'

section
variable {P : Program} {ops : List Oper} {a0 : Act} {w0 : World} {R : Nat → Value → World → Prop}
/-- How the region stands. -/
structure InvR (ops : List Oper) (a0 : Act) (w0 : World) (R : Nat → Value → World → Prop) (listed : Array Bool) (a : Act) (w : World) : Prop where
  ext : Ext Non w0 w
  lsize : ops.length ≤ listed.size
  size : a.tmps.size = a0.tmps.size
  defers : a.defers = a0.defers
  slots : ∀ d, (∀ (i : Nat) (o : Oper), ops[i]? = some o → listed.getD i false = true → o.dst ≠ some d) → a.tmps[d]? = a0.tmps[d]?
  done : ∀ (i : Nat) (o : Oper) d, ops[i]? = some o → listed.getD i false = true → o.dst = some d → R i (a.tmps.getD d undef) w
/-- What is asked of each operation. -/
def StepR (P : Program) (full ops : List Oper) (a0 : Act) (w0 : World) (R : Nat → Value → World → Prop) : Prop :=
  ∀ (i : Nat) (o : Oper), ops[i]? = some o → ∀ a w, Ext Non w0 w → (∀ d, (∀ (j : Nat) (p : Oper), ops[j]? = some p → p.dst ≠ some d) → a.tmps[d]? = a0.tmps[d]?) →
    (∀ e ∈ o.after, Region.binds .any e = true → ∀ (p : Oper) d, ops[e.on]? = some p → p.dst = some d → R e.on (a.tmps.getD d undef) w) →
    (Region.wanted o (yielded full.toArray a.tmps) = true ∧ relAt P o a w (R i)) ∨ (Region.wanted o (yielded full.toArray a.tmps) = false ∧ R i undef w)
theorem InvR.put {listed : Array Bool} {a : Act} {w w' : World} (h : InvR ops a0 w0 R listed a w) (hd : dstB a0.tmps.size ops = true) (hmono : ∀ i v w w', Ext Non w w' → R i v w → R i v w')
    {i : Nat} {o : Oper} {v : Value} (ho : ops[i]? = some o) (hu : listed.getD i true = false) (x : Ext Non w w') (hv : R i v w') : InvR ops a0 w0 R (listed.setIfInBounds i true) (a.put o.dst v) w' := by
  obtain ⟨hd1, hd2⟩ := dstB_spec _ _ hd
  obtain ⟨d, hdd, hdn⟩ := hd1 i o ho
  have hap : ∀ (j : Nat) (p : Oper) d', ops[j]? = some p → j ≠ i → p.dst = some d' → d' ≠ d := fun j p d' hj hji hp e => by
    subst e
    rcases Nat.lt_or_gt_of_ne hji with q | q
    · exact hd2 j i p o q hj ho (hp.trans hdd.symm)
    · exact hd2 i j o p q ho hj (hdd.trans hp.symm)
  have hput : a.put o.dst v = { a with tmps := a.tmps.setIfInBounds d v } := by rw [hdd]; rfl
  rw [hput]
  refine ⟨h.ext.trans x, by simpa using h.lsize, by simp [h.size], h.defers, fun d' hd' => ?_, fun j p d' hj hl hp => ?_⟩
  · have hne : d ≠ d' := fun e => by
      subst e
      exact hd' i o ho (by
        have hi : i < listed.size := Nat.lt_of_lt_of_le (List.getElem?_eq_some_iff.1 ho).1 h.lsize
        simp [hi]) hdd
    simp only [Array.getElem?_setIfInBounds, if_neg hne]
    refine h.slots d' fun j p hj hl => hd' j p hj ?_
    by_cases hji : i = j
    · subst hji
      have hi : i < listed.size := Nat.lt_of_lt_of_le (List.getElem?_eq_some_iff.1 ho).1 h.lsize
      simp [hi]
    · rw [getD_set_ne false hji]; exact hl
  · by_cases hji : j = i
    · subst hji
      have hpo : p = o := Option.some.inj (hj.symm.trans ho)
      subst hpo
      have : d' = d := Option.some.inj (hp.symm.trans hdd)
      subst this
      have e : (a.tmps.setIfInBounds d' v).getD d' undef = v := by simp [h.size, hdn]
      show R j ((a.tmps.setIfInBounds d' v).getD d' undef) w'
      rw [e]; exact hv
    · have hne := hap j p d' hj hji hp
      rw [getD_set_ne false (fun e => hji e.symm)] at hl
      have e : (a.tmps.setIfInBounds d v).getD d' undef = a.tmps.getD d' undef := by simp [Array.getElem?_setIfInBounds, Ne.symm hne]
      show R j ((a.tmps.setIfInBounds d v).getD d' undef) w'
      rw [e]
      exact hmono _ _ _ _ x (h.done j p d' hj hl hp)
theorem putAll_spec (vs : Nat → Value) : ∀ (l : List Oper) (k : Nat) (a : Act), dstB a.tmps.size l = true →
    (putAll vs k l a).defers = a.defers ∧ (putAll vs k l a).tmps.size = a.tmps.size ∧ (∀ d, (∀ (i : Nat) (o : Oper), l[i]? = some o → o.dst ≠ some d) → (putAll vs k l a).tmps[d]? = a.tmps[d]?) ∧ (∀ (i : Nat) (o : Oper) d, l[i]? = some o → o.dst = some d → (putAll vs k l a).tmps[d]? = some (vs (k + i)))
  | [], k, a, _ => ⟨rfl, rfl, fun _ _ => rfl, fun i o d h => by simp at h⟩
  | p :: t, k, a, hB => by
    obtain ⟨hd1, hd2⟩ := dstB_spec _ _ hB
    obtain ⟨d0, hd0, hn0⟩ := hd1 0 p rfl
    have hput : a.put p.dst (vs k) = { a with tmps := a.tmps.setIfInBounds d0 (vs k) } := by rw [hd0]; rfl
    have hB' : dstB (a.put p.dst (vs k)).tmps.size t = true := by
      rw [hput]
      simp only [dstB, Bool.and_eq_true] at hB
      simpa using hB.2
    obtain ⟨i1, i2, i3, i4⟩ := putAll_spec vs t (k + 1) (a.put p.dst (vs k)) hB'
    refine ⟨i1.trans (by rw [hput]), i2.trans (by rw [hput]; simp), fun d hd => ?_, fun i o d hi ho => ?_⟩
    · show (putAll vs (k + 1) t (a.put p.dst (vs k))).tmps[d]? = _
      rw [i3 d (fun i o h => hd (i + 1) o (by simpa using h)), hput]
      have hne : d0 ≠ d := fun e => hd 0 p rfl (by rw [hd0, e])
      simp only [Array.getElem?_setIfInBounds, if_neg hne]
    · show (putAll vs (k + 1) t (a.put p.dst (vs k))).tmps[d]? = _
      cases i with
      | zero =>
        simp at hi; subst hi
        have : d = d0 := Option.some.inj (ho.symm.trans hd0)
        subst this
        rw [i3 d (fun i o h e => hd2 0 (i + 1) p o (by omega) rfl (by simpa using h) (hd0.trans e.symm)), hput]
        simp [hn0]
      | succ i =>
        rw [i4 i o d (by simpa using hi) ho]
        congr 2; omega
theorem InvR.frame {listed : Array Bool} {a : Act} {w : World} (h : InvR ops a0 w0 R listed a w) (hd : dstB a0.tmps.size ops = true) (hall : ∀ i, i < ops.length → listed.getD i false = true) :
    ∃ vs : Nat → Value, a = putAll vs 0 ops a0 ∧ ∀ i, i < ops.length → R i (vs i) w := by
  obtain ⟨hd1, hd2⟩ := dstB_spec _ _ hd
  let vs : Nat → Value := fun i => match (ops[i]?).bind (·.dst) with | some d => a.tmps.getD d undef | none => undef
  obtain ⟨i1, i2, i3, i4⟩ := putAll_spec vs ops 0 a0 hd
  have hvs : ∀ (i : Nat) (o : Oper) d, ops[i]? = some o → o.dst = some d → vs i = a.tmps.getD d undef := fun i o d ho hd => by simp only [vs, ho, Option.bind_some, hd]
  refine ⟨vs, ?_, fun i hi => ?_⟩
  · have e : a.tmps = (putAll vs 0 ops a0).tmps := by
      apply Array.ext_getElem?
      intro d
      by_cases q : ∃ (i : Nat) (o : Oper), ops[i]? = some o ∧ o.dst = some d
      · obtain ⟨i, o, ho, hod⟩ := q
        rw [i4 i o d ho hod, Nat.zero_add, hvs i o d ho hod]
        obtain ⟨d', hd', hn⟩ := hd1 i o ho
        have : d = d' := Option.some.inj (hod.symm.trans hd')
        subst this
        have hsz : d < a.tmps.size := by rw [h.size]; exact hn
        simp [hsz]
      · have q' : ∀ (i : Nat) (o : Oper), ops[i]? = some o → o.dst ≠ some d := fun i o ho e => q ⟨i, o, ho, e⟩
        rw [i3 d q', h.slots d (fun i o ho _ => q' i o ho)]
    have e2 := h.defers.trans i1.symm
    generalize putAll vs 0 ops a0 = b at e e2
    cases a; cases b; simp at e e2; rw [e, e2]
  · have ho : ops[i]? = some ops[i] := List.getElem?_eq_getElem hi
    obtain ⟨d, hdd, _⟩ := hd1 i _ ho
    rw [hvs i _ d ho hdd]
    exact h.done i _ d ho (hall i hi) hdd
theorem wpAny_rel {Q : Exit → Act → World → Prop} (ht : topoB ops 0 ops = true) (hd : dstB a0.tmps.size ops = true) (hmono : ∀ i v w w', Ext Non w w' → R i v w → R i v w') (hstep : StepR P ops ops a0 w0 R)
    (hQ : ∀ (vs : Nat → Value) w', Ext Non w0 w' → (∀ i, i < ops.length → R i (vs i) w') → Q .normal (putAll vs 0 ops a0) w') :
    ∀ (fuel : Nat) (listed : Array Bool) (a : Act) (w : World), InvR ops a0 w0 R listed a w → (∀ i, fuel ≤ i → i < ops.length → True) → ((List.range ops.length).filter (fun i => !listed.getD i false)).length ≤ fuel → wpAny P .any ops.toArray Q fuel listed a w := by
  have fin : ∀ (listed : Array Bool) (a : Act) (w : World), InvR ops a0 w0 R listed a w → Region.ready .any ops.toArray listed = [] → Q .normal a w := by
    intro listed a w h hr
    have hall : ∀ n i, i < n → i < ops.length → listed.getD i false = true := by
      intro n
      induction n with
      | zero => intro i hi; omega
      | succ n ih =>
        intro i hi hil
        by_cases q : i < n
        · exact ih i q hil
        · have hin : i = n := by omega
          subst hin
          cases hg : listed.getD i false with
          | true => rfl
          | false =>
            exfalso
            have hm : i ∈ Region.ready .any ops.toArray listed := by
              refine mem_ready.2 ⟨?_, ops[i], by simp [hil], fun e he hb => ?_⟩
              · have : i < listed.size := Nat.lt_of_lt_of_le hil h.lsize
                simp [this] at hg ⊢; exact hg
              · have := topoB_spec ops ops 0 ht i ops[i] (List.getElem?_eq_getElem hil) e he hb
                exact ih e.on (by omega) (by omega)
            rw [hr] at hm; cases hm
    obtain ⟨vs, rfl, hv⟩ := h.frame hd (fun i hi => hall ops.length i hi hi)
    exact hQ vs w h.ext hv
  intro fuel
  induction fuel with
  | zero =>
    intro listed a w h _ hlen
    have hr : Region.ready .any ops.toArray listed = [] := by
      rw [List.eq_nil_iff_forall_not_mem]
      intro i hi
      obtain ⟨hu, o, ho, _⟩ := mem_ready.1 hi
      have hil : i < ops.length := by
        have := (Array.getElem?_eq_some_iff.1 ho).1; simpa using this
      have : i ∈ (List.range ops.length).filter (fun i => !listed.getD i false) := by
        rw [List.mem_filter, List.mem_range]
        exact ⟨hil, by rw [getD_both hu]; rfl⟩
      have := List.length_pos_of_mem this
      omega
    exact ⟨hr, fin _ _ _ h hr⟩
  | succ fuel ih =>
    intro listed a w h _ hlen
    refine ⟨fun hr => fin _ _ _ h hr, fun i hi => ?_⟩
    obtain ⟨hu, o, ho', hall⟩ := mem_ready.1 hi
    have ho : ops[i]? = some o := by simpa using ho'
    have hil : i < ops.length := (List.getElem?_eq_some_iff.1 ho).1
    have hst := hstep i o ho a w h.ext (fun d hd' => h.slots d fun j p hj _ => hd' j p hj) (fun e he hb p d hp hpd => h.done e.on p d hp (hall e he hb) hpd)
    have next : ∀ v w', Ext Non w w' → R i v w' → wpAny P .any ops.toArray Q fuel (listed.setIfInBounds i true) (a.put o.dst v) w' := by
      intro v w' x hv
      refine ih _ _ _ (h.put hd hmono ho hu x hv) (fun _ _ _ => trivial) ?_
      have hsz : i < listed.size := Nat.lt_of_lt_of_le hil h.lsize
      have hlt : ((List.range ops.length).filter (fun j => !(listed.setIfInBounds i true).getD j false)).length < ((List.range ops.length).filter (fun j => !listed.getD j false)).length := by
        have e : (List.range ops.length).filter (fun j => !(listed.setIfInBounds i true).getD j false) = ((List.range ops.length).filter (fun j => !listed.getD j false)).filter (fun j => j != i) := by
          rw [List.filter_filter]
          apply List.filter_congr
          intro j _
          by_cases hji : j = i
          · subst hji; simp [hsz]
          · rw [getD_set_ne false (fun e => hji e.symm)]; simp [hji]
        rw [e]
        refine List.length_filter_lt_length_iff_exists.2 ⟨i, ?_, by simp⟩
        rw [List.mem_filter, List.mem_range]
        exact ⟨hil, by rw [getD_both hu]; rfl⟩
      omega
    unfold wpOp
    rcases hst with ⟨hw, hr⟩ | ⟨hw, hv⟩
    rotate_left
    · simp only [ho', hw]
      exact next undef w (Ext.refl _ _) hv
    simp only [ho', hw, if_true]
    left
    unfold relAt at hr
    unfold Oper.wp
    generalize (execOp a.eval o).run P w = r at hr
    cases r with
    | ok n w' =>
      cases n <;> simp only [relUpon] at hr <;> simp only [Oper.upon]
      case value u => exact next u w' hr.1 hr.2
      case skip => exact next undef w' hr.1 hr.2
      case enter f args =>
        obtain ⟨rfl, hc⟩ := hr
        exact hc.mono fun e w'' ⟨v, he, x, hv⟩ => by subst he; exact next v w'' x hv
    | halt x w' => simp only [relUpon] at hr
/-- **The law.** -/
theorem wp_region_rel {id : Nat} {Q : Exit → Act → World → Prop} {a : Act} {w : World} {l : List Oper} (R : Nat → Value → World → Prop) (hm : P.follows .mixedOrders = true) (ht : topoB l 0 l = true) (hd : dstB a.tmps.size l = true)
    (hmono : ∀ i v w w', Ext Non w w' → R i v w → R i v w') (hstep : StepR P l l a w R)
    (hQ : ∀ (vs : Nat → Value) w', Ext Non w w' → (∀ i, i < l.length → R i (vs i) w') → Q .normal (putAll vs 0 l a) w') : (Code.region id l.toArray true).wp P Q a w := by
  refine wp_region_any hm ?_
  refine wpAny_rel ht hd hmono hstep hQ _ _ _ _ ⟨(Ext.refl Non w).drew, by simp, rfl, rfl, fun _ _ => rfl, fun i o d _ hl => ?_⟩ (fun _ _ _ => trivial) ?_
  · rw [getD_replicate_false] at hl; cases hl
  · refine Nat.le_trans (List.length_filter_le _ _) ?_
    simp
def headArr (len n : Nat) : Array Bool := ((List.range len).map fun i => decide (i < n)).toArray
/-- **The law with a tail**: the first n operations by predicates, then the others, in the order of the text. -/
theorem wp_region_rel_tail {id : Nat} {Q : Exit → Act → World → Prop} {a : Act} {w : World} {l : List Oper} (n : Nat) (R : Nat → Value → World → Prop) (hm : P.follows .mixedOrders = true) (ht : topoB (l.take n) 0 (l.take n) = true) (hd : dstB a.tmps.size (l.take n) = true)
    (hs : Region.sinkB .any l.toArray n = true) (hc : Region.chainB .any l.toArray n = true) (hn : n < l.length) (hseq : Region.seqB .any l.toArray (l.length - n) n (headArr l.length n) = true)
    (hmono : ∀ i v w w', Ext Non w w' → R i v w → R i v w') (hstep : StepR P l (l.take n) a w R)
    (hQ : ∀ (vs : Nat → Value) w', Ext Non w w' → (∀ i, i < n → R i (vs i) w') → wpList P l.toArray Q (l.drop n) (putAll vs 0 (l.take n) a) w') : (Code.region id l.toArray true).wp P Q a w := by
  have hlen : (l.take n).length = n := by simp; omega
  have htk : ∀ i, i < n → (l.take n)[i]? = l[i]? := fun i hi => by simp [hi]
  have main : ∀ (f : Nat) (listed : Array Bool) (a' : Act) (w' : World), InvR (l.take n) a w R listed a' w' → HeadInv .any l.toArray n listed → ((List.range n).filter (fun i => !listed.getD i false)).length = f → wpAny P .any l.toArray Q (f + (l.length - n)) listed a' w' := by
    intro f
    induction f with
    | zero =>
      intro listed a' w' h hv hf
      have hall : ∀ i, i < n → listed.getD i false = true := fun i hi => by
        cases hg : listed.getD i false with
        | true => rfl
        | false =>
          have : i ∈ (List.range n).filter (fun i => !listed.getD i false) := by rw [List.mem_filter, List.mem_range]; exact ⟨hi, by rw [hg]; rfl⟩
          have := List.length_pos_of_mem this
          omega
      have hl : listed = headArr l.length n := by
        apply Array.ext
        · rw [hv.size]; simp [headArr]
        · intro i h1 h2
          have hil : i < l.length := by have := hv.size; simp at this; omega
          have e : (headArr l.length n)[i] = decide (i < n) := by simp [headArr]
          rw [e]
          by_cases q : i < n
          · have := hall i q
            simp [h1] at this
            rw [this]; simp [q]
          · have := hv.tail i (by omega) (by simpa using hil)
            simp [h1] at this
            rw [this]; simp [q]
      obtain ⟨vs, rfl, hr⟩ := h.frame hd (fun i hi => hall i (by rw [hlen] at hi; exact hi))
      rw [Nat.zero_add, hl]
      have hdl : (l.drop n).length = l.length - n := by simp
      have := wpAny_of_seq (P := P) (md := .any) (Q' := Q) (l.drop n) n (headArr l.length n) (putAll vs 0 (l.take n) a) w' (fun j => by simp [List.getElem?_drop]) (by rw [hdl]; exact hseq) (hQ vs w' h.ext (fun i hi => hr i (by rw [hlen]; exact hi)))
      rwa [hdl] at this
    | succ f ih =>
      intro listed a' w' h hv hf
      obtain ⟨i0, hi0⟩ : ∃ i, i ∈ (List.range n).filter (fun i => !listed.getD i false) := by
        cases hq : (List.range n).filter (fun i => !listed.getD i false) with
        | nil => rw [hq] at hf; simp at hf
        | cons x t => exact ⟨x, by simp⟩
      rw [List.mem_filter, List.mem_range] at hi0
      have hne : ∃ i, i < n ∧ listed.getD i false = false ∧ ∀ j, j < i → listed.getD j false = true := by
        have : ∀ m, (∀ j, j < m → listed.getD j false = true) ∨ ∃ i, i < m ∧ listed.getD i false = false ∧ ∀ j, j < i → listed.getD j false = true := by
          intro m
          induction m with
          | zero => left; intro j hj; omega
          | succ m ihm =>
            rcases ihm with q | ⟨i, h1, h2, h3⟩
            · cases hg : listed.getD m false with
              | true =>
                left; intro j hj
                by_cases e : j = m
                · subst e; exact hg
                · exact q j (by omega)
              | false => right; exact ⟨m, by omega, hg, q⟩
            · right; exact ⟨i, by omega, h2, h3⟩
        rcases this n with q | q
        · have := q i0 hi0.1
          rw [this] at hi0; simp at hi0
        · exact q
      obtain ⟨i1, h1, h2, h3⟩ := hne
      have hil1 : i1 < l.length := by omega
      have hsz1 : i1 < listed.size := by rw [hv.size]; simpa using hil1
      have hrd : i1 ∈ Region.ready .any l.toArray listed := by
        refine mem_ready.2 ⟨getD_in hsz1 h2, l[i1], by simp [hil1], fun e he hb => ?_⟩
        have := topoB_spec (l.take n) (l.take n) 0 ht i1 l[i1] (by rw [htk i1 h1]; exact List.getElem?_eq_getElem hil1) e he hb
        exact h3 e.on (by omega)
      rw [show f + 1 + (l.length - n) = (f + (l.length - n)) + 1 by omega]
      refine ⟨fun hr => (by rw [hr] at hrd; cases hrd), fun i hi => ?_⟩
      have hin : i < n := by
        rcases Nat.lt_or_ge i n with q | q
        · exact q
        · exact absurd hi (tail_waits hs hc (by simpa using hn) hv _ i1 rfl h1 (getD_in hsz1 h2) i q)
      obtain ⟨hu, o, ho', hall⟩ := mem_ready.1 hi
      have hol : l[i]? = some o := by simpa using ho'
      have ho : (l.take n)[i]? = some o := by rw [htk i hin]; exact hol
      have hst := hstep i o ho a' w' h.ext (fun d hd' => h.slots d fun j p hj _ => hd' j p hj) (fun e he hb p d hp hpd => h.done e.on p d hp (hall e he hb) hpd)
      have next : ∀ v w'', Ext Non w' w'' → R i v w'' → wpAny P .any l.toArray Q (f + (l.length - n)) (listed.setIfInBounds i true) (a'.put o.dst v) w'' := by
        intro v w'' x hvv
        refine ih _ _ _ (h.put hd hmono ho hu x hvv) (hv.set hi hin) ?_
        have hsz : i < listed.size := by rw [hv.size]; simp; omega
        have e : (List.range n).filter (fun j => !(listed.setIfInBounds i true).getD j false) = ((List.range n).filter (fun j => !listed.getD j false)).filter (fun j => j != i) := by
          rw [List.filter_filter]
          apply List.filter_congr
          intro j _
          by_cases hji : j = i
          · subst hji; simp [hsz]
          · rw [getD_set_ne false (fun e => hji e.symm)]; simp [hji]
        rw [e]
        have hmem : i ∈ (List.range n).filter (fun j => !listed.getD j false) := by rw [List.mem_filter, List.mem_range]; exact ⟨hin, by rw [getD_both hu]; rfl⟩
        have hnd : ((List.range n).filter (fun j => !listed.getD j false)).Nodup := List.Pairwise.filter _ List.nodup_range
        have := hnd.erase_eq_filter i
        rw [← this, List.length_erase_of_mem hmem, hf]; rfl
      unfold wpOp
      rcases hst with ⟨hw, hr⟩ | ⟨hw, hvv⟩
      rotate_left
      · simp only [ho', hw]
        exact next undef w' (Ext.refl _ _) hvv
      simp only [ho', hw, if_true]
      left
      unfold relAt at hr
      unfold Oper.wp
      generalize (execOp a'.eval o).run P w' = r at hr
      cases r with
      | ok q w'' =>
        cases q <;> simp only [relUpon] at hr <;> simp only [Oper.upon]
        case value u => exact next u w'' hr.1 hr.2
        case skip => exact next undef w'' hr.1 hr.2
        case enter g args =>
          obtain ⟨rfl, hcc⟩ := hr
          exact hcc.mono fun e w3 ⟨v, he, x, hvv⟩ => by subst he; exact next v w3 x hvv
      | halt x w'' => simp only [relUpon] at hr
  refine wp_region_any hm ?_
  have hinit : ((List.range n).filter (fun i => !(Array.replicate l.toArray.size false).getD i false)).length = n := by
    have : (List.range n).filter (fun i => !(Array.replicate l.toArray.size false).getD i false) = List.range n := by
      rw [List.filter_eq_self]
      intro i _
      rw [getD_replicate_false]; rfl
    rw [this]; simp
  have := main n (Array.replicate l.toArray.size false) a { w with drawn := w.drawn + 1 } ⟨(Ext.refl Non w).drew, by simp; omega, rfl, rfl, fun _ _ => rfl, fun i o d _ hl => by rw [getD_replicate_false] at hl; cases hl⟩
    ⟨by simp, fun j oj _ hl => (by rw [getD_replicate_false] at hl; cases hl), fun t _ ht => getD_in (by simpa using ht) (getD_replicate_false _ _)⟩ hinit
  rw [show n + (l.length - n) = l.length by omega] at this
  simpa using this
/-- A predicate that holds on as the world grows. -/
structure Mo where
  p : Value → World → Prop
  mono : ∀ v w w', Ext Non w w' → p v w → p v w'
def Mo.is (u : Value) : Mo := ⟨fun v _ => v = u, fun _ _ _ _ h => h⟩
def Mo.any : Mo := ⟨fun _ _ => True, fun _ _ _ _ h => h⟩
def relR (Rs : List Mo) (i : Nat) : Value → World → Prop := (Rs.getD i Mo.any).p
theorem relR_mono (Rs : List Mo) : ∀ i v w w', Ext Non w w' → relR Rs i v w → relR Rs i v w' := fun i v w w' x h => (Rs.getD i Mo.any).mono v w w' x h
/-- What is asked of one operation. -/
def StepO (P : Program) (full ops : List Oper) (a0 : Act) (w0 : World) (R : Nat → Value → World → Prop) (i : Nat) (o : Oper) : Prop :=
  ∀ a w, Ext Non w0 w → (∀ d, ops.all (fun p => p.dst != some d) = true → a.tmps[d]?.getD undef = a0.tmps[d]?.getD undef) →
    (∀ j d, o.after.toList.any (fun e => e.on == j && Region.binds .any e) = true → (ops[j]?).bind (·.dst) = some d → R j (a.tmps[d]?.getD undef) w) →
    (Region.wanted o (yielded full.toArray a.tmps) = true ∧ relAt P o a w (R i)) ∨ (Region.wanted o (yielded full.toArray a.tmps) = false ∧ R i undef w)
def StepC (P : Program) (full ops : List Oper) (a0 : Act) (w0 : World) (R : Nat → Value → World → Prop) (i : Nat) (o : Oper) : Prop :=
  ∀ a w, Ext Non w0 w → (∀ d, ops.all (fun p => p.dst != some d) = true → a.tmps[d]?.getD undef = a0.tmps[d]?.getD undef) →
    (∀ j d, o.after.toList.any (fun e => e.on == j && Region.binds .any e) = true → (ops[j]?).bind (·.dst) = some d → R j (a.tmps[d]?.getD undef) w) →
    Region.wanted o (yielded full.toArray a.tmps) = true ∧ relAt P o a w (R i)
def StepD (P : Program) (full ops : List Oper) (a0 : Act) (w0 : World) (R : Nat → Value → World → Prop) : Nat → List Oper → Prop
  | _, [] => True
  | i, o :: t => StepO P full ops a0 w0 R i o ∧ StepD P full ops a0 w0 R (i + 1) t
def StepL (P : Program) (full ops : List Oper) (a0 : Act) (w0 : World) (R : Nat → Value → World → Prop) : Nat → List Oper → Prop
  | _, [] => True
  | i, o :: t => StepC P full ops a0 w0 R i o ∧ StepL P full ops a0 w0 R (i + 1) t
theorem StepL.dis {full ops : List Oper} : ∀ (l : List Oper) (k : Nat), StepL P full ops a0 w0 R k l → StepD P full ops a0 w0 R k l
  | [], _, _ => trivial
  | p :: t, k, hs => ⟨fun a w h1 h2 h3 => .inl (hs.1 a w h1 h2 h3), StepL.dis t (k + 1) hs.2⟩
theorem StepD.get {full ops : List Oper} : ∀ (l : List Oper) (k : Nat), StepD P full ops a0 w0 R k l → ∀ (i : Nat) (o : Oper), l[i]? = some o → StepO P full ops a0 w0 R (k + i) o
  | [], _, _, i, o, h => by simp at h
  | p :: t, k, hs, i, o, h => by
    cases i with
    | zero => simp at h; subst h; exact hs.1
    | succ i =>
      have := StepD.get t (k + 1) hs.2 i o (by simpa using h)
      rwa [show k + 1 + i = k + (i + 1) by omega] at this
theorem StepD.all {full ops : List Oper} (h : StepD P full ops a0 w0 R 0 ops) : StepR P full ops a0 w0 R := fun i o ho a w hx hs hd => by
  have := StepD.get ops 0 h i o ho
  rw [Nat.zero_add] at this
  refine this a w hx (fun d hd' => ?_) (fun j d hb hj => ?_)
  · have e := hs d (fun j p hj e => by
      have := List.all_eq_true.1 hd' p (List.mem_of_getElem? hj)
      rw [e] at this; simp at this)
    rw [e]
  · rw [List.any_eq_true] at hb
    obtain ⟨e, he, hb⟩ := hb
    have he : e ∈ o.after := by simpa using he
    simp only [Bool.and_eq_true, beq_iff_eq] at hb
    cases hp : ops[j]? with
    | none => rw [hp] at hj; cases hj
    | some p =>
      rw [hp] at hj
      have := hd e he hb.2 p d (by rw [hb.1]; exact hp) hj
      rw [hb.1, Array.getD_eq_getD_getElem?] at this
      exact this
theorem StepL.all {full ops : List Oper} (h : StepL P full ops a0 w0 R 0 ops) : StepR P full ops a0 w0 R := StepD.all (StepL.dis ops 0 h)
theorem wanted_of {full : List Oper} {o : Oper} {a : Act} {j d : Nat} {b : Bool} (hg : o.guard = some (j, b)) (hj : (full[j]?).bind (·.dst) = some d) (hv : a.tmps[d]?.getD undef = .bool b) : Region.wanted o (yielded full.toArray a.tmps) = true := by
  have e : a.tmps[d]? = some (.bool b) := by
    cases h : a.tmps[d]? with
    | none => rw [h] at hv; cases hv
    | some u => rw [h] at hv; exact congrArg some hv
  have hy : yielded full.toArray a.tmps j = some b := by
    unfold yielded
    have : ((full.toArray)[j]?).bind (·.dst) = some d := by simpa using hj
    rw [this]; simp [e]
  unfold Region.wanted
  rw [hg]; simp [hy]
theorem unwanted_of {full : List Oper} {o : Oper} {a : Act} {j d : Nat} {b c : Bool} (hg : o.guard = some (j, b)) (hj : (full[j]?).bind (·.dst) = some d) (hv : a.tmps[d]?.getD undef = .bool c) (hne : (c == b) = false) : Region.wanted o (yielded full.toArray a.tmps) = false := by
  have e : a.tmps[d]? = some (.bool c) := by
    cases h : a.tmps[d]? with
    | none => rw [h] at hv; cases hv
    | some u => rw [h] at hv; exact congrArg some hv
  have hy : yielded full.toArray a.tmps j = some c := by
    unfold yielded
    have : ((full.toArray)[j]?).bind (·.dst) = some d := by simpa using hj
    rw [this]; simp [e]
  unfold Region.wanted
  rw [hg]
  show (yielded full.toArray a.tmps j == some b) = false
  rw [hy]
  cases c <;> cases b <;> first | rfl | cases hne
end
end Go.Proofs.YtflpkoafebjfdaaGreat
