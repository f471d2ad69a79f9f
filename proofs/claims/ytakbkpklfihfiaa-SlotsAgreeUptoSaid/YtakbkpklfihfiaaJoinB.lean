/- Joined texts: Ew, Rel, Council, Reals, Read. What each proves stands at its head; no conditions beside those in its theorems. -/
import Derived.Test.YtakbkpklfihfiaaJoinA
import Derived.StillTail
import Derived.Test.YtakbkpklfihfiaaProg
import Derived.ProofKit
import Derived.Deep.Slices
import Derived.Lib.SmallJoins
/- Worlds that grew: 'x : EW S w' is a world behind w in which only blocks of S, and new ones, were written. The walk's simp reads old cells through it. A region that draws its order, whose callees only make memory, walked once. -/
namespace Go.Proofs.Ytakbkpklfihfiaa
open Go.RowKit
set_option linter.unusedVariables false

/-- A world behind w, nothing old but S written. -/
structure EW (S : Nat → Prop) (w : World) where
  on : World
  ext : Ext S w on
instance {S : Nat → Prop} {w : World} : Nonempty (EW S w) := ⟨⟨w, Ext.refl S w⟩⟩
theorem Ext.ew {S : Nat → Prop} {w w' : World} (x : Ext S w w') : ∃ y : EW S w, w' = y.on := ⟨⟨w', x⟩, rfl⟩
open Classical in
/-- What stands in a cell that w does not tell of. -/
noncomputable def restC (w w' : World) (p : Addr) : Option Value := if (w.cell? p).isSome = false then w'.cell? p else none
open Classical in
noncomputable def restF (w w' : World) (p : Addr) : Bool := w'.frozen? p
theorem Ext.cell_keep {S : Nat → Prop} {w w' : World} (x : Ext S w w') {p : Addr} (hS : ¬ S p.block) : w'.cell? p = (w.cell? p).or (restC w w' p) := by
  unfold restC
  cases h : w.cell? p with
  | none => simp
  | some v =>
    have := x.cell (p := p) (lt_of_cell h) hS
    rw [this, h]; simp
theorem Ext.froz_keep {S : Nat → Prop} {w w' : World} (x : Ext S w w') {p : Addr} (hS : ¬ S p.block) : w'.frozen? p = if (w.cell? p).isSome = true then w.frozen? p else restF w w' p := by
  unfold restF
  cases h : w.cell? p with
  | none => simp
  | some v => simpa using x.froz (p := p) (lt_of_cell h) hS
theorem EW.cellN {w : World} (x : EW Non w) (p : Addr) : x.on.cell? p = (w.cell? p).or (restC w x.on p) := x.ext.cell_keep (fun f => f)
theorem EW.frozN {w : World} (x : EW Non w) (p : Addr) : x.on.frozen? p = if (w.cell? p).isSome = true then w.frozen? p else restF w x.on p := x.ext.froz_keep (fun f => f)
theorem EW.cell1 {w : World} {b : Nat} (x : EW (One b) w) (k i : Nat) (s : Option Nat) (h : (k = b) = False) : x.on.cell? ⟨k, i, s⟩ = (w.cell? ⟨k, i, s⟩).or (restC w x.on ⟨k, i, s⟩) := x.ext.cell_keep (fun f => by rw [← h]; exact f)
theorem EW.froz1 {w : World} {b : Nat} (x : EW (One b) w) (k i : Nat) (s : Option Nat) (h : (k = b) = False) : x.on.frozen? ⟨k, i, s⟩ = if (w.cell? ⟨k, i, s⟩).isSome = true then w.frozen? ⟨k, i, s⟩ else restF w x.on ⟨k, i, s⟩ := x.ext.froz_keep (fun f => by rw [← h]; exact f)
theorem alloc_cell_or (w : World) (o : Obj) (p : Addr) : (w.alloc o).cell? p = (w.cell? p).or (restC w (w.alloc o) p) := ((Ext.refl Non w).alloc o).cell_keep (fun f => f)
theorem alloc_froz_or (w : World) (o : Obj) (p : Addr) : (w.alloc o).frozen? p = if (w.cell? p).isSome = true then w.frozen? p else restF w (w.alloc o) p := ((Ext.refl Non w).alloc o).froz_keep (fun f => f)

theorem Ext.upN {S : Nat → Prop} {a w : World} {x : EW Non w} (h : Ext S a w) : Ext S a x.on := h.trans x.ext.ofNon
theorem Ext.up1 {b : Nat} {a w : World} {x : EW (One b) w} (h : Ext (One b) a w) : Ext (One b) a x.on := h.trans x.ext
theorem Ext.upNew {b : Nat} {a w : World} {x : EW (One b) w} (hb : a.heap.size ≤ b) (h : Ext Non a w) : Ext Non a x.on := h.step x.ext (fun i hi e => by unfold One at e; omega)

section
variable {P : Program} {ops : Array Oper} {C : World → Prop}
/-- A region whose operations are written out, at the class 'w and what grows of it'. -/
theorem wp_region_ext_lit {id : Nat} {Q : Exit → Act → World → Prop} {a : Act} {w : World} {l : List Oper} (hm : P.follows .mixedOrders = true) (hB : Region.lexB .any l.toArray = true)
    (h : wpQuiet P l.toArray (fun w' => ∃ x : EW Non w, w' = x.on) (fun a' => ∀ w', (∃ x : EW Non w, w' = x.on) → Q .normal a' w') l a) : (Code.region id l.toArray true).wp P Q a w :=
  wp_region_quiet (C := fun w' => ∃ x : EW Non w, w' = x.on) hm hB ⟨⟨w.drew, (Ext.refl Non w).drew⟩, rfl⟩ (by simpa using h)
/-- A callee's contract, met in a world behind w. -/
theorem Calls.ext_of {f : FuncId} {args : Array Value} {w : World} {x : EW Non w} {v : Value}
    (h : Calls P f args x.on fun e w' => e = .returned v ∧ Ext Non x.on w') : Calls P f args x.on fun e w'' => e = .returned v ∧ ∃ y : EW Non w, w'' = y.on :=
  h.mono fun _ _ ⟨he, hx⟩ => ⟨he, ⟨_, x.ext.trans hx⟩, rfl⟩
theorem Calls.ext_eq {f : FuncId} {args : Array Value} {w : World} {x : EW Non w} {v : Value}
    (h : Calls P f args x.on fun e w' => e = .returned v ∧ x.on = w') : Calls P f args x.on fun e w'' => e = .returned v ∧ ∃ y : EW Non w, w'' = y.on :=
  h.mono fun _ _ ⟨he, hx⟩ => ⟨he, x, hx.symm⟩
theorem Calls.ext_drew {f : FuncId} {args : Array Value} {w : World} {x : EW Non w} {v : Value}
    (h : Calls P f args x.on fun e w' => e = .returned v ∧ ∃ n, w' = x.on.drewN n) : Calls P f args x.on fun e w'' => e = .returned v ∧ ∃ y : EW Non w, w'' = y.on :=
  h.mono fun _ _ ⟨he, n, hx⟩ => ⟨he, ⟨_, x.ext.drewN n⟩, hx⟩
theorem Calls.ext_ofv {f : FuncId} {args : Array Value} {w : World} {x : EW Non w} {u v : Value}
    (h : Calls P f args x.on fun e w' => e = .returned u ∧ Ext Non x.on w') (hv : u = v) : Calls P f args x.on fun e w'' => e = .returned v ∧ ∃ y : EW Non w, w'' = y.on := by subst hv; exact Calls.ext_of h
theorem Calls.ext_eqv {f : FuncId} {args : Array Value} {w : World} {x : EW Non w} {u v : Value}
    (h : Calls P f args x.on fun e w' => e = .returned u ∧ x.on = w') (hv : u = v) : Calls P f args x.on fun e w'' => e = .returned v ∧ ∃ y : EW Non w, w'' = y.on := by subst hv; exact Calls.ext_eq h
theorem Calls.ext_drewv {f : FuncId} {args : Array Value} {w : World} {x : EW Non w} {u v : Value}
    (h : Calls P f args x.on fun e w' => e = .returned u ∧ ∃ n, w' = x.on.drewN n) (hv : u = v) : Calls P f args x.on fun e w'' => e = .returned v ∧ ∃ y : EW Non w, w'' = y.on := by subst hv; exact Calls.ext_drew h
/-- The same three, for a walk outside such regions: the world behind the call is a world that grew. -/
theorem Calls.ew {f : FuncId} {args : Array Value} {S : Nat → Prop} {w : World} {R : Ending → Prop} {Q : Ending → World → Prop} (h : Calls P f args w fun e w' => R e ∧ Ext S w w') (k : ∀ e (y : EW S w), R e → Q e y.on) : Calls P f args w Q :=
  h.mono fun e w' ⟨he, hx⟩ => k e ⟨w', hx⟩ he
theorem Calls.ewD {f : FuncId} {args : Array Value} {w : World} {R : Ending → Prop} {Q : Ending → World → Prop} (h : Calls P f args w fun e w' => R e ∧ ∃ n, w' = w.drewN n) (k : ∀ e (y : EW Non w), R e → Q e y.on) : Calls P f args w Q :=
  h.mono fun e w' ⟨he, n, hx⟩ => by subst hx; exact k e ⟨_, (Ext.refl Non w).drewN n⟩ he
end
end Go.Proofs.Ytakbkpklfihfiaa

/- A region that draws its order, whose operations make memory and write nothing old, by PREDICATES: what each operation yields is told by R i, which holds on as the world grows; whatever order is drawn, in the end all of them hold. -/
namespace Go.Proofs.Ytakbkpklfihfiaa
open Go.RowKit
set_option linter.unusedVariables false

/-- An operation, carried out in frame a and world w, yields a value of R and a world that grew. -/
def relUpon (P : Program) (w : World) (R : Value → World → Prop) : Result Next → Prop
  | .ok (.value v) w' => Ext Non w w' ∧ R v w'
  | .ok .skip w' => Ext Non w w' ∧ R undef w'
  | .ok (.enter f args) w' => w' = w ∧ Calls P f args w (fun e w'' => ∃ v, e = .returned v ∧ Ext Non w w'' ∧ R v w'')
  | _ => False
def relAt (P : Program) (o : Oper) (a : Act) (w : World) (R : Value → World → Prop) : Prop := relUpon P w R ((execOp a.eval o).run P w)

def topoB (ops : List Oper) : Nat → List Oper → Bool
  | _, [] => true
  | i, o :: t => o.after.all (fun e => !Region.binds .any e || decide (e.on < i)) && topoB ops (i + 1) t
/-- The slots are apart, and lie in the frame. -/
def dstB (n : Nat) : List Oper → Bool
  | [] => true
  | o :: t => (match o.dst with | some d => decide (d < n) && t.all (fun o' => o'.dst != some d) | none => false) && dstB n t
def putAll (vs : Nat → Value) : Nat → List Oper → Act → Act
  | _, [], a => a
  | i, o :: t, a => putAll vs (i + 1) t (a.put o.dst (vs i))

theorem topoB_spec (ops : List Oper) : ∀ (l : List Oper) (k : Nat), topoB ops k l = true → ∀ (j : Nat) (o : Oper), l[j]? = some o → ∀ e ∈ o.after, Region.binds .any e = true → e.on < k + j
  | [], _, _, j, o, h, _, _, _ => by simp at h
  | p :: t, k, hB, j, o, h, e, he, hb => by
    simp only [topoB, Bool.and_eq_true] at hB
    cases j with
    | zero =>
      simp at h; subst h
      have := Array.all_eq_true_iff_forall_mem.1 hB.1 e he
      rw [hb] at this
      simpa using this
    | succ j =>
      have := topoB_spec ops t (k + 1) hB.2 j o (by simpa using h) e he hb
      omega
theorem dstB_spec (n : Nat) : ∀ (l : List Oper), dstB n l = true → (∀ (j : Nat) (o : Oper), l[j]? = some o → ∃ d, o.dst = some d ∧ d < n) ∧ (∀ (i j : Nat) (oi oj : Oper), i < j → l[i]? = some oi → l[j]? = some oj → oi.dst ≠ oj.dst)
  | [], _ => ⟨fun j o h => by simp at h, fun i j oi oj _ h => by simp at h⟩
  | p :: t, hB => by
    simp only [dstB, Bool.and_eq_true] at hB
    obtain ⟨h1, h2⟩ := hB
    obtain ⟨i1, i2⟩ := dstB_spec n t h2
    cases hd : p.dst with
    | none => rw [hd] at h1; cases h1
    | some d =>
      rw [hd] at h1
      simp only [Bool.and_eq_true, decide_eq_true_eq, List.all_eq_true] at h1
      refine ⟨fun j o h => ?_, fun i j oi oj hij hi hj => ?_⟩
      · cases j with
        | zero => simp at h; subst h; exact ⟨d, hd, h1.1⟩
        | succ j => exact i1 j o (by simpa using h)
      · cases j with
        | zero => omega
        | succ j =>
          have hj' : t[j]? = some oj := by simpa using hj
          cases i with
          | zero =>
            simp at hi; subst hi
            have := h1.2 oj (List.mem_of_getElem? hj')
            intro e
            rw [← e, hd] at this
            simp at this
          | succ i => exact i2 i j oi oj (by omega) (by simpa using hi) hj'

section
variable {P : Program} {ops : List Oper} {a0 : Act} {w0 : World} {R : Nat → Value → World → Prop}
/-- How the region stands. -/
structure InvR (ops : List Oper) (a0 : Act) (w0 : World) (R : Nat → Value → World → Prop) (listed : Array Bool) (a : Act) (w : World) : Prop where
  ext : Ext Non w0 w
  lsize : ops.length ≤ listed.size
  size : a.tmps.size = a0.tmps.size
  defers : a.defers = a0.defers
  slots : ∀ d, (∀ (i : Nat) (o : Oper), ops[i]? = some o → listed.getD i false = true → o.dst ≠ some d) → a.tmps[d]? = a0.tmps[d]?
  done : ∀ (i : Nat) (o : Oper) d, ops[i]? = some o → listed.getD i false = true → o.dst = some d → R i (a.tmps.getD d undef) w
/-- What is asked of each operation. -/
def StepR (P : Program) (full ops : List Oper) (a0 : Act) (w0 : World) (R : Nat → Value → World → Prop) : Prop :=
  ∀ (i : Nat) (o : Oper), ops[i]? = some o → ∀ a w, Ext Non w0 w → (∀ d, (∀ (j : Nat) (p : Oper), ops[j]? = some p → p.dst ≠ some d) → a.tmps[d]? = a0.tmps[d]?) →
    (∀ e ∈ o.after, Region.binds .any e = true → ∀ (p : Oper) d, ops[e.on]? = some p → p.dst = some d → R e.on (a.tmps.getD d undef) w) →
    (Region.wanted o (yielded full.toArray a.tmps) = true ∧ relAt P o a w (R i)) ∨ (Region.wanted o (yielded full.toArray a.tmps) = false ∧ R i undef w)
theorem InvR.put {listed : Array Bool} {a : Act} {w w' : World} (h : InvR ops a0 w0 R listed a w) (hd : dstB a0.tmps.size ops = true) (hmono : ∀ i v w w', Ext Non w w' → R i v w → R i v w')
    {i : Nat} {o : Oper} {v : Value} (ho : ops[i]? = some o) (hu : listed.getD i true = false) (x : Ext Non w w') (hv : R i v w') : InvR ops a0 w0 R (listed.setIfInBounds i true) (a.put o.dst v) w' := by
  obtain ⟨hd1, hd2⟩ := dstB_spec _ _ hd
  obtain ⟨d, hdd, hdn⟩ := hd1 i o ho
  have hap : ∀ (j : Nat) (p : Oper) d', ops[j]? = some p → j ≠ i → p.dst = some d' → d' ≠ d := fun j p d' hj hji hp e => by
    subst e
    rcases Nat.lt_or_gt_of_ne hji with q | q
    · exact hd2 j i p o q hj ho (hp.trans hdd.symm)
    · exact hd2 i j o p q ho hj (hdd.trans hp.symm)
  have hput : a.put o.dst v = { a with tmps := a.tmps.setIfInBounds d v } := by rw [hdd]; rfl
  rw [hput]
  refine ⟨h.ext.trans x, by simpa using h.lsize, by simp [h.size], h.defers, fun d' hd' => ?_, fun j p d' hj hl hp => ?_⟩
  · have hne : d ≠ d' := fun e => by
      subst e
      exact hd' i o ho (by
        have hi : i < listed.size := Nat.lt_of_lt_of_le (List.getElem?_eq_some_iff.1 ho).1 h.lsize
        simp [hi]) hdd
    simp only [Array.getElem?_setIfInBounds, if_neg hne]
    refine h.slots d' fun j p hj hl => hd' j p hj ?_
    by_cases hji : i = j
    · subst hji
      have hi : i < listed.size := Nat.lt_of_lt_of_le (List.getElem?_eq_some_iff.1 ho).1 h.lsize
      simp [hi]
    · rw [getD_set_ne false hji]; exact hl
  · by_cases hji : j = i
    · subst hji
      have hpo : p = o := Option.some.inj (hj.symm.trans ho)
      subst hpo
      have : d' = d := Option.some.inj (hp.symm.trans hdd)
      subst this
      have e : (a.tmps.setIfInBounds d' v).getD d' undef = v := by simp [h.size, hdn]
      show R j ((a.tmps.setIfInBounds d' v).getD d' undef) w'
      rw [e]; exact hv
    · have hne := hap j p d' hj hji hp
      rw [getD_set_ne false (fun e => hji e.symm)] at hl
      have e : (a.tmps.setIfInBounds d v).getD d' undef = a.tmps.getD d' undef := by simp [Array.getElem?_setIfInBounds, Ne.symm hne]
      show R j ((a.tmps.setIfInBounds d v).getD d' undef) w'
      rw [e]
      exact hmono _ _ _ _ x (h.done j p d' hj hl hp)
theorem putAll_spec (vs : Nat → Value) : ∀ (l : List Oper) (k : Nat) (a : Act), dstB a.tmps.size l = true →
    (putAll vs k l a).defers = a.defers ∧ (putAll vs k l a).tmps.size = a.tmps.size ∧ (∀ d, (∀ (i : Nat) (o : Oper), l[i]? = some o → o.dst ≠ some d) → (putAll vs k l a).tmps[d]? = a.tmps[d]?) ∧ (∀ (i : Nat) (o : Oper) d, l[i]? = some o → o.dst = some d → (putAll vs k l a).tmps[d]? = some (vs (k + i)))
  | [], k, a, _ => ⟨rfl, rfl, fun _ _ => rfl, fun i o d h => by simp at h⟩
  | p :: t, k, a, hB => by
    obtain ⟨hd1, hd2⟩ := dstB_spec _ _ hB
    obtain ⟨d0, hd0, hn0⟩ := hd1 0 p rfl
    have hput : a.put p.dst (vs k) = { a with tmps := a.tmps.setIfInBounds d0 (vs k) } := by rw [hd0]; rfl
    have hB' : dstB (a.put p.dst (vs k)).tmps.size t = true := by
      rw [hput]
      simp only [dstB, Bool.and_eq_true] at hB
      simpa using hB.2
    obtain ⟨i1, i2, i3, i4⟩ := putAll_spec vs t (k + 1) (a.put p.dst (vs k)) hB'
    refine ⟨i1.trans (by rw [hput]), i2.trans (by rw [hput]; simp), fun d hd => ?_, fun i o d hi ho => ?_⟩
    · show (putAll vs (k + 1) t (a.put p.dst (vs k))).tmps[d]? = _
      rw [i3 d (fun i o h => hd (i + 1) o (by simpa using h)), hput]
      have hne : d0 ≠ d := fun e => hd 0 p rfl (by rw [hd0, e])
      simp only [Array.getElem?_setIfInBounds, if_neg hne]
    · show (putAll vs (k + 1) t (a.put p.dst (vs k))).tmps[d]? = _
      cases i with
      | zero =>
        simp at hi; subst hi
        have : d = d0 := Option.some.inj (ho.symm.trans hd0)
        subst this
        rw [i3 d (fun i o h e => hd2 0 (i + 1) p o (by omega) rfl (by simpa using h) (hd0.trans e.symm)), hput]
        simp [hn0]
      | succ i =>
        rw [i4 i o d (by simpa using hi) ho]
        congr 2; omega
theorem InvR.frame {listed : Array Bool} {a : Act} {w : World} (h : InvR ops a0 w0 R listed a w) (hd : dstB a0.tmps.size ops = true) (hall : ∀ i, i < ops.length → listed.getD i false = true) :
    ∃ vs : Nat → Value, a = putAll vs 0 ops a0 ∧ ∀ i, i < ops.length → R i (vs i) w := by
  obtain ⟨hd1, hd2⟩ := dstB_spec _ _ hd
  let vs : Nat → Value := fun i => match (ops[i]?).bind (·.dst) with | some d => a.tmps.getD d undef | none => undef
  obtain ⟨i1, i2, i3, i4⟩ := putAll_spec vs ops 0 a0 hd
  have hvs : ∀ (i : Nat) (o : Oper) d, ops[i]? = some o → o.dst = some d → vs i = a.tmps.getD d undef := fun i o d ho hd => by simp only [vs, ho, Option.bind_some, hd]
  refine ⟨vs, ?_, fun i hi => ?_⟩
  · have e : a.tmps = (putAll vs 0 ops a0).tmps := by
      apply Array.ext_getElem?
      intro d
      by_cases q : ∃ (i : Nat) (o : Oper), ops[i]? = some o ∧ o.dst = some d
      · obtain ⟨i, o, ho, hod⟩ := q
        rw [i4 i o d ho hod, Nat.zero_add, hvs i o d ho hod]
        obtain ⟨d', hd', hn⟩ := hd1 i o ho
        have : d = d' := Option.some.inj (hod.symm.trans hd')
        subst this
        have hsz : d < a.tmps.size := by rw [h.size]; exact hn
        simp [hsz]
      · have q' : ∀ (i : Nat) (o : Oper), ops[i]? = some o → o.dst ≠ some d := fun i o ho e => q ⟨i, o, ho, e⟩
        rw [i3 d q', h.slots d (fun i o ho _ => q' i o ho)]
    have e2 := h.defers.trans i1.symm
    generalize putAll vs 0 ops a0 = b at e e2
    cases a; cases b; simp at e e2; rw [e, e2]
  · have ho : ops[i]? = some ops[i] := List.getElem?_eq_getElem hi
    obtain ⟨d, hdd, _⟩ := hd1 i _ ho
    rw [hvs i _ d ho hdd]
    exact h.done i _ d ho (hall i hi) hdd
theorem wpAny_rel {Q : Exit → Act → World → Prop} (ht : topoB ops 0 ops = true) (hd : dstB a0.tmps.size ops = true) (hmono : ∀ i v w w', Ext Non w w' → R i v w → R i v w') (hstep : StepR P ops ops a0 w0 R)
    (hQ : ∀ (vs : Nat → Value) w', Ext Non w0 w' → (∀ i, i < ops.length → R i (vs i) w') → Q .normal (putAll vs 0 ops a0) w') :
    ∀ (fuel : Nat) (listed : Array Bool) (a : Act) (w : World), InvR ops a0 w0 R listed a w → (∀ i, fuel ≤ i → i < ops.length → True) → ((List.range ops.length).filter (fun i => !listed.getD i false)).length ≤ fuel → wpAny P .any ops.toArray Q fuel listed a w := by
  have fin : ∀ (listed : Array Bool) (a : Act) (w : World), InvR ops a0 w0 R listed a w → Region.ready .any ops.toArray listed = [] → Q .normal a w := by
    intro listed a w h hr
    have hall : ∀ n i, i < n → i < ops.length → listed.getD i false = true := by
      intro n
      induction n with
      | zero => intro i hi; omega
      | succ n ih =>
        intro i hi hil
        by_cases q : i < n
        · exact ih i q hil
        · have hin : i = n := by omega
          subst hin
          cases hg : listed.getD i false with
          | true => rfl
          | false =>
            exfalso
            have hm : i ∈ Region.ready .any ops.toArray listed := by
              refine mem_ready.2 ⟨?_, ops[i], by simp [hil], fun e he hb => ?_⟩
              · have : i < listed.size := Nat.lt_of_lt_of_le hil h.lsize
                simp [this] at hg ⊢; exact hg
              · have := topoB_spec ops ops 0 ht i ops[i] (List.getElem?_eq_getElem hil) e he hb
                exact ih e.on (by omega) (by omega)
            rw [hr] at hm; cases hm
    obtain ⟨vs, rfl, hv⟩ := h.frame hd (fun i hi => hall ops.length i hi hi)
    exact hQ vs w h.ext hv
  intro fuel
  induction fuel with
  | zero =>
    intro listed a w h _ hlen
    have hr : Region.ready .any ops.toArray listed = [] := by
      rw [List.eq_nil_iff_forall_not_mem]
      intro i hi
      obtain ⟨hu, o, ho, _⟩ := mem_ready.1 hi
      have hil : i < ops.length := by
        have := (Array.getElem?_eq_some_iff.1 ho).1; simpa using this
      have : i ∈ (List.range ops.length).filter (fun i => !listed.getD i false) := by
        rw [List.mem_filter, List.mem_range]
        exact ⟨hil, by rw [getD_both hu]; rfl⟩
      have := List.length_pos_of_mem this
      omega
    exact ⟨hr, fin _ _ _ h hr⟩
  | succ fuel ih =>
    intro listed a w h _ hlen
    refine ⟨fun hr => fin _ _ _ h hr, fun i hi => ?_⟩
    obtain ⟨hu, o, ho', hall⟩ := mem_ready.1 hi
    have ho : ops[i]? = some o := by simpa using ho'
    have hil : i < ops.length := (List.getElem?_eq_some_iff.1 ho).1
    have hst := hstep i o ho a w h.ext (fun d hd' => h.slots d fun j p hj _ => hd' j p hj) (fun e he hb p d hp hpd => h.done e.on p d hp (hall e he hb) hpd)
    have next : ∀ v w', Ext Non w w' → R i v w' → wpAny P .any ops.toArray Q fuel (listed.setIfInBounds i true) (a.put o.dst v) w' := by
      intro v w' x hv
      refine ih _ _ _ (h.put hd hmono ho hu x hv) (fun _ _ _ => trivial) ?_
      have hsz : i < listed.size := Nat.lt_of_lt_of_le hil h.lsize
      have hlt : ((List.range ops.length).filter (fun j => !(listed.setIfInBounds i true).getD j false)).length < ((List.range ops.length).filter (fun j => !listed.getD j false)).length := by
        have e : (List.range ops.length).filter (fun j => !(listed.setIfInBounds i true).getD j false) = ((List.range ops.length).filter (fun j => !listed.getD j false)).filter (fun j => j != i) := by
          rw [List.filter_filter]
          apply List.filter_congr
          intro j _
          by_cases hji : j = i
          · subst hji; simp [hsz]
          · rw [getD_set_ne false (fun e => hji e.symm)]; simp [hji]
        rw [e]
        refine List.length_filter_lt_length_iff_exists.2 ⟨i, ?_, by simp⟩
        rw [List.mem_filter, List.mem_range]
        exact ⟨hil, by rw [getD_both hu]; rfl⟩
      omega
    unfold wpOp
    rcases hst with ⟨hw, hr⟩ | ⟨hw, hv⟩
    rotate_left
    · simp only [ho', hw]
      exact next undef w (Ext.refl _ _) hv
    simp only [ho', hw, if_true]
    left
    unfold relAt at hr
    unfold Oper.wp
    generalize (execOp a.eval o).run P w = r at hr
    cases r with
    | ok n w' =>
      cases n <;> simp only [relUpon] at hr <;> simp only [Oper.upon]
      case value u => exact next u w' hr.1 hr.2
      case skip => exact next undef w' hr.1 hr.2
      case enter f args =>
        obtain ⟨rfl, hc⟩ := hr
        exact hc.mono fun e w'' ⟨v, he, x, hv⟩ => by subst he; exact next v w'' x hv
    | halt x w' => simp only [relUpon] at hr
/-- **The law.** -/
theorem wp_region_rel {id : Nat} {Q : Exit → Act → World → Prop} {a : Act} {w : World} {l : List Oper} (R : Nat → Value → World → Prop) (hm : P.follows .mixedOrders = true) (ht : topoB l 0 l = true) (hd : dstB a.tmps.size l = true)
    (hmono : ∀ i v w w', Ext Non w w' → R i v w → R i v w') (hstep : StepR P l l a w R)
    (hQ : ∀ (vs : Nat → Value) w', Ext Non w w' → (∀ i, i < l.length → R i (vs i) w') → Q .normal (putAll vs 0 l a) w') : (Code.region id l.toArray true).wp P Q a w := by
  refine wp_region_any hm ?_
  refine wpAny_rel ht hd hmono hstep hQ _ _ _ _ ⟨(Ext.refl Non w).drew, by simp, rfl, rfl, fun _ _ => rfl, fun i o d _ hl => ?_⟩ (fun _ _ _ => trivial) ?_
  · rw [getD_replicate_false] at hl; cases hl
  · refine Nat.le_trans (List.length_filter_le _ _) ?_
    simp
def headArr (len n : Nat) : Array Bool := ((List.range len).map fun i => decide (i < n)).toArray
/-- **The law with a tail**: the first n operations by predicates, then the others, in the order of the text. -/
theorem wp_region_rel_tail {id : Nat} {Q : Exit → Act → World → Prop} {a : Act} {w : World} {l : List Oper} (n : Nat) (R : Nat → Value → World → Prop) (hm : P.follows .mixedOrders = true) (ht : topoB (l.take n) 0 (l.take n) = true) (hd : dstB a.tmps.size (l.take n) = true)
    (hs : Region.sinkB .any l.toArray n = true) (hc : Region.chainB .any l.toArray n = true) (hn : n < l.length) (hseq : Region.seqB .any l.toArray (l.length - n) n (headArr l.length n) = true)
    (hmono : ∀ i v w w', Ext Non w w' → R i v w → R i v w') (hstep : StepR P l (l.take n) a w R)
    (hQ : ∀ (vs : Nat → Value) w', Ext Non w w' → (∀ i, i < n → R i (vs i) w') → wpList P l.toArray Q (l.drop n) (putAll vs 0 (l.take n) a) w') : (Code.region id l.toArray true).wp P Q a w := by
  have hlen : (l.take n).length = n := by simp; omega
  have htk : ∀ i, i < n → (l.take n)[i]? = l[i]? := fun i hi => by simp [hi]
  have main : ∀ (f : Nat) (listed : Array Bool) (a' : Act) (w' : World), InvR (l.take n) a w R listed a' w' → HeadInv .any l.toArray n listed → ((List.range n).filter (fun i => !listed.getD i false)).length = f → wpAny P .any l.toArray Q (f + (l.length - n)) listed a' w' := by
    intro f
    induction f with
    | zero =>
      intro listed a' w' h hv hf
      have hall : ∀ i, i < n → listed.getD i false = true := fun i hi => by
        cases hg : listed.getD i false with
        | true => rfl
        | false =>
          have : i ∈ (List.range n).filter (fun i => !listed.getD i false) := by rw [List.mem_filter, List.mem_range]; exact ⟨hi, by rw [hg]; rfl⟩
          have := List.length_pos_of_mem this
          omega
      have hl : listed = headArr l.length n := by
        apply Array.ext
        · rw [hv.size]; simp [headArr]
        · intro i h1 h2
          have hil : i < l.length := by have := hv.size; simp at this; omega
          have e : (headArr l.length n)[i] = decide (i < n) := by simp [headArr]
          rw [e]
          by_cases q : i < n
          · have := hall i q
            simp [h1] at this
            rw [this]; simp [q]
          · have := hv.tail i (by omega) (by simpa using hil)
            simp [h1] at this
            rw [this]; simp [q]
      obtain ⟨vs, rfl, hr⟩ := h.frame hd (fun i hi => hall i (by rw [hlen] at hi; exact hi))
      rw [Nat.zero_add, hl]
      have hdl : (l.drop n).length = l.length - n := by simp
      have := wpAny_of_seq (P := P) (md := .any) (Q' := Q) (l.drop n) n (headArr l.length n) (putAll vs 0 (l.take n) a) w' (fun j => by simp [List.getElem?_drop]) (by rw [hdl]; exact hseq) (hQ vs w' h.ext (fun i hi => hr i (by rw [hlen]; exact hi)))
      rwa [hdl] at this
    | succ f ih =>
      intro listed a' w' h hv hf
      obtain ⟨i0, hi0⟩ : ∃ i, i ∈ (List.range n).filter (fun i => !listed.getD i false) := by
        cases hq : (List.range n).filter (fun i => !listed.getD i false) with
        | nil => rw [hq] at hf; simp at hf
        | cons x t => exact ⟨x, by simp⟩
      rw [List.mem_filter, List.mem_range] at hi0
      have hne : ∃ i, i < n ∧ listed.getD i false = false ∧ ∀ j, j < i → listed.getD j false = true := by
        have : ∀ m, (∀ j, j < m → listed.getD j false = true) ∨ ∃ i, i < m ∧ listed.getD i false = false ∧ ∀ j, j < i → listed.getD j false = true := by
          intro m
          induction m with
          | zero => left; intro j hj; omega
          | succ m ihm =>
            rcases ihm with q | ⟨i, h1, h2, h3⟩
            · cases hg : listed.getD m false with
              | true =>
                left; intro j hj
                by_cases e : j = m
                · subst e; exact hg
                · exact q j (by omega)
              | false => right; exact ⟨m, by omega, hg, q⟩
            · right; exact ⟨i, by omega, h2, h3⟩
        rcases this n with q | q
        · have := q i0 hi0.1
          rw [this] at hi0; simp at hi0
        · exact q
      obtain ⟨i1, h1, h2, h3⟩ := hne
      have hil1 : i1 < l.length := by omega
      have hsz1 : i1 < listed.size := by rw [hv.size]; simpa using hil1
      have hrd : i1 ∈ Region.ready .any l.toArray listed := by
        refine mem_ready.2 ⟨getD_in hsz1 h2, l[i1], by simp [hil1], fun e he hb => ?_⟩
        have := topoB_spec (l.take n) (l.take n) 0 ht i1 l[i1] (by rw [htk i1 h1]; exact List.getElem?_eq_getElem hil1) e he hb
        exact h3 e.on (by omega)
      rw [show f + 1 + (l.length - n) = (f + (l.length - n)) + 1 by omega]
      refine ⟨fun hr => (by rw [hr] at hrd; cases hrd), fun i hi => ?_⟩
      have hin : i < n := by
        rcases Nat.lt_or_ge i n with q | q
        · exact q
        · exact absurd hi (tail_waits hs hc (by simpa using hn) hv _ i1 rfl h1 (getD_in hsz1 h2) i q)
      obtain ⟨hu, o, ho', hall⟩ := mem_ready.1 hi
      have hol : l[i]? = some o := by simpa using ho'
      have ho : (l.take n)[i]? = some o := by rw [htk i hin]; exact hol
      have hst := hstep i o ho a' w' h.ext (fun d hd' => h.slots d fun j p hj _ => hd' j p hj) (fun e he hb p d hp hpd => h.done e.on p d hp (hall e he hb) hpd)
      have next : ∀ v w'', Ext Non w' w'' → R i v w'' → wpAny P .any l.toArray Q (f + (l.length - n)) (listed.setIfInBounds i true) (a'.put o.dst v) w'' := by
        intro v w'' x hvv
        refine ih _ _ _ (h.put hd hmono ho hu x hvv) (hv.set hi hin) ?_
        have hsz : i < listed.size := by rw [hv.size]; simp; omega
        have e : (List.range n).filter (fun j => !(listed.setIfInBounds i true).getD j false) = ((List.range n).filter (fun j => !listed.getD j false)).filter (fun j => j != i) := by
          rw [List.filter_filter]
          apply List.filter_congr
          intro j _
          by_cases hji : j = i
          · subst hji; simp [hsz]
          · rw [getD_set_ne false (fun e => hji e.symm)]; simp [hji]
        rw [e]
        have hmem : i ∈ (List.range n).filter (fun j => !listed.getD j false) := by rw [List.mem_filter, List.mem_range]; exact ⟨hin, by rw [getD_both hu]; rfl⟩
        have hnd : ((List.range n).filter (fun j => !listed.getD j false)).Nodup := List.Pairwise.filter _ List.nodup_range
        have := hnd.erase_eq_filter i
        rw [← this, List.length_erase_of_mem hmem, hf]; rfl
      unfold wpOp
      rcases hst with ⟨hw, hr⟩ | ⟨hw, hvv⟩
      rotate_left
      · simp only [ho', hw]
        exact next undef w' (Ext.refl _ _) hvv
      simp only [ho', hw, if_true]
      left
      unfold relAt at hr
      unfold Oper.wp
      generalize (execOp a'.eval o).run P w' = r at hr
      cases r with
      | ok q w'' =>
        cases q <;> simp only [relUpon] at hr <;> simp only [Oper.upon]
        case value u => exact next u w'' hr.1 hr.2
        case skip => exact next undef w'' hr.1 hr.2
        case enter g args =>
          obtain ⟨rfl, hcc⟩ := hr
          exact hcc.mono fun e w3 ⟨v, he, x, hvv⟩ => by subst he; exact next v w3 x hvv
      | halt x w'' => simp only [relUpon] at hr
  refine wp_region_any hm ?_
  have hinit : ((List.range n).filter (fun i => !(Array.replicate l.toArray.size false).getD i false)).length = n := by
    have : (List.range n).filter (fun i => !(Array.replicate l.toArray.size false).getD i false) = List.range n := by
      rw [List.filter_eq_self]
      intro i _
      rw [getD_replicate_false]; rfl
    rw [this]; simp
  have := main n (Array.replicate l.toArray.size false) a { w with drawn := w.drawn + 1 } ⟨(Ext.refl Non w).drew, by simp; omega, rfl, rfl, fun _ _ => rfl, fun i o d _ hl => by rw [getD_replicate_false] at hl; cases hl⟩
    ⟨by simp, fun j oj _ hl => (by rw [getD_replicate_false] at hl; cases hl), fun t _ ht => getD_in (by simpa using ht) (getD_replicate_false _ _)⟩ hinit
  rw [show n + (l.length - n) = l.length by omega] at this
  simpa using this
/-- A predicate that holds on as the world grows. -/
structure Mo where
  p : Value → World → Prop
  mono : ∀ v w w', Ext Non w w' → p v w → p v w'
def Mo.is (u : Value) : Mo := ⟨fun v _ => v = u, fun _ _ _ _ h => h⟩
def Mo.any : Mo := ⟨fun _ _ => True, fun _ _ _ _ h => h⟩
def relR (Rs : List Mo) (i : Nat) : Value → World → Prop := (Rs.getD i Mo.any).p
theorem relR_mono (Rs : List Mo) : ∀ i v w w', Ext Non w w' → relR Rs i v w → relR Rs i v w' := fun i v w w' x h => (Rs.getD i Mo.any).mono v w w' x h
/-- What is asked of one operation. -/
def StepO (P : Program) (full ops : List Oper) (a0 : Act) (w0 : World) (R : Nat → Value → World → Prop) (i : Nat) (o : Oper) : Prop :=
  ∀ a w, Ext Non w0 w → (∀ d, ops.all (fun p => p.dst != some d) = true → a.tmps[d]?.getD undef = a0.tmps[d]?.getD undef) →
    (∀ j d, o.after.toList.any (fun e => e.on == j && Region.binds .any e) = true → (ops[j]?).bind (·.dst) = some d → R j (a.tmps[d]?.getD undef) w) →
    (Region.wanted o (yielded full.toArray a.tmps) = true ∧ relAt P o a w (R i)) ∨ (Region.wanted o (yielded full.toArray a.tmps) = false ∧ R i undef w)
def StepC (P : Program) (full ops : List Oper) (a0 : Act) (w0 : World) (R : Nat → Value → World → Prop) (i : Nat) (o : Oper) : Prop :=
  ∀ a w, Ext Non w0 w → (∀ d, ops.all (fun p => p.dst != some d) = true → a.tmps[d]?.getD undef = a0.tmps[d]?.getD undef) →
    (∀ j d, o.after.toList.any (fun e => e.on == j && Region.binds .any e) = true → (ops[j]?).bind (·.dst) = some d → R j (a.tmps[d]?.getD undef) w) →
    Region.wanted o (yielded full.toArray a.tmps) = true ∧ relAt P o a w (R i)
def StepD (P : Program) (full ops : List Oper) (a0 : Act) (w0 : World) (R : Nat → Value → World → Prop) : Nat → List Oper → Prop
  | _, [] => True
  | i, o :: t => StepO P full ops a0 w0 R i o ∧ StepD P full ops a0 w0 R (i + 1) t
def StepL (P : Program) (full ops : List Oper) (a0 : Act) (w0 : World) (R : Nat → Value → World → Prop) : Nat → List Oper → Prop
  | _, [] => True
  | i, o :: t => StepC P full ops a0 w0 R i o ∧ StepL P full ops a0 w0 R (i + 1) t
theorem StepL.dis {full ops : List Oper} : ∀ (l : List Oper) (k : Nat), StepL P full ops a0 w0 R k l → StepD P full ops a0 w0 R k l
  | [], _, _ => trivial
  | p :: t, k, hs => ⟨fun a w h1 h2 h3 => .inl (hs.1 a w h1 h2 h3), StepL.dis t (k + 1) hs.2⟩
theorem StepD.get {full ops : List Oper} : ∀ (l : List Oper) (k : Nat), StepD P full ops a0 w0 R k l → ∀ (i : Nat) (o : Oper), l[i]? = some o → StepO P full ops a0 w0 R (k + i) o
  | [], _, _, i, o, h => by simp at h
  | p :: t, k, hs, i, o, h => by
    cases i with
    | zero => simp at h; subst h; exact hs.1
    | succ i =>
      have := StepD.get t (k + 1) hs.2 i o (by simpa using h)
      rwa [show k + 1 + i = k + (i + 1) by omega] at this
theorem StepD.all {full ops : List Oper} (h : StepD P full ops a0 w0 R 0 ops) : StepR P full ops a0 w0 R := fun i o ho a w hx hs hd => by
  have := StepD.get ops 0 h i o ho
  rw [Nat.zero_add] at this
  refine this a w hx (fun d hd' => ?_) (fun j d hb hj => ?_)
  · have e := hs d (fun j p hj e => by
      have := List.all_eq_true.1 hd' p (List.mem_of_getElem? hj)
      rw [e] at this; simp at this)
    rw [e]
  · rw [List.any_eq_true] at hb
    obtain ⟨e, he, hb⟩ := hb
    have he : e ∈ o.after := by simpa using he
    simp only [Bool.and_eq_true, beq_iff_eq] at hb
    cases hp : ops[j]? with
    | none => rw [hp] at hj; cases hj
    | some p =>
      rw [hp] at hj
      have := hd e he hb.2 p d (by rw [hb.1]; exact hp) hj
      rw [hb.1, Array.getD_eq_getD_getElem?] at this
      exact this
theorem StepL.all {full ops : List Oper} (h : StepL P full ops a0 w0 R 0 ops) : StepR P full ops a0 w0 R := StepD.all (StepL.dis ops 0 h)
theorem wanted_of {full : List Oper} {o : Oper} {a : Act} {j d : Nat} {b : Bool} (hg : o.guard = some (j, b)) (hj : (full[j]?).bind (·.dst) = some d) (hv : a.tmps[d]?.getD undef = .bool b) : Region.wanted o (yielded full.toArray a.tmps) = true := by
  have e : a.tmps[d]? = some (.bool b) := by
    cases h : a.tmps[d]? with
    | none => rw [h] at hv; cases hv
    | some u => rw [h] at hv; exact congrArg some hv
  have hy : yielded full.toArray a.tmps j = some b := by
    unfold yielded
    have : ((full.toArray)[j]?).bind (·.dst) = some d := by simpa using hj
    rw [this]; simp [e]
  unfold Region.wanted
  rw [hg]; simp [hy]
theorem unwanted_of {full : List Oper} {o : Oper} {a : Act} {j d : Nat} {b c : Bool} (hg : o.guard = some (j, b)) (hj : (full[j]?).bind (·.dst) = some d) (hv : a.tmps[d]?.getD undef = .bool c) (hne : (c == b) = false) : Region.wanted o (yielded full.toArray a.tmps) = false := by
  have e : a.tmps[d]? = some (.bool c) := by
    cases h : a.tmps[d]? with
    | none => rw [h] at hv; cases hv
    | some u => rw [h] at hv; exact congrArg some hv
  have hy : yielded full.toArray a.tmps j = some c := by
    unfold yielded
    have : ((full.toArray)[j]?).bind (·.dst) = some d := by simpa using hj
    rw [this]; simp [e]
  unfold Region.wanted
  rw [hg]
  show (yielded full.toArray a.tmps j == some b) = false
  rw [hy]
  cases c <;> cases b <;> first | rfl | cases hne
end
end Go.Proofs.Ytakbkpklfihfiaa

/- Contracts of layer 7 (council): which configurations are right; coming and going. -/
namespace Go.Proofs.Ytakbkpklfihfiaa
open Go.RowKit
set_option linter.unusedSimpArgs false
set_option linter.unusedVariables false

/-- A row of ints that can be read behind an address. -/
structure Ints (w : World) (a : Option Addr) (cap : Nat) (xs : List Int) : Prop where
  le : xs.length ≤ cap
  small : cap ≤ 9223372036854775807
  nil : a = none → cap = 0
  at_ : ∀ j (h : j < xs.length), ∃ b o, a = some ⟨b, o, none⟩ ∧ w.cell? ⟨b, o + j, none⟩ = some (.int .i64 xs[j]) ∧ I64 xs[j]
theorem Ints.ext {S : Nat → Prop} {w w' : World} {a : Option Addr} {cap : Nat} {xs : List Int} (h : Ints w a cap xs) (x : Ext S w w') (hs : ∀ b o, a = some ⟨b, o, none⟩ → ¬ S b) : Ints w' a cap xs :=
  ⟨h.le, h.small, h.nil, fun j hj => by
    obtain ⟨b, o, e, c, i⟩ := h.at_ j hj
    exact ⟨b, o, e, (x.cell (lt_of_cell c) (hs b o e)).trans c, i⟩⟩
theorem Ints.extN {w w' : World} {a : Option Addr} {cap : Nat} {xs : List Int} (h : Ints w a cap xs) (x : Ext Non w w') : Ints w' a cap xs := h.ext x fun _ _ _ f => f
theorem Ints.nil' (w : World) : Ints w none 0 [] := ⟨by decide, by decide, fun _ => rfl, fun j h => absurd h (Nat.not_lt_zero _)⟩
theorem Ints.drewN {w : World} {a : Option Addr} {cap : Nat} {xs : List Int} (h : Ints w a cap xs) (n : Nat) : Ints (w.drewN n) a cap xs := ⟨h.le, h.small, h.nil, h.at_⟩

theorem council_rising (a : Option Addr) (cap : Nat) (xs : List Int) (w : World) (h : Ints w a cap xs) : Calls Try.prog 78 #[.slice a xs.length cap] w fun e w' => e = .returned (.bool (membersB xs)) ∧ w = w' := by
  have hm := h.small
  have hm2 := h.le
  have HH := Go.Lib.hid h; clear h
  go_enter Try.func78, Try.ntmps78
  go_wp2
  go_loop [3, 8] (fun lv iv => ∃ (i : Nat) (last : Int), i ≤ xs.length ∧ iv = .int .i64 i ∧ lv = .int .i64 last ∧ risingB (-1) xs = risingB last (xs.drop i)) (fun _ iv => xs.length - (intOf iv).toNat)
  case atStart => exact ⟨0, -1, Nat.zero_le _, rfl, rfl, rfl⟩
  case round =>
    obtain ⟨i, last, hi, rfl, rfl, hR⟩ := hrel
    have HR := Go.Lib.hid hR; clear hR
    by_cases hlt : i < xs.length
    · obtain ⟨b, o, rfl, hc, hx⟩ := HH.out.at_ i hlt
      have hd := risingB_drop xs last i hlt
      generalize hxi : xs[i] = x at *
      have HD := Go.Lib.hid hd; clear hd
      have HX := Go.Lib.hid hxi; clear hxi
      by_cases h1 : last < x
      · by_cases h2 : x < 16
        · have e : risingB (-1) xs = risingB x (xs.drop (i + 1)) := by rw [HR.out, HD.out]; simp [h1, h2]
          have E := Go.Lib.hid e; clear e
          go_wp2
          go_round
          case rel => exact ⟨i + 1, _, hlt, by go_num, rfl, E.out⟩
          case measure => simp [intOf]; omega
        · have e : membersB xs = false := by unfold membersB; rw [HR.out, HD.out]; simp [h2]
          have E := Go.Lib.hid e; clear e
          go_wp2
          go_ret
          exact ⟨ret_bool E.out.symm, rfl⟩
      · have e : membersB xs = false := by unfold membersB; rw [HR.out, HD.out]; simp [h1]
        have E := Go.Lib.hid e; clear e
        go_wp2
        go_ret
        exact ⟨ret_bool E.out.symm, rfl⟩
    · have e : membersB xs = (decide (4 ≤ xs.length) && decide (xs.length ≤ 10)) := by
        unfold membersB; rw [HR.out, List.drop_eq_nil_of_le (by omega)]; simp [risingB]
      have E := Go.Lib.hid e; clear e
      by_cases h4 : 4 ≤ xs.length
      · go_wp2
        go_ret
        exact ⟨ret_bool (by rw [E.out, Bool.eq_iff_iff]; simp; omega), rfl⟩
      · go_wp2
        go_ret
        exact ⟨ret_bool (by rw [E.out, Bool.eq_iff_iff]; simp; omega), rfl⟩

theorem council_Right (ep : Int) (a : Option Addr) (cap : Nat) (xs : List Int) (w : World) (h : Ints w a cap xs) : Calls Try.prog 24 #[.agg #[.int .i64 ep, .slice a xs.length cap]] w fun e w' => e = .returned (.bool (confB ep xs)) ∧ Ext Non w w' := by
  have HE : Hid (confB ep xs = (decide (0 ≤ ep) && decide (ep ≤ 60) && membersB xs)) := Go.Lib.hid rfl
  have HH : Hid (Ints (w.alloc (.cells #[.int .i64 ep, .slice a xs.length cap] 34)) a cap xs) := Go.Lib.hid (h.extN ((Ext.refl _ _).alloc _))
  clear h
  by_cases h0 : 0 ≤ ep
  · by_cases h1 : ep ≤ 60
    · go_enter Try.func24, Try.ntmps24
      go_wp2_with (go_at_call 78; refine (council_rising _ _ _ _ HH.out).mono ?_; rintro e w' ⟨rfl, rfl⟩)
      go_ret
      exact ⟨ret_bool (by rw [HE.out, decide_eq_true h0, decide_eq_true h1]; rfl), (Ext.refl _ _).alloc _⟩
    · go_enter Try.func24, Try.ntmps24
      go_wp2
      go_ret
      exact ⟨ret_bool (by rw [HE.out, decide_eq_false (by omega : ¬ ep ≤ 60)]; simp), (Ext.refl _ _).alloc _⟩
  · go_enter Try.func24, Try.ntmps24
    go_wp2
    go_ret
    exact ⟨ret_bool (by rw [HE.out, decide_eq_false (by omega : ¬ 0 ≤ ep)]; simp), (Ext.refl _ _).alloc _⟩

/-- A slice's block (if it has one) is a row of ints. -/
def intT (w : World) (a : Option Addr) : Prop := ∀ k o, a = some ⟨k, o, none⟩ → ∃ vs fr, w.heap[k]? = some (.cells vs 3 fr)
/-- It is new besides. -/
def fresh (n : Nat) (w : World) (a : Option Addr) : Prop := ∀ k o, a = some ⟨k, o, none⟩ → n ≤ k ∧ ∃ vs fr, w.heap[k]? = some (.cells vs 3 fr)
theorem fresh.typed {n : Nat} {w : World} {a : Option Addr} (h : fresh n w a) : intT w a := fun k o e => (h k o e).2
theorem intT.lt {w : World} {a : Option Addr} (h : intT w a) {k o : Nat} (e : a = some ⟨k, o, none⟩) : k < w.heap.size := by
  obtain ⟨_, _, h⟩ := h k o e
  exact (Array.getElem?_eq_some_iff.1 h).1
/-- Blocks that are no rows of ints. -/
def NoInts (S : Nat → Prop) (w : World) : Prop := ∀ k, S k → ∀ vs fr, w.heap[k]? ≠ some (.cells vs 3 fr)
theorem intT.ext {S : Nat → Prop} {w w' : World} {a : Option Addr} (h : intT w a) (x : Ext S w w') (hs : NoInts S w) : intT w' a := fun k o e => by
  obtain ⟨vs, fr, hh⟩ := h k o e
  exact ⟨vs, fr, (x.block k (h.lt e) (fun s => hs k s vs fr hh)).trans hh⟩
theorem NoInts.non (w : World) : NoInts Non w := fun _ h => h.elim
theorem Ints.extT {S : Nat → Prop} {w w' : World} {a : Option Addr} {cap : Nat} {xs : List Int} (h : Ints w a cap xs) (t : intT w a) (x : Ext S w w') (hs : NoInts S w) : Ints w' a cap xs :=
  h.ext x fun k o e s => by obtain ⟨vs, fr, hh⟩ := t k o e; exact hs k s vs fr hh
/-- What the call owns, as a row of ints. -/
theorem Ints.ofOwn {w : World} {base : Nat} {v : Value} {xs : List Int} (h : w.ownsRow base 3 1 v xs.length (xs.map (Value.int .i64))) (hi : ∀ x ∈ xs, I64 x) :
    ∃ a cap, v = .slice a xs.length cap ∧ Ints w a cap xs ∧ fresh base w a := by
  rcases h.2 with ⟨rfl, h0⟩ | ⟨g, cap, cur, rfl, hb, hg, hl, hm, hs, ht⟩
  · have : xs = [] := List.eq_nil_of_length_eq_zero h0
    subst this
    exact ⟨none, 0, rfl, Ints.nil' w, fun _ _ e => by cases e⟩
  · refine ⟨some ⟨g, 0, none⟩, cap, rfl, ⟨hl, hm, fun e => (by cases e), fun j hj => ⟨g, 0, rfl, ?_, hi _ (List.getElem_mem hj)⟩⟩, fun b o e => by cases e; exact ⟨hb, _, _, hg⟩⟩
    have := h.cells (g := g) rfl j (.int .i64 xs[j]) (by simp [hj])
    rw [addr_add] at this
    exact this

theorem info_int : (Try.prog.info? 3).map (fun i => (i.zero, i.size, i.bytes)) = some (some (.int .i64 0), 1, 8) := by kernel_rfl

set_option maxRecDepth 100000 in
theorem slices_Clone (a : Option Addr) (cap : Nat) (xs : List Int) (hb : xs.length * 8 ≤ 140737488355328) (w : World) (h : Ints w a cap xs) : Calls Try.prog 82 #[.slice a xs.length cap] w fun e w' =>
    ∃ a' cap', e = .returned (.slice a' xs.length cap') ∧ Ext Non w w' ∧ Ints w' a' cap' xs ∧ fresh w.heap.size w' a' := by
  have HH := Go.Lib.hid h
  have HB := Go.Lib.hid hb; clear hb
  have q : ∀ (w : World) (a : Option Addr) (n c n' c' : Nat), (binOp .eql 32 (.slice a n c) (.slice none n' c')).run Try.prog w = .ok (.bool a.isNone) w := fun w a n c n' c' => Go.Lib.run_eql_slice_nil w _ _ a n c n' c' Try.underlying32
  cases a with
  | none =>
    have hc := h.nil rfl
    have hx : xs = [] := List.eq_nil_of_length_eq_zero (by have := h.le; omega)
    subst hc; subst hx
    clear h
    go_enter Try.func82, Try.ntmps82
    go_wp2
    go_returns
    exact ⟨none, 0, rfl, Ext.refl _ _, HH.out, fun _ _ e => by cases e⟩
  | some x =>
    have hsm : xs.length ≤ 9223372036854775807 := by have := h.le; have := h.small; omega
    clear h
    obtain ⟨i0, hi, hz0, hz1, hz2⟩ := info_parts info_int
    go_enter Try.func82, Try.ntmps82
    go_wp2_with (at_builtin; refine wpList_append_own _ rfl _ _ 32 rfl w.heap.size 3 i0 (.int .i64 0) 1 8 Try.underlying32 hi hz0 hz1 hz2 rfl (by decide) _ _ _ rfl (World.ownsRow_made w #[] 0 (Nat.le_refl _) (Nat.zero_le _) rfl) x xs.length cap (xs.map (Value.int .i64)) rfl ?qc1 ?qc2 ?qc3 ?qc4 ?qc5 ?qc6 ?_)
    case qc1 => simp
    case qc2 =>
      intro j u hj
      have hjn : j < xs.length := by have := (List.getElem?_eq_some_iff.1 hj).1; simpa using this
      obtain ⟨b, o, e, hc, _⟩ := HH.out.at_ j hjn
      cases e
      rw [addr_add]
      have hu : u = .int .i64 xs[j] := by simpa [hjn] using hj.symm
      rw [hu]
      exact (((Ext.refl Non w).alloc _).cell (lt_of_cell hc) id).trans hc
    case qc3 => intro u hu; obtain ⟨x, _, rfl⟩ := List.mem_map.1 hu; rfl
    case qc4 => unfold maxLen; omega
    case qc5 => have := HB.out; omega
    case qc6 => simp
    intro v' w1 hown hgrow hnil
    have hown : w1.ownsRow w.heap.size 3 1 v' xs.length (xs.map (Value.int .i64)) := by simpa using hown
    obtain ⟨a', cap', rfl, hI, hf⟩ := Ints.ofOwn hown (fun x hx => by obtain ⟨j, hj, rfl⟩ := List.getElem_of_mem hx; obtain ⟨_, _, _, _, i⟩ := HH.out.at_ j hj; exact i)
    go_wp2
    go_returns
    refine ⟨a', cap', rfl, ?_, hI, hf⟩
    exact ((Ext.refl Non w).alloc _).step (Ext.ofGrown (S := fun k => k = w.heap.size) hgrow (fun k hk => .inl (by simp [Value.ownBlock] at hk; omega))) (fun i hi hS => by omega)

end Go.Proofs.Ytakbkpklfihfiaa

/- Contracts of layer 2 (reals), and of its reference. -/
namespace Go.Proofs.Ytakbkpklfihfiaa
open Go.RowKit F64
set_option linter.unusedSimpArgs false
set_option linter.unusedVariables false

@[go_sem] theorem run_frombits (n : Int) (w : World) : (callFunc 77 #[.int .u64 n]).run Try.prog w = .ok (.value (.float .f64 n.toNat)) w := by kernel_rfl
@[go_sem] theorem run_bits (n : Nat) (w : World) : (callFunc 119 #[.float .f64 n]).run Try.prog w = .ok (.value (.int .u64 n)) w := by kernel_rfl
@[go_sem] theorem sp_feq (a b : Nat) : (FloatKind.f64.format.order a b == some Ordering.eq) = feq a b := rfl
@[go_sem] theorem sp_fneq (a b : Nat) : (FloatKind.f64.format.order a b != some Ordering.eq) = !feq a b := rfl
@[go_sem] theorem sp_flt (a b : Nat) : (FloatKind.f64.format.order a b == some Ordering.lt) = flt a b := rfl

theorem reals_Canon (x : Nat) (w : World) : Calls Try.prog 130 #[.float .f64 x] w fun e w' => e = .returned (.float .f64 (canonN x)) ∧ w = w' := by
  have H := feq_self x
  cases hw : wild x
  · have hc : canonN x = x := by simp [canonN, hw]
    rw [hc]
    rw [hw] at H; clear hw hc
    go_enter Try.func130, Try.ntmps130
    go_wp2
    go_ret
    exact ⟨rfl, rfl⟩
  · have hc : canonN x = nanN := by simp [canonN, hw]
    rw [hc]
    rw [hw] at H; clear hw hc
    go_enter Try.func130, Try.ntmps130
    go_wp2
    go_ret
    exact ⟨rfl, rfl⟩
theorem reals_Bits (x : Nat) (w : World) : Calls Try.prog 108 #[.float .f64 x] w fun e w' => e = .returned (.int .u64 (canonN x)) ∧ w = w' := by
  go_enter Try.func108, Try.ntmps108
  go_wp2_with (go_at_call 130; refine (reals_Canon _ _).mono ?_; rintro e w' ⟨rfl, rfl⟩)
  go_ret
  exact ⟨rfl, rfl⟩


/-- Wild, of the reference. -/
theorem ref_Wild (n : Nat) (w : World) : Calls Try.prog 120 #[.int .u64 n] w fun e w' => e = .returned (.bool (wild n)) ∧ w = w' := by
  go_enter Try.func120, Try.ntmps120
  go_wp2
  all_goals
    go_ret
    exact ⟨ret_bool (by unfold wild; rw [Bool.eq_iff_iff]; simp; omega), rfl⟩
theorem ref_Bits (x : Nat) (w : World) : Calls Try.prog 76 #[.float .f64 x] w fun e w' => e = .returned (.int .u64 (canonN x)) ∧ w = w' := by
  unfold canonN
  cases hw : wild x
  all_goals
    go_enter Try.func76, Try.ntmps76
    go_wp2_with (go_at_call 120; refine (ref_Wild _ _).mono ?_; rintro e w' ⟨rfl, rfl⟩)
    go_ret
    exact ⟨rfl, rfl⟩
end Go.Proofs.Ytakbkpklfihfiaa

/- Arguments that came in, read as plain data: ints, slices of ints, configurations. -/
namespace Go.Proofs.Ytakbkpklfihfiaa
open Go.RowKit Go.ChangeShapes Go.WideShapes
set_option linter.unusedSimpArgs false
set_option linter.unusedVariables false

section
variable {H : Type} {enc : TypeId × Value → H} {W : World} {base n : Nat} {spare : Nat → Bool} {held : Bool}
theorem i64_of_wf {x : Int} (h : (Lit.int .i64 x).wf = true) : I64 x := by
  simp only [Lit.wf, Bool.and_eq_true, decide_eq_true_eq] at h
  exact h
theorem read_int {cs : List Value} {x : DataW H × List MemPlace} (h : DataW.trod enc Try.prog W base spare held n 3 cs = some x) : ∃ k : Int, cs = [.int .i64 k] ∧ I64 k := by
  obtain ⟨k, e, _, w⟩ := DataW.trod_int Try.underlying3 h
  exact ⟨k, e, i64_of_wf w⟩
theorem read_ints {cs : List Value} {x : DataW H × List MemPlace} (h : DataW.trod enc Try.prog W base spare held n 32 cs = some x) : ∃ a cap xs, cs = [.slice a (xs : List Int).length cap] ∧ Ints W a cap xs ∧ xs.length ≤ maxLen := by
  rcases Go.Deep.open_slice1 Try.underlying32 (by kernel_rfl) h with ⟨rfl, _⟩ | ⟨a, len, cap, m, k, V, D, Pl, rfl, hb, hl, hm, hmm, _, hx⟩
  · exact ⟨none, 0, [], rfl, Ints.nil' W, Nat.zero_le _⟩
  · have hlm : len ≤ m := by rw [hmm]; split <;> omega
    have each : ∀ i, i < len → ∃ q : Int, V i = .int .i64 q ∧ I64 q := by
      intro i hi
      obtain ⟨q, e, w⟩ := read_int (hx i (by omega)).2
      exact ⟨q, by simpa using e, w⟩
    obtain ⟨F, hF⟩ := Go.Deep.choose_lt (α := Int) each
    have hlen : ((List.range len).map F).length = len := by simp
    refine ⟨some a, cap, (List.range len).map F, by rw [hlen], ⟨by rw [hlen]; exact hl, by have : cap ≤ maxLen := hm; unfold maxLen at this; omega, (fun e => by cases e), fun j hj => ?_⟩, by rw [hlen]; omega⟩
    have hj' : j < len := by rw [hlen] at hj; exact hj
    have c0 := (hx j (by omega)).1
    have cz := (hx 0 (by omega)).1
    obtain ⟨b, o, sp⟩ := a
    have hsp : sp = none := by simpa [Addr.add] using World.cell?_spot cz
    subst hsp
    rw [add_plain, (hF j hj').1] at c0
    exact ⟨b, o, rfl, by simpa using c0, by simpa using (hF j hj').2⟩
theorem read_struct {P : Program} {t : TypeId} {fs : Array Field} {cs : List Value} {x : DataW H × List MemPlace} (ht : P.underlying t = some (.struct fs)) (h : DataW.trod enc P W base spare held n t cs = some x) :
    cs.length = P.cellsOf t ∧ ∀ (i : Nat) (f : Field) (u : TypeId) (o k : Nat), fs[i]? = some f → f.type = u → f.offset = o → P.cellsOf u = k → ∃ m y, DataW.trod enc P W base spare held m u ((cs.drop o).take k) = some y := by
  obtain ⟨xs, m, _, _, hl, hn, hf⟩ := DataW.trod_struct ht h
  refine ⟨hl, ?_⟩
  rintro i f u o k hi rfl rfl rfl
  have e := hf i f hi
  have hlt : i < fs.size := (Array.getElem?_eq_some_iff.1 hi).1
  rw [List.getElem?_eq_getElem (by omega)] at e
  exact ⟨m, _, e⟩
theorem c_int : (Try.prog).cellsOf 3 = 1 := by kernel_rfl
theorem c_ints : (Try.prog).cellsOf 32 = 1 := by kernel_rfl
theorem c_conf : (Try.prog).cellsOf 34 = 2 := by kernel_rfl
theorem c_string : (Try.prog).cellsOf 9 = 1 := by kernel_rfl
theorem read_conf {cs : List Value} {x : DataW H × List MemPlace} (h : DataW.trod enc Try.prog W base spare held n 34 cs = some x) :
    ∃ ep a cap xs, cs = [.int .i64 ep, .slice a (xs : List Int).length cap] ∧ I64 ep ∧ Ints W a cap xs ∧ xs.length ≤ maxLen := by
  obtain ⟨hl, hf⟩ := read_struct Try.underlying34 h
  have hl : cs.length = 2 := hl.trans c_conf
  match cs, hl with
  | [v0, v1], _ =>
    obtain ⟨_, _, h0⟩ := hf 0 _ 3 0 1 rfl rfl rfl c_int
    obtain ⟨_, _, h1⟩ := hf 1 _ 32 1 1 rfl rfl rfl c_ints
    obtain ⟨k, e0, hk⟩ := read_int h0
    obtain ⟨a, cap, xs, e1, hi, hm⟩ := read_ints h1
    simp at e0 e1
    subst e0; subst e1
    exact ⟨k, a, cap, xs, rfl, hk, hi, hm⟩
/-- An argument that is a struct: its cells. -/
theorem arg_struct {P : Program} {t : TypeId} {fs : Array Field} {v : Value} {d : DataW H} {p : List MemPlace} {b0 : Nat} {r : Reach} (ht : P.underlying t = some (.struct fs)) (ok : Value.okWide P W r b0 t v)
    (h : DataW.Trod enc P W base spare held t v d p) : ∃ cs : List Value, v = .agg cs.toArray ∧ ∃ n x, DataW.trod enc P W base spare held n t cs = some x := by
  obtain ⟨cs, rfl, _⟩ := okWide_struct ht ok
  obtain ⟨m, hm⟩ := h
  exact ⟨cs.toList, rfl, m, _, hm⟩
set_option maxRecDepth 100000 in
theorem arg_conf {v : Value} {d : DataW H} {p : List MemPlace} {b0 : Nat} {r : Reach} (ok : Value.okWide Try.prog W r b0 34 v) (h : DataW.Trod enc Try.prog W base spare held 34 v d p) :
    ∃ ep a cap xs, v = .agg #[.int .i64 ep, .slice a (xs : List Int).length cap] ∧ I64 ep ∧ Ints W a cap xs ∧ xs.length ≤ maxLen := by
  obtain ⟨cs, rfl, n, x, hx⟩ := arg_struct Try.underlying34 ok h
  obtain ⟨ep, a, cap, xs, rfl, r⟩ := read_conf hx
  exact ⟨ep, a, cap, xs, rfl, r⟩
/-- A slice whose elements are read by a reading of their own, of k cells each. -/
theorem read_slice {P : Program} {α : Type} [Inhabited α] {t e : TypeId} {k : Nat} {cs : List Value} {x : DataW H × List MemPlace} (R : α → List Value → Prop) (ht : P.underlying t = some (.slice e)) (hc : P.cellsOf e = k)
    (hR : ∀ m cs y, DataW.trod enc P W base spare held m e cs = some y → ∃ q, R q cs) (h : DataW.trod enc P W base spare held n t cs = some x) :
    ∃ a len cap, cs = [.slice a len cap] ∧ len ≤ maxLen ∧ len ≤ cap ∧ cap ≤ maxLen ∧ (a = none → len = 0 ∧ cap = 0) ∧ ∃ F : Nat → α, ∀ i, i < len → ∃ cs', R (F i) cs' ∧ cs'.length = k ∧ (0 < k → ∃ b o, a = some ⟨b, o, none⟩ ∧ ∀ j (hj : j < cs'.length), W.cell? ⟨b, o + i * k + j, none⟩ = some cs'[j]) := by
  rcases Go.Deep.open_slice ht h with ⟨rfl, _⟩ | ⟨a, len, cap, m, k', D, Pl, rfl, hb, hl, hm, hmm, _, hx⟩
  · exact ⟨none, 0, 0, rfl, Nat.zero_le _, Nat.zero_le _, Nat.zero_le _, fun _ => ⟨rfl, rfl⟩, fun _ => default, fun i hi => absurd hi (Nat.not_lt_zero _)⟩
  · have hlm : len ≤ m := by rw [hmm]; split <;> omega
    rw [hc] at hx
    have each : ∀ i, i < len → ∃ q : α, ∃ cs', R q cs' ∧ cs'.length = k ∧ (0 < k → ∃ b o, (some a : Option Addr) = some ⟨b, o, none⟩ ∧ ∀ j (hj : j < cs'.length), W.cell? ⟨b, o + i * k + j, none⟩ = some cs'[j]) := by
      intro i hi
      obtain ⟨cs', h1, h2⟩ := hx i (by omega)
      obtain ⟨_, hlen, hcell⟩ := World.cells?_some h1
      obtain ⟨q, hq⟩ := hR _ _ _ h2
      refine ⟨q, cs', hq, hlen, fun hk => ?_⟩
      obtain ⟨cz, h1z, _⟩ := hx 0 (by omega)
      obtain ⟨_, hlenz, hcellz⟩ := World.cells?_some h1z
      have cz := hcellz 0 hk
      obtain ⟨b, o, sp⟩ := a
      rw [Go.Deep.add_add, List.getElem?_eq_getElem (by omega)] at cz
      have hsp : sp = none := by simpa [Addr.add] using World.cell?_spot cz
      subst hsp
      refine ⟨b, o, rfl, fun j hj => ?_⟩
      have c := hcell j (by omega)
      rw [Go.Deep.add_add, List.getElem?_eq_getElem hj, add_plain] at c
      rw [Nat.add_assoc]; exact c
    obtain ⟨F, hF⟩ := Go.Deep.choose_lt each
    exact ⟨some a, len, cap, rfl, Nat.le_trans hl hm, hl, hm, (fun e => by cases e), F, hF⟩
/-- An argument of one cell: its cell. -/
theorem arg_slice {P : Program} {t e : TypeId} {v : Value} {d : DataW H} {p : List MemPlace} {b0 : Nat} {r : Reach} (ht : P.underlying t = some (.slice e)) (ok : Value.okWide P W r b0 t v)
    (h : DataW.Trod enc P W base spare held t v d p) : ∃ n x, DataW.trod enc P W base spare held n t [v] = some x := by
  obtain ⟨a, len, cap, rfl⟩ := okWide_slice ht ok
  obtain ⟨m, hm⟩ := h
  exact ⟨m, _, hm⟩
end
end Go.Proofs.Ytakbkpklfihfiaa
