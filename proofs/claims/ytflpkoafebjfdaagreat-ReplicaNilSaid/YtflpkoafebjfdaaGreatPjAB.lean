/- Joined texts: Kit, Ew. What each proves stands at its head; no conditions beside those in its theorems. -/
import Derived.WalkKit
import Derived.WalkLawsBesides
import Derived.Deep.QuietTactic
import Derived.BigQuiet
import Derived.Handy
import Derived.Deep.RegionWith
import Derived.StillTailTactics
import Derived.Deep.DeepCutAuto
import Derived.Deep.LoopGhost
import Derived.Lib.SliceRun
import Derived.Lib.Hide
/- Words of my own for walks that write: 'Ext S w w'': w' is w with new blocks, and with writes to the blocks of S alone. -/
namespace Go.Proofs.YtflpkoafebjfdaaGreat
open Go.RowKit
set_option linter.unusedVariables false

structure Ext (S : Nat → Prop) (w w' : World) : Prop where
  os : w'.os = w.os
  tape : w'.tape = w.tape
  output : w'.output = w.output
  size : w.heap.size ≤ w'.heap.size
  block : ∀ k, k < w.heap.size → ¬ S k → w'.heap[k]? = w.heap[k]?

/-- Nothing that was there has been written. -/
def Non : Nat → Prop := fun _ => False
/-- Block b alone. -/
def One (b : Nat) : Nat → Prop := fun k => k = b

theorem one_self (b : Nat) : One b b := rfl
theorem Ext.refl (S : Nat → Prop) (w : World) : Ext S w w := ⟨rfl, rfl, rfl, Nat.le_refl _, fun _ _ _ => rfl⟩
theorem Ext.trans {S : Nat → Prop} {a b c : World} (h : Ext S a b) (k : Ext S b c) : Ext S a c :=
  ⟨k.os.trans h.os, k.tape.trans h.tape, k.output.trans h.output, Nat.le_trans h.size k.size, fun i hi hs => (k.block i (Nat.lt_of_lt_of_le hi h.size) hs).trans (h.block i hi hs)⟩
theorem Ext.mono {S T : Nat → Prop} {w w' : World} (h : Ext S w w') (hs : ∀ k, k < w.heap.size → S k → T k) : Ext T w w' :=
  ⟨h.os, h.tape, h.output, h.size, fun i hi ht => h.block i hi fun s => ht (hs i hi s)⟩
theorem Ext.ofNon {S : Nat → Prop} {w w' : World} (h : Ext Non w w') : Ext S w w' := h.mono fun _ _ f => f.elim
theorem Ext.drew {S : Nat → Prop} {a w : World} (h : Ext S a w) : Ext S a w.drew := ⟨h.os, h.tape, h.output, h.size, h.block⟩
theorem Ext.drewN {S : Nat → Prop} {a w : World} (h : Ext S a w) (n : Nat) : Ext S a (w.drewN n) := ⟨h.os, h.tape, h.output, h.size, h.block⟩
theorem Ext.alloc {S : Nat → Prop} {a w : World} (h : Ext S a w) (o : Obj) : Ext S a (w.alloc o) :=
  h.trans ⟨rfl, rfl, rfl, by simp, fun k hk _ => Below.heap_alloc _ _ _ hk⟩
theorem Ext.setCell {S : Nat → Prop} {a w : World} (h : Ext S a w) {p : Addr} (hp : S p.block ∨ a.heap.size ≤ p.block) (u : Value) : Ext S a (w.setCell p u) :=
  ⟨h.os, h.tape, h.output, by simpa [World.setCell] using h.size, fun k hk hs => (Below.heap_setCell _ _ _ _ (by rintro rfl; rcases hp with hp | hp; exact hs hp; omega)).trans (h.block k hk hs)⟩
theorem Ext.set1 {b o : Nat} {a w : World} (h : Ext (One b) a w) (u : Value) : Ext (One b) a (w.setCell ⟨b, o, none⟩ u) := h.setCell (p := ⟨b, o, Option.none⟩) (.inl (one_self b)) u
theorem Ext.below {S : Nat → Prop} {w w' : World} (h : Ext S w w') {B : Nat} (hB : B ≤ w.heap.size) (hs : ∀ k, k < B → ¬ S k) : Below B w w' :=
  ⟨h.os, h.tape, h.output, h.size, fun k hk => h.block k (by omega) (hs k hk)⟩
theorem Ext.toBelow {w w' : World} (h : Ext Non w w') : Below w.heap.size w w' := h.below (Nat.le_refl _) fun _ _ f => f
theorem Ext.ofGrown {S : Nat → Prop} {w w' : World} {row : Option Nat} (h : w.grownBy w' row) (hr : ∀ k, row = some k → S k ∨ w.heap.size ≤ k) : Ext S w w' :=
  ⟨h.os, h.tape, h.output, h.size, fun k hk hs => h.block k hk fun e => by rcases hr k e.symm with q | q; exact hs q; omega⟩
theorem Ext.cell {S : Nat → Prop} {w w' : World} (h : Ext S w w') {p : Addr} (hp : p.block < w.heap.size) (hs : ¬ S p.block) : w'.cell? p = w.cell? p := World.cell?_of_block (w := w) (h.block p.block hp hs)
theorem Ext.froz {S : Nat → Prop} {w w' : World} (h : Ext S w w') {p : Addr} (hp : p.block < w.heap.size) (hs : ¬ S p.block) : w'.frozen? p = w.frozen? p := World.frozen?_of_block (w := w) (h.block p.block hp hs)
/-- Two steps of unlike footprints: the second may also write what is new since the first. -/
theorem Ext.step {S T : Nat → Prop} {a b c : World} (h : Ext S a b) (k : Ext T b c) (hT : ∀ i, i < a.heap.size → T i → S i) : Ext S a c :=
  ⟨k.os.trans h.os, k.tape.trans h.tape, k.output.trans h.output, Nat.le_trans h.size k.size, fun i hi hs => (k.block i (Nat.lt_of_lt_of_le hi h.size) fun t => hs (hT i hi t)).trans (h.block i hi hs)⟩

theorem heap_set_same {w : World} {g k : Nat} {cur : List Value} {t : TypeId} (h : w.heap[g]? = some (.cells cur.toArray t (0, 0))) (v : Value) :
    (w.setCell ⟨g, k, none⟩ v).heap[g]? = some (.cells (cur.set k v).toArray t (0, 0)) := by
  simp [World.setCell, Array.getElem?_modify, h]
theorem cell_of_heap {w : World} {g k : Nat} {cur : List Value} {t : TypeId} {v : Value} (h : w.heap[g]? = some (.cells cur.toArray t (0, 0))) (hk : cur[k]? = some v) : w.cell? ⟨g, k, none⟩ = some v := by
  simp [World.cell?, h, hk]
theorem froz_of_heap {w : World} {g k : Nat} {cur : List Value} {t : TypeId} (h : w.heap[g]? = some (.cells cur.toArray t (0, 0))) : w.frozen? ⟨g, k, none⟩ = false := by
  simp [World.frozen?, h]
theorem addr_add (b o i : Nat) : (⟨b, o, none⟩ : Addr).add i = ⟨b, o + i, none⟩ := by unfold Addr.add; split <;> simp_all
theorem lt_of_cell {w : World} {a : Addr} {v : Value} (h : w.cell? a = some v) : a.block < w.heap.size := by
  unfold World.cell? at h
  rcases Nat.lt_or_ge a.block w.heap.size with q | q
  · exact q
  · rw [Array.getElem?_eq_none q] at h; cases h

/-- The kit has no law of the walk for the store of a real. -/
theorem run_store_float {P : Program} {w : World} {a : Addr} {m : Mode} (k : FloatKind) (x : Nat) : (store a (.float k x) m).run P w = stored P w a (.float k x) m := run_store P w a _ m rfl
/-- A number that an int holds. -/
def I64 (n : Int) : Prop := -9223372036854775808 ≤ n ∧ n ≤ 9223372036854775807
theorem bv1 : (BitVec.ofInt 64 0 ||| BitVec.ofInt 64 0).toNat = 0 := by decide
theorem bv0 : (0#64).toInt = 0 := by decide
set_option maxRecDepth 100000 in
theorem or_i64 (a b : Int) (ha : I64 a) (hb : I64 b) : (bits .or .i64 a b = 0 ↔ a = 0 ∧ b = 0) ∧ I64 (bits .or .i64 a b) := by
  have e : bits .or .i64 a b = IntKind.i64.wrap ((BitVec.ofInt 64 a ||| BitVec.ofInt 64 b).toNat : Int) := rfl
  have hz : ∀ x : Int, I64 x → (BitVec.ofInt 64 x = 0#64 ↔ x = 0) := by
    intro x hx
    constructor
    · intro h
      have h2 := BitVec.toInt_ofInt_eq_self (w := 64) (n := x) (by decide) hx.1 (Int.lt_add_one_iff.2 hx.2)
      exact h2.symm.trans ((congrArg BitVec.toInt h).trans bv0)
    · rintro rfl; rfl
  have hl := (BitVec.ofInt 64 a ||| BitVec.ofInt 64 b).isLt
  rw [e, IntKind.wrap_i64]
  constructor
  · constructor
    · intro h
      have h0 : (BitVec.ofInt 64 a ||| BitVec.ofInt 64 b).toNat = 0 := by omega
      have h1 : BitVec.ofInt 64 a ||| BitVec.ofInt 64 b = 0#64 := BitVec.eq_of_toNat_eq h0
      have h2 := BitVec.or_eq_zero_iff.1 h1
      exact ⟨(hz a ha).1 h2.1, (hz b hb).1 h2.2⟩
    · rintro ⟨rfl, rfl⟩
      rw [bv1]; decide
  · unfold I64; omega
theorem ret_bool {a b : Bool} (h : a = b) : Ending.returned (.bool a) = .returned (.bool b) := by rw [h]
theorem ret_int {k : IntKind} {a b : Int} (h : a = b) : Ending.returned (.int k a) = .returned (.int k b) := by rw [h]
end Go.Proofs.YtflpkoafebjfdaaGreat

/- Worlds that grew: 'x : EW S w' is a world behind w in which only blocks of S, and new ones, were written. The walk's simp reads old cells through it. A region that draws its order, whose callees only make memory, walked once. -/
namespace Go.Proofs.YtflpkoafebjfdaaGreat
open Go.RowKit
set_option linter.unusedVariables false

/-- A world behind w, nothing old but S written. -/
structure EW (S : Nat → Prop) (w : World) where
  on : World
  ext : Ext S w on
instance {S : Nat → Prop} {w : World} : Nonempty (EW S w) := ⟨⟨w, Ext.refl S w⟩⟩
theorem Ext.ew {S : Nat → Prop} {w w' : World} (x : Ext S w w') : ∃ y : EW S w, w' = y.on := ⟨⟨w', x⟩, rfl⟩
open Classical in
/-- What stands in a cell that w does not tell of. -/
noncomputable def restC (w w' : World) (p : Addr) : Option Value := if (w.cell? p).isSome = false then w'.cell? p else none
open Classical in
noncomputable def restF (w w' : World) (p : Addr) : Bool := w'.frozen? p
theorem Ext.cell_keep {S : Nat → Prop} {w w' : World} (x : Ext S w w') {p : Addr} (hS : ¬ S p.block) : w'.cell? p = (w.cell? p).or (restC w w' p) := by
  unfold restC
  cases h : w.cell? p with
  | none => simp
  | some v =>
    have := x.cell (p := p) (lt_of_cell h) hS
    rw [this, h]; simp
theorem Ext.froz_keep {S : Nat → Prop} {w w' : World} (x : Ext S w w') {p : Addr} (hS : ¬ S p.block) : w'.frozen? p = if (w.cell? p).isSome = true then w.frozen? p else restF w w' p := by
  unfold restF
  cases h : w.cell? p with
  | none => simp
  | some v => simpa using x.froz (p := p) (lt_of_cell h) hS
theorem EW.cellN {w : World} (x : EW Non w) (p : Addr) : x.on.cell? p = (w.cell? p).or (restC w x.on p) := x.ext.cell_keep (fun f => f)
theorem EW.frozN {w : World} (x : EW Non w) (p : Addr) : x.on.frozen? p = if (w.cell? p).isSome = true then w.frozen? p else restF w x.on p := x.ext.froz_keep (fun f => f)
theorem EW.cell1 {w : World} {b : Nat} (x : EW (One b) w) (k i : Nat) (s : Option Nat) (h : (k = b) = False) : x.on.cell? ⟨k, i, s⟩ = (w.cell? ⟨k, i, s⟩).or (restC w x.on ⟨k, i, s⟩) := x.ext.cell_keep (fun f => by rw [← h]; exact f)
theorem EW.froz1 {w : World} {b : Nat} (x : EW (One b) w) (k i : Nat) (s : Option Nat) (h : (k = b) = False) : x.on.frozen? ⟨k, i, s⟩ = if (w.cell? ⟨k, i, s⟩).isSome = true then w.frozen? ⟨k, i, s⟩ else restF w x.on ⟨k, i, s⟩ := x.ext.froz_keep (fun f => by rw [← h]; exact f)
theorem alloc_cell_or (w : World) (o : Obj) (p : Addr) : (w.alloc o).cell? p = (w.cell? p).or (restC w (w.alloc o) p) := ((Ext.refl Non w).alloc o).cell_keep (fun f => f)
theorem alloc_froz_or (w : World) (o : Obj) (p : Addr) : (w.alloc o).frozen? p = if (w.cell? p).isSome = true then w.frozen? p else restF w (w.alloc o) p := ((Ext.refl Non w).alloc o).froz_keep (fun f => f)

theorem Ext.upN {S : Nat → Prop} {a w : World} {x : EW Non w} (h : Ext S a w) : Ext S a x.on := h.trans x.ext.ofNon
section
variable {P : Program} {ops : Array Oper} {C : World → Prop}
/-- A region whose operations are written out, at the class 'w and what grows of it'. -/
theorem wp_region_ext_lit {id : Nat} {Q : Exit → Act → World → Prop} {a : Act} {w : World} {l : List Oper} (hm : P.follows .mixedOrders = true) (hB : Region.lexB .any l.toArray = true)
    (h : wpQuiet P l.toArray (fun w' => ∃ x : EW Non w, w' = x.on) (fun a' => ∀ w', (∃ x : EW Non w, w' = x.on) → Q .normal a' w') l a) : (Code.region id l.toArray true).wp P Q a w :=
  wp_region_quiet (C := fun w' => ∃ x : EW Non w, w' = x.on) hm hB ⟨⟨w.drew, (Ext.refl Non w).drew⟩, rfl⟩ (by simpa using h)
/-- A callee's contract, met in a world behind w. -/
theorem Calls.ext_of {f : FuncId} {args : Array Value} {w : World} {x : EW Non w} {v : Value}
    (h : Calls P f args x.on fun e w' => e = .returned v ∧ Ext Non x.on w') : Calls P f args x.on fun e w'' => e = .returned v ∧ ∃ y : EW Non w, w'' = y.on :=
  h.mono fun _ _ ⟨he, hx⟩ => ⟨he, ⟨_, x.ext.trans hx⟩, rfl⟩
theorem Calls.ext_ofv {f : FuncId} {args : Array Value} {w : World} {x : EW Non w} {u v : Value}
    (h : Calls P f args x.on fun e w' => e = .returned u ∧ Ext Non x.on w') (hv : u = v) : Calls P f args x.on fun e w'' => e = .returned v ∧ ∃ y : EW Non w, w'' = y.on := by subst hv; exact Calls.ext_of h
/-- The same three, for a walk outside such regions: the world behind the call is a world that grew. -/
theorem Calls.ew {f : FuncId} {args : Array Value} {S : Nat → Prop} {w : World} {R : Ending → Prop} {Q : Ending → World → Prop} (h : Calls P f args w fun e w' => R e ∧ Ext S w w') (k : ∀ e (y : EW S w), R e → Q e y.on) : Calls P f args w Q :=
  h.mono fun e w' ⟨he, hx⟩ => k e ⟨w', hx⟩ he
end
end Go.Proofs.YtflpkoafebjfdaaGreat
