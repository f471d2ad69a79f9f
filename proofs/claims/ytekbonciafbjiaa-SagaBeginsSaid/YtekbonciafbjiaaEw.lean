/- Worlds that grew: 'x : EW S w' is a world behind w in which only blocks of S, and new ones, were written. The walk's simp reads old cells through it. A region that draws its order, whose callees only make memory, walked once. -/
import Derived.Test.YtekbonciafbjiaaKit
namespace Go.Proofs.Ytekbonciafbjiaa
open Go.RowKit
set_option linter.unusedVariables false

/-- A world behind w, nothing old but S written. -/
structure EW (S : Nat → Prop) (w : World) where
  on : World
  ext : Ext S w on
instance {S : Nat → Prop} {w : World} : Nonempty (EW S w) := ⟨⟨w, Ext.refl S w⟩⟩
theorem Ext.ew {S : Nat → Prop} {w w' : World} (x : Ext S w w') : ∃ y : EW S w, w' = y.on := ⟨⟨w', x⟩, rfl⟩
open Classical in
/-- What stands in a cell that w does not tell of. -/
noncomputable def restC (w w' : World) (p : Addr) : Option Value := if (w.cell? p).isSome = false then w'.cell? p else none
open Classical in
noncomputable def restF (w w' : World) (p : Addr) : Bool := w'.frozen? p
theorem Ext.cell_keep {S : Nat → Prop} {w w' : World} (x : Ext S w w') {p : Addr} (hS : ¬ S p.block) : w'.cell? p = (w.cell? p).or (restC w w' p) := by
  unfold restC
  cases h : w.cell? p with
  | none => simp
  | some v =>
    have := x.cell (p := p) (lt_of_cell h) hS
    rw [this, h]; simp
theorem Ext.froz_keep {S : Nat → Prop} {w w' : World} (x : Ext S w w') {p : Addr} (hS : ¬ S p.block) : w'.frozen? p = if (w.cell? p).isSome = true then w.frozen? p else restF w w' p := by
  unfold restF
  cases h : w.cell? p with
  | none => simp
  | some v => simpa using x.froz (p := p) (lt_of_cell h) hS
theorem EW.cellN {w : World} (x : EW Non w) (p : Addr) : x.on.cell? p = (w.cell? p).or (restC w x.on p) := x.ext.cell_keep (fun f => f)
theorem EW.frozN {w : World} (x : EW Non w) (p : Addr) : x.on.frozen? p = if (w.cell? p).isSome = true then w.frozen? p else restF w x.on p := x.ext.froz_keep (fun f => f)
theorem EW.cell1 {w : World} {b : Nat} (x : EW (One b) w) (k i : Nat) (s : Option Nat) (h : (k = b) = False) : x.on.cell? ⟨k, i, s⟩ = (w.cell? ⟨k, i, s⟩).or (restC w x.on ⟨k, i, s⟩) := x.ext.cell_keep (fun f => by rw [← h]; exact f)
theorem EW.froz1 {w : World} {b : Nat} (x : EW (One b) w) (k i : Nat) (s : Option Nat) (h : (k = b) = False) : x.on.frozen? ⟨k, i, s⟩ = if (w.cell? ⟨k, i, s⟩).isSome = true then w.frozen? ⟨k, i, s⟩ else restF w x.on ⟨k, i, s⟩ := x.ext.froz_keep (fun f => by rw [← h]; exact f)
theorem alloc_cell_or (w : World) (o : Obj) (p : Addr) : (w.alloc o).cell? p = (w.cell? p).or (restC w (w.alloc o) p) := ((Ext.refl Non w).alloc o).cell_keep (fun f => f)
theorem alloc_froz_or (w : World) (o : Obj) (p : Addr) : (w.alloc o).frozen? p = if (w.cell? p).isSome = true then w.frozen? p else restF w (w.alloc o) p := ((Ext.refl Non w).alloc o).froz_keep (fun f => f)

theorem Ext.upN {S : Nat → Prop} {a w : World} {x : EW Non w} (h : Ext S a w) : Ext S a x.on := h.trans x.ext.ofNon
theorem Ext.up1 {b : Nat} {a w : World} {x : EW (One b) w} (h : Ext (One b) a w) : Ext (One b) a x.on := h.trans x.ext
theorem Ext.upNew {b : Nat} {a w : World} {x : EW (One b) w} (hb : a.heap.size ≤ b) (h : Ext Non a w) : Ext Non a x.on := h.step x.ext (fun i hi e => by unfold One at e; omega)

section
variable {P : Program} {ops : Array Oper} {C : World → Prop}
/-- A region whose operations are written out, at the class 'w and what grows of it'. -/
theorem wp_region_ext_lit {id : Nat} {Q : Exit → Act → World → Prop} {a : Act} {w : World} {l : List Oper} (hm : P.follows .mixedOrders = true) (hB : Region.lexB .any l.toArray = true)
    (h : wpQuiet P l.toArray (fun w' => ∃ x : EW Non w, w' = x.on) (fun a' => ∀ w', (∃ x : EW Non w, w' = x.on) → Q .normal a' w') l a) : (Code.region id l.toArray true).wp P Q a w :=
  wp_region_quiet (C := fun w' => ∃ x : EW Non w, w' = x.on) hm hB ⟨⟨w.drew, (Ext.refl Non w).drew⟩, rfl⟩ (by simpa using h)
/-- A callee's contract, met in a world behind w. -/
theorem Calls.ext_of {f : FuncId} {args : Array Value} {w : World} {x : EW Non w} {v : Value}
    (h : Calls P f args x.on fun e w' => e = .returned v ∧ Ext Non x.on w') : Calls P f args x.on fun e w'' => e = .returned v ∧ ∃ y : EW Non w, w'' = y.on :=
  h.mono fun _ _ ⟨he, hx⟩ => ⟨he, ⟨_, x.ext.trans hx⟩, rfl⟩
theorem Calls.ext_eq {f : FuncId} {args : Array Value} {w : World} {x : EW Non w} {v : Value}
    (h : Calls P f args x.on fun e w' => e = .returned v ∧ x.on = w') : Calls P f args x.on fun e w'' => e = .returned v ∧ ∃ y : EW Non w, w'' = y.on :=
  h.mono fun _ _ ⟨he, hx⟩ => ⟨he, x, hx.symm⟩
theorem Calls.ext_drew {f : FuncId} {args : Array Value} {w : World} {x : EW Non w} {v : Value}
    (h : Calls P f args x.on fun e w' => e = .returned v ∧ ∃ n, w' = x.on.drewN n) : Calls P f args x.on fun e w'' => e = .returned v ∧ ∃ y : EW Non w, w'' = y.on :=
  h.mono fun _ _ ⟨he, n, hx⟩ => ⟨he, ⟨_, x.ext.drewN n⟩, hx⟩
theorem Calls.ext_ofv {f : FuncId} {args : Array Value} {w : World} {x : EW Non w} {u v : Value}
    (h : Calls P f args x.on fun e w' => e = .returned u ∧ Ext Non x.on w') (hv : u = v) : Calls P f args x.on fun e w'' => e = .returned v ∧ ∃ y : EW Non w, w'' = y.on := by subst hv; exact Calls.ext_of h
theorem Calls.ext_eqv {f : FuncId} {args : Array Value} {w : World} {x : EW Non w} {u v : Value}
    (h : Calls P f args x.on fun e w' => e = .returned u ∧ x.on = w') (hv : u = v) : Calls P f args x.on fun e w'' => e = .returned v ∧ ∃ y : EW Non w, w'' = y.on := by subst hv; exact Calls.ext_eq h
theorem Calls.ext_drewv {f : FuncId} {args : Array Value} {w : World} {x : EW Non w} {u v : Value}
    (h : Calls P f args x.on fun e w' => e = .returned u ∧ ∃ n, w' = x.on.drewN n) (hv : u = v) : Calls P f args x.on fun e w'' => e = .returned v ∧ ∃ y : EW Non w, w'' = y.on := by subst hv; exact Calls.ext_drew h
/-- The same three, for a walk outside such regions: the world behind the call is a world that grew. -/
theorem Calls.ew {f : FuncId} {args : Array Value} {S : Nat → Prop} {w : World} {R : Ending → Prop} {Q : Ending → World → Prop} (h : Calls P f args w fun e w' => R e ∧ Ext S w w') (k : ∀ e (y : EW S w), R e → Q e y.on) : Calls P f args w Q :=
  h.mono fun e w' ⟨he, hx⟩ => k e ⟨w', hx⟩ he
theorem Calls.ewD {f : FuncId} {args : Array Value} {w : World} {R : Ending → Prop} {Q : Ending → World → Prop} (h : Calls P f args w fun e w' => R e ∧ ∃ n, w' = w.drewN n) (k : ∀ e (y : EW Non w), R e → Q e y.on) : Calls P f args w Q :=
  h.mono fun e w' ⟨he, n, hx⟩ => by subst hx; exact k e ⟨_, (Ext.refl Non w).drewN n⟩ he
end
end Go.Proofs.Ytekbonciafbjiaa
