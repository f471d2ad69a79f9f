/- Worlds that grew behind a writer: 'y : EW (WB n0 b w) w'. A block that the writer does not write is told by NW; simp reads its cells through any number of such worlds. -/
import Derived.Test.YtekbonciafbjiaaEw
import Derived.Test.YtekbonciafbjiaaRefW2
import Derived.Test.YtekbonciafbjiaaPack
import Derived.Test.YtekbonciafbjiaaDeedsT
namespace Go.Proofs.Ytekbonciafbjiaa
open Go.RowKit
set_option linter.unusedVariables false

/-- Block k is there, and not the writer's. -/
def NW (n0 b : Nat) (w : World) (k : Nat) : Prop := k < w.heap.size ∧ ¬ WB n0 b w k
theorem NW.old {n0 b : Nat} {w : World} {k : Nat} (hk : k < n0) (hb : n0 ≤ b) (hw : n0 ≤ w.heap.size) : NW n0 b w k :=
  ⟨by omega, fun h => by rcases h with h | h; omega; have := h.1; omega⟩
theorem NW.box {n0 b : Nat} {w : World} {k : Nat} {c : Array Value} {t : TypeId} {fr : Nat × Nat} (h : w.heap[k]? = some (.cells c t fr)) (hk : k ≠ b) (ht : t ≠ 5) : NW n0 b w k :=
  ⟨(Array.getElem?_eq_some_iff.1 h).1, WB.other h hk ht⟩
theorem NW.new {n0 b : Nat} {w : World} {k : Nat} (c : Array Value) (t : TypeId) (hk : k = w.heap.size) (hb : b < w.heap.size) (ht : t ≠ 5) : NW n0 b (w.alloc (.cells c t)) k := by
  subst hk
  exact NW.box (heap_alloc_new _ _) (by omega) ht
theorem NW.ext {S : Nat → Prop} {n0 b : Nat} {w w' : World} {k : Nat} (h : NW n0 b w k) (x : Ext S w w') (hs : ¬ S k) : NW n0 b w' k :=
  ⟨Nat.lt_of_lt_of_le h.1 x.size, fun hb => h.2 (by
    rcases hb with e | ⟨h1, cs, fr, h2⟩
    · exact .inl e
    · exact .inr ⟨h1, cs, fr, (x.block k h.1 hs).symm.trans h2⟩)⟩
/-- What is NW in the later world alone. -/
def restN (n0 b : Nat) (w w' : World) (k : Nat) : Prop := NW n0 b w' k ∧ ¬ NW n0 b w k
theorem NW.or {S : Nat → Prop} {n0 b : Nat} {w w' : World} (x : Ext S w w') (k : Nat) (hs : NW n0 b w k → ¬ S k) : NW n0 b w' k = (NW n0 b w k ∨ restN n0 b w w' k) := by
  apply propext
  constructor
  · intro h
    by_cases g : NW n0 b w k
    · exact .inl g
    · exact .inr ⟨h, g⟩
  · rintro (h | h)
    · exact h.ext x (hs h)
    · exact h.1
theorem NW.ewN {n0 b : Nat} {w : World} (x : EW Non w) (k : Nat) : NW n0 b x.on k = (NW n0 b w k ∨ restN n0 b w x.on k) := NW.or x.ext k (fun _ f => f)
theorem NW.ewW {n0 b : Nat} {w : World} (x : EW (WB n0 b w) w) (k : Nat) : NW n0 b x.on k = (NW n0 b w k ∨ restN n0 b w x.on k) := NW.or x.ext k (fun h => h.2)
theorem NW.alloc {n0 b : Nat} {w : World} (o : Obj) (k : Nat) : NW n0 b (w.alloc o) k = (NW n0 b w k ∨ restN n0 b w (w.alloc o) k) := NW.or ((Ext.refl Non w).alloc o) k (fun _ f => f)
open Classical in
/-- A cell that the writer may have written. -/
noncomputable def restW (n0 b : Nat) (w w' : World) (p : Addr) : Option Value := w'.cell? p
open Classical in
theorem EW.cellW {n0 b : Nat} {w : World} (x : EW (WB n0 b w) w) (k i : Nat) (s : Option Nat) : x.on.cell? ⟨k, i, s⟩ = if NW n0 b w k then w.cell? ⟨k, i, s⟩ else restW n0 b w x.on ⟨k, i, s⟩ := by
  by_cases h : NW n0 b w k
  · rw [if_pos h]; exact x.ext.cell h.1 h.2
  · rw [if_neg h]; rfl
open Classical in
theorem EW.frozW {n0 b : Nat} {w : World} (x : EW (WB n0 b w) w) (k i : Nat) (s : Option Nat) : x.on.frozen? ⟨k, i, s⟩ = if NW n0 b w k then w.frozen? ⟨k, i, s⟩ else restF w x.on ⟨k, i, s⟩ := by
  by_cases h : NW n0 b w k
  · rw [if_pos h]; exact x.ext.froz h.1 h.2
  · rw [if_neg h]; rfl
theorem Ext.upW {n0 b : Nat} {a w : World} {x : EW (WB n0 b w) w} (h : Ext (WB n0 b a) a w) : Ext (WB n0 b a) a x.on := h.wtrans x.ext
/-- A writer's world, seen from ahead of the writer. -/
structure Ahead (n0 b : Nat) (a : World) : Prop where
  n : a.heap.size ≤ n0
  b : n0 ≤ b
theorem Ext.upA {n0 b : Nat} {a w : World} {x : EW (WB n0 b w) w} (hb : Ahead n0 b a) (h : Ext Non a w) : Ext Non a x.on :=
  h.step x.ext fun i hi s => by
    have := hb.n; have := hb.b
    rcases s with s | s
    · omega
    · have := s.1; omega
theorem PW.base_le' {w : World} {n0 b : Nat} {W : Wr} (h : PW w n0 b W) : n0 ≤ w.heap.size := Nat.le_trans h.nb (Nat.le_of_lt h.lt)
theorem RW.base_le {w : World} {n0 b : Nat} {W : Wr} (h : RW w n0 b W) : n0 ≤ w.heap.size := Nat.le_trans h.nb (Nat.le_of_lt h.lt)
end Go.Proofs.Ytekbonciafbjiaa
