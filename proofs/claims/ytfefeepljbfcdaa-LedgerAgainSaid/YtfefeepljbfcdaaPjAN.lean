/- Joined texts: DeedsT, Ew2. What each proves stands at its head; no conditions beside those in its theorems. -/
import Derived.Test.YtfefeepljbfcdaaPjAA
import Derived.Test.YtfefeepljbfcdaaPjAB
import Derived.Test.YtfefeepljbfcdaaPjAE
import Derived.Test.YtfefeepljbfcdaaPjAI
import Derived.Test.YtfefeepljbfcdaaPjAM
import Derived.Test.YtfefeepljbfcdaaPjAF
import Derived.Test.YtfefeepljbfcdaaPjAJ
import Derived.Test.YtfefeepljbfcdaaPjAK
/- Contracts of layer 11 (deeds): texts; and the reference's. -/
namespace Go.Proofs.Ytfefeepljbfcdaa
open Go.RowKit Go.Lib F64
set_option linter.unusedSimpArgs false
set_option linter.unusedVariables false

/-- The cells of a block. -/
structure Bx (w : World) (k : Nat) (vs : List Value) (t : TypeId) : Prop where
  h : w.heap[k]? = some (.cells vs.toArray t (0, 0))
theorem Bx.lt {w : World} {k : Nat} {vs : List Value} {t : TypeId} (a : Bx w k vs t) : k < w.heap.size := (Array.getElem?_eq_some_iff.1 a.h).1
theorem Bx.ext {S : Nat → Prop} {w w' : World} {k : Nat} {vs : List Value} {t : TypeId} (a : Bx w k vs t) (x : Ext S w w') (hk : ¬ S k) : Bx w' k vs t := ⟨(x.block k a.lt hk).trans a.h⟩
theorem Bx.extN {w w' : World} {k : Nat} {vs : List Value} {t : TypeId} (a : Bx w k vs t) (x : Ext Non w w') : Bx w' k vs t := a.ext x (fun f => f)
theorem Bx.cell {w : World} {k : Nat} {vs : List Value} {t : TypeId} (a : Bx w k vs t) {j : Nat} {v : Value} (hv : vs[j]? = some v) : w.cell? ⟨k, j, none⟩ = some v := cell_of_heap a.h hv
theorem Bx.new (w : World) (vs : List Value) (t : TypeId) : Bx (w.alloc (.cells vs.toArray t)) w.heap.size vs t := ⟨heap_alloc_new _ _⟩
end Go.Proofs.Ytfefeepljbfcdaa

/- Worlds that grew behind a writer: 'y : EW (WB n0 b w) w'. A block that the writer does not write is told by NW; simp reads its cells through any number of such worlds. -/
namespace Go.Proofs.Ytfefeepljbfcdaa
open Go.RowKit
set_option linter.unusedVariables false

/-- Block k is there, and not the writer's. -/
def NW (n0 b : Nat) (w : World) (k : Nat) : Prop := k < w.heap.size ∧ ¬ WB n0 b w k
theorem NW.box {n0 b : Nat} {w : World} {k : Nat} {c : Array Value} {t : TypeId} {fr : Nat × Nat} (h : w.heap[k]? = some (.cells c t fr)) (hk : k ≠ b) (ht : t ≠ 5) : NW n0 b w k :=
  ⟨(Array.getElem?_eq_some_iff.1 h).1, WB.other h hk ht⟩
theorem NW.new {n0 b : Nat} {w : World} {k : Nat} (c : Array Value) (t : TypeId) (hk : k = w.heap.size) (hb : b < w.heap.size) (ht : t ≠ 5) : NW n0 b (w.alloc (.cells c t)) k := by
  subst hk
  exact NW.box (heap_alloc_new _ _) (by omega) ht
theorem NW.ext {S : Nat → Prop} {n0 b : Nat} {w w' : World} {k : Nat} (h : NW n0 b w k) (x : Ext S w w') (hs : ¬ S k) : NW n0 b w' k :=
  ⟨Nat.lt_of_lt_of_le h.1 x.size, fun hb => h.2 (by
    rcases hb with e | ⟨h1, cs, fr, h2⟩
    · exact .inl e
    · exact .inr ⟨h1, cs, fr, (x.block k h.1 hs).symm.trans h2⟩)⟩
/-- What is NW in the later world alone. -/
def restN (n0 b : Nat) (w w' : World) (k : Nat) : Prop := NW n0 b w' k ∧ ¬ NW n0 b w k
theorem NW.or {S : Nat → Prop} {n0 b : Nat} {w w' : World} (x : Ext S w w') (k : Nat) (hs : NW n0 b w k → ¬ S k) : NW n0 b w' k = (NW n0 b w k ∨ restN n0 b w w' k) := by
  apply propext
  constructor
  · intro h
    by_cases g : NW n0 b w k
    · exact .inl g
    · exact .inr ⟨h, g⟩
  · rintro (h | h)
    · exact h.ext x (hs h)
    · exact h.1
theorem NW.alloc {n0 b : Nat} {w : World} (o : Obj) (k : Nat) : NW n0 b (w.alloc o) k = (NW n0 b w k ∨ restN n0 b w (w.alloc o) k) := NW.or ((Ext.refl Non w).alloc o) k (fun _ f => f)
open Classical in
/-- A cell that the writer may have written. -/
noncomputable def restW (n0 b : Nat) (w w' : World) (p : Addr) : Option Value := w'.cell? p
theorem Ext.upW {n0 b : Nat} {a w : World} {x : EW (WB n0 b w) w} (h : Ext (WB n0 b a) a w) : Ext (WB n0 b a) a x.on := h.wtrans x.ext
/-- A writer's world, seen from ahead of the writer. -/
structure Ahead (n0 b : Nat) (a : World) : Prop where
  n : a.heap.size ≤ n0
  b : n0 ≤ b
theorem Ext.upA {n0 b : Nat} {a w : World} {x : EW (WB n0 b w) w} (hb : Ahead n0 b a) (h : Ext Non a w) : Ext Non a x.on :=
  h.step x.ext fun i hi s => by
    have := hb.n; have := hb.b
    rcases s with s | s
    · omega
    · have := s.1; omega
end Go.Proofs.Ytfefeepljbfcdaa
