/- Joined texts: Ew3, Ew4. What each proves stands at its head; no conditions beside those in its theorems. -/
import Derived.Deep.MidRow
import Derived.Test.YtfefeepljbfcdaaGreatPjAM
/- Worlds in which blocks from a base on may be written: 'x : EW (From b) w'; stores of whole structs. -/
namespace Go.Proofs.YtfefeepljbfcdaaGreat
open Go.RowKit
set_option linter.unusedVariables false
def From (b : Nat) : Nat → Prop := fun k => b ≤ k
theorem EW.cellF {b : Nat} {w : World} (x : EW (From b) w) (k i : Nat) (s : Option Nat) : x.on.cell? ⟨k, i, s⟩ = if k < b then (w.cell? ⟨k, i, s⟩).or (restC w x.on ⟨k, i, s⟩) else restW b b w x.on ⟨k, i, s⟩ := by
 split
 ·rename_i h; exact x.ext.cell_keep (fun f => by unfold From at f; simp at f; omega)
 ·rfl
theorem EW.frozF {b : Nat} {w : World} (x : EW (From b) w) (k i : Nat) (s : Option Nat) : x.on.frozen? ⟨k, i, s⟩ = if k < b then (if (w.cell? ⟨k, i, s⟩).isSome = true then w.frozen? ⟨k, i, s⟩ else restF w x.on ⟨k, i, s⟩) else restF w x.on ⟨k, i, s⟩ := by
 split
 ·rename_i h; exact x.ext.froz_keep (fun f => by unfold From at f; simp at f; omega)
 ·rfl
theorem Ext.upF {b : Nat} {a w : World} {x : EW (From b) w} (h : Ext (From b) a w) : Ext (From b) a x.on := h.trans x.ext
theorem Ext.upFN {b : Nat} {a w : World} {x : EW (From b) w} (hb : a.heap.size ≤ b) (h : Ext Non a w) : Ext Non a x.on := h.step x.ext (fun i hi e => by unfold From at e; omega)
theorem Ext.setCells {S : Nat → Prop} {a : World} {b : Nat} (hp : S b ∨ a.heap.size ≤ b) : ∀ (vs : List Value) (o : Nat) (w : World), Ext S a w → Ext S a (w.setCells b o vs)
 | [], _, _, h => h
 | v :: vs, o, w, h => by
  rw [World.setCells]
  exact Ext.setCells hp vs (o + 1) _ (Ext.setCell (p := ⟨b, o, none⟩) h hp v)
theorem Ext.setCellsF {b : Nat} {a w : World} (k o : Nat) (vs : List Value) (hk : b ≤ k) (h : Ext (From b) a w) : Ext (From b) a (w.setCells k o vs) := Ext.setCells (.inl hk) vs o w h
theorem Ext.setCellF {b : Nat} {a w : World} (k o : Nat) (v : Value) (hk : b ≤ k) (h : Ext (From b) a w) : Ext (From b) a (w.setCell ⟨k, o, none⟩ v) := Ext.setCell (p := ⟨k, o, none⟩) h (.inl hk) v
theorem heap_setCells_same (b : Nat) (t : TypeId) : ∀ (vs : List Value) (o : Nat) (w : World) (pre post : List Value), w.heap[b]? = some (.cells (pre ++ post).toArray t (0, 0)) → pre.length = o → vs.length ≤ post.length →
  (w.setCells b o vs).heap[b]? = some (.cells (pre ++ vs ++ post.drop vs.length).toArray t (0, 0))
 | [], o, w, pre, post, h, _, _ => by rw [World.setCells]; simpa using h
 | v :: vs, o, w, pre, [], h, _, hl => by simp at hl
 | v :: vs, o, w, pre, p :: post, h, ho, hl => by
  rw [World.setCells]
  have e : (w.setCell ⟨b, o, none⟩ v).heap[b]? = some (.cells ((pre ++ [v]) ++ post).toArray t (0, 0)) := by
   rw [heap_set_same h v, ← ho]; simp
  have := heap_setCells_same b t vs (o + 1) _ (pre ++ [v]) post e (by simp [ho]) (by simpa using hl)
  rw [this]; simp
theorem heap_setCells_other {b k : Nat} (hk : k ≠ b) : ∀ (vs : List Value) (o : Nat) (w : World), (w.setCells b o vs).heap[k]? = w.heap[k]?
 | [], _, _ => rfl
 | v :: vs, o, w => by
  rw [World.setCells, heap_setCells_other hk vs (o + 1)]
  simp [World.setCell, Array.getElem?_modify, Ne.symm hk]
theorem Bx.newAt (w : World) (vs : List Value) (t : TypeId) (k : Nat) (hk : k = w.heap.size) : Bx (w.alloc (.cells vs.toArray t)) k vs t := by subst hk; exact Bx.new w vs t
theorem Bx.stored {w : World} {k : Nat} {vs vs' : List Value} {t : TypeId} (h : Bx w k vs t) (hl : vs'.length = vs.length) : Bx (w.setCells k 0 vs') k vs' t := by
 have := heap_setCells_same k t vs' 0 w [] vs (by simpa using h.h) rfl (by omega)
 exact ⟨by simpa [hl] using this⟩
theorem Bx.other {w : World} {k b o : Nat} {vs vs' : List Value} {t : TypeId} (h : Bx w k vs t) (hk : k ≠ b) : Bx (w.setCells b o vs') k vs t := ⟨(heap_setCells_other hk _ _ _).trans h.h⟩
theorem Bx.there {w : World} {k : Nat} {vs : List Value} {t : TypeId} (h : Bx w k vs t) {n : Nat} (hn : n = vs.length) : w.there k 0 n := fun j hj => by
 subst hn
 rw [Nat.zero_add]
 exact ⟨by rw [h.cell (List.getElem?_eq_getElem hj)]; rfl, froz_of_heap h.h⟩
theorem Bx.range {w : World} {k : Nat} {vs : List Value} {t : TypeId} (h : Bx w k vs t) : w.rangeAt k 0 vs := fun j v hv => by rw [Nat.zero_add]; exact h.cell hv
theorem Bx.alloc {w : World} {k : Nat} {vs : List Value} {t : TypeId} (h : Bx w k vs t) (o : Obj) : Bx (w.alloc o) k vs t := h.extN ((Ext.refl _ _).alloc o)
theorem Ext.upFF {b b' : Nat} {a w : World} {x : EW (From b') w} (hb : b ≤ b') (h : Ext (From b) a w) : Ext (From b) a x.on := h.trans (x.ext.mono fun i _ e => by unfold From at *; omega)
theorem Bx.set {w : World} {k j : Nat} {vs : List Value} {t : TypeId} (h : Bx w k vs t) (v : Value) : Bx (w.setCell ⟨k, j, none⟩ v) k (vs.set j v) t := ⟨heap_set_same h.h v⟩
theorem Ext.up1F {b k : Nat} {a w : World} {x : EW (One k) w} (hk : b ≤ k) (h : Ext (From b) a w) : Ext (From b) a x.on := h.trans (x.ext.mono fun i _ e => by unfold One at e; unfold From; omega)
theorem Ext.up1N {k : Nat} {a w : World} {x : EW (One k) w} (hk : a.heap.size ≤ k) (h : Ext Non a w) : Ext Non a x.on := h.step x.ext fun i hi e => by unfold One at e; omega
theorem wpList_store_box {P : Program} {ops : Array Oper} {rest : List Oper} {op : Oper} {a : Act} {w : World} {Q : Exit → Act → World → Prop} (hgd : op.guard = none) (ty : TypeId) (x y : Operand) (ho : op.op = .store ty x y)
  (k : Nat) (vs vs' : List Value) (t : TypeId) (hx : a.eval x = .pointer (some ⟨k, 0, none⟩)) (hy : a.eval y = .agg vs'.toArray) (hB : Bx w k vs t) (hl : vs'.length = vs.length)
  (hi : (P.info? ty).map (·.size) = some vs'.length) (h1 : ∀ v ∈ vs', v.oneCell' = true)
  (h : ∀ W : EW (One k) w, Bx W.on k vs' t → wpList P ops Q rest (a.put op.dst undef) W.on) : wpList P ops Q (op :: rest) a w :=
 wpList_store_mid hgd ty x y ho k 0 vs'.toArray hx hy (hB.there (by simpa using hl)) (by simpa using hi) (all_oneCell_toArray h1)
  (h ⟨w.setCells k 0 vs', Ext.setCells (.inl (one_self k)) vs' 0 w (Ext.refl _ _)⟩ (hB.stored hl))
end Go.Proofs.YtfefeepljbfcdaaGreat

/- Rows that a call owns, in worlds that grow: an append of one element; ranges; stores into the midst of a block. -/
namespace Go.Proofs.YtfefeepljbfcdaaGreat
open Go.RowKit
set_option linter.unusedVariables false
theorem ownR_ext {S : Nat → Prop} {w w' : World} {base : Nat} {e : TypeId} {size : Nat} {v : Value} {n : Nat} {xs : List Value} (h : w.ownsRow base e size v n xs) (x : Ext S w w') (hs : ∀ k, v.ownBlock = some k → ¬ S k) : w'.ownsRow base e size v n xs := by
 refine ⟨h.1, ?_⟩
 rcases h.2 with hn | ⟨g, cap, cur, rfl, hb, hg, r⟩
 ·exact .inl hn
 ·exact .inr ⟨g, cap, cur, rfl, hb, (x.block g (Array.getElem?_eq_some_iff.1 hg).1 (hs g rfl)).trans hg, r⟩
theorem ownR_extN {w w' : World} {base : Nat} {e : TypeId} {size : Nat} {v : Value} {n : Nat} {xs : List Value} (h : w.ownsRow base e size v n xs) (x : Ext Non w w') : w'.ownsRow base e size v n xs := ownR_ext h x fun _ _ f => f
theorem ownR_base {w : World} {base base' : Nat} {e : TypeId} {size : Nat} {v : Value} {n : Nat} {xs : List Value} (h : w.ownsRow base e size v n xs) (hb : base' ≤ base) : w.ownsRow base' e size v n xs :=
 ⟨h.1, h.2.imp id fun ⟨g, cap, cur, e, hg, r⟩ => ⟨g, cap, cur, e, Nat.le_trans hb hg, r⟩⟩
theorem range_ext {S : Nat → Prop} {w w' : World} {b o : Nat} {cs : List Value} (h : w.rangeAt b o cs) (x : Ext S w w') (hs : ¬ S b) : w'.rangeAt b o cs := fun j v hv => by
 have := h j v hv
 exact (x.cell (p := ⟨b, o + j, none⟩) (lt_of_cell this) hs).trans this
end Go.Proofs.YtfefeepljbfcdaaGreat
