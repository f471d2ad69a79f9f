/- Joined texts: Ew3, Ew4, Best16, PickW, Whole. What each proves stands at its head; no conditions beside those in its theorems. -/
import Derived.Deep.MidRow
import Derived.Test.YtflpkoafebjfdaaGreatPjAO
/- Worlds in which blocks from a base on may be written: 'x : EW (From b) w'; stores of whole structs. -/
namespace Go.Proofs.YtflpkoafebjfdaaGreat
open Go.RowKit
set_option linter.unusedVariables false

def From (b : Nat) : Nat → Prop := fun k => b ≤ k
theorem EW.cellF {b : Nat} {w : World} (x : EW (From b) w) (k i : Nat) (s : Option Nat) : x.on.cell? ⟨k, i, s⟩ = if k < b then (w.cell? ⟨k, i, s⟩).or (restC w x.on ⟨k, i, s⟩) else restW b b w x.on ⟨k, i, s⟩ := by
  split
  · rename_i h; exact x.ext.cell_keep (fun f => by unfold From at f; simp at f; omega)
  · rfl
theorem EW.frozF {b : Nat} {w : World} (x : EW (From b) w) (k i : Nat) (s : Option Nat) : x.on.frozen? ⟨k, i, s⟩ = if k < b then (if (w.cell? ⟨k, i, s⟩).isSome = true then w.frozen? ⟨k, i, s⟩ else restF w x.on ⟨k, i, s⟩) else restF w x.on ⟨k, i, s⟩ := by
  split
  · rename_i h; exact x.ext.froz_keep (fun f => by unfold From at f; simp at f; omega)
  · rfl
theorem Ext.upF {b : Nat} {a w : World} {x : EW (From b) w} (h : Ext (From b) a w) : Ext (From b) a x.on := h.trans x.ext
theorem Ext.upFN {b : Nat} {a w : World} {x : EW (From b) w} (hb : a.heap.size ≤ b) (h : Ext Non a w) : Ext Non a x.on := h.step x.ext (fun i hi e => by unfold From at e; omega)
theorem Ext.setCells {S : Nat → Prop} {a : World} {b : Nat} (hp : S b ∨ a.heap.size ≤ b) : ∀ (vs : List Value) (o : Nat) (w : World), Ext S a w → Ext S a (w.setCells b o vs)
  | [], _, _, h => h
  | v :: vs, o, w, h => by
    rw [World.setCells]
    exact Ext.setCells hp vs (o + 1) _ (Ext.setCell (p := ⟨b, o, none⟩) h hp v)
theorem Ext.setCellsF {b : Nat} {a w : World} (k o : Nat) (vs : List Value) (hk : b ≤ k) (h : Ext (From b) a w) : Ext (From b) a (w.setCells k o vs) := Ext.setCells (.inl hk) vs o w h
theorem Ext.setCellF {b : Nat} {a w : World} (k o : Nat) (v : Value) (hk : b ≤ k) (h : Ext (From b) a w) : Ext (From b) a (w.setCell ⟨k, o, none⟩ v) := Ext.setCell (p := ⟨k, o, none⟩) h (.inl hk) v
theorem heap_setCells_same (b : Nat) (t : TypeId) : ∀ (vs : List Value) (o : Nat) (w : World) (pre post : List Value), w.heap[b]? = some (.cells (pre ++ post).toArray t (0, 0)) → pre.length = o → vs.length ≤ post.length →
    (w.setCells b o vs).heap[b]? = some (.cells (pre ++ vs ++ post.drop vs.length).toArray t (0, 0))
  | [], o, w, pre, post, h, _, _ => by rw [World.setCells]; simpa using h
  | v :: vs, o, w, pre, [], h, _, hl => by simp at hl
  | v :: vs, o, w, pre, p :: post, h, ho, hl => by
    rw [World.setCells]
    have e : (w.setCell ⟨b, o, none⟩ v).heap[b]? = some (.cells ((pre ++ [v]) ++ post).toArray t (0, 0)) := by
      rw [heap_set_same h v, ← ho]; simp
    have := heap_setCells_same b t vs (o + 1) _ (pre ++ [v]) post e (by simp [ho]) (by simpa using hl)
    rw [this]; simp
theorem heap_setCells_other {b k : Nat} (hk : k ≠ b) : ∀ (vs : List Value) (o : Nat) (w : World), (w.setCells b o vs).heap[k]? = w.heap[k]?
  | [], _, _ => rfl
  | v :: vs, o, w => by
    rw [World.setCells, heap_setCells_other hk vs (o + 1)]
    simp [World.setCell, Array.getElem?_modify, Ne.symm hk]
theorem Bx.newAt (w : World) (vs : List Value) (t : TypeId) (k : Nat) (hk : k = w.heap.size) : Bx (w.alloc (.cells vs.toArray t)) k vs t := by subst hk; exact Bx.new w vs t
theorem Bx.stored {w : World} {k : Nat} {vs vs' : List Value} {t : TypeId} (h : Bx w k vs t) (hl : vs'.length = vs.length) : Bx (w.setCells k 0 vs') k vs' t := by
  have := heap_setCells_same k t vs' 0 w [] vs (by simpa using h.h) rfl (by omega)
  exact ⟨by simpa [hl] using this⟩
theorem Bx.other {w : World} {k b o : Nat} {vs vs' : List Value} {t : TypeId} (h : Bx w k vs t) (hk : k ≠ b) : Bx (w.setCells b o vs') k vs t := ⟨(heap_setCells_other hk _ _ _).trans h.h⟩
theorem Bx.there {w : World} {k : Nat} {vs : List Value} {t : TypeId} (h : Bx w k vs t) {n : Nat} (hn : n = vs.length) : w.there k 0 n := fun j hj => by
  subst hn
  rw [Nat.zero_add]
  exact ⟨by rw [h.cell (List.getElem?_eq_getElem hj)]; rfl, froz_of_heap h.h⟩
theorem Bx.range {w : World} {k : Nat} {vs : List Value} {t : TypeId} (h : Bx w k vs t) : w.rangeAt k 0 vs := fun j v hv => by rw [Nat.zero_add]; exact h.cell hv
theorem Bx.alloc {w : World} {k : Nat} {vs : List Value} {t : TypeId} (h : Bx w k vs t) (o : Obj) : Bx (w.alloc o) k vs t := h.extN ((Ext.refl _ _).alloc o)
theorem Ext.upFF {b b' : Nat} {a w : World} {x : EW (From b') w} (hb : b ≤ b') (h : Ext (From b) a w) : Ext (From b) a x.on := h.trans (x.ext.mono fun i _ e => by unfold From at *; omega)
theorem Bx.set {w : World} {k j : Nat} {vs : List Value} {t : TypeId} (h : Bx w k vs t) (v : Value) : Bx (w.setCell ⟨k, j, none⟩ v) k (vs.set j v) t := ⟨heap_set_same h.h v⟩
theorem Ext.up1F {b k : Nat} {a w : World} {x : EW (One k) w} (hk : b ≤ k) (h : Ext (From b) a w) : Ext (From b) a x.on := h.trans (x.ext.mono fun i _ e => by unfold One at e; unfold From; omega)
theorem Ext.up1N {k : Nat} {a w : World} {x : EW (One k) w} (hk : a.heap.size ≤ k) (h : Ext Non a w) : Ext Non a x.on := h.step x.ext fun i hi e => by unfold One at e; omega
/-- A store of a whole struct into a box of its own. -/
theorem wpList_store_box {P : Program} {ops : Array Oper} {rest : List Oper} {op : Oper} {a : Act} {w : World} {Q : Exit → Act → World → Prop} (hgd : op.guard = none) (ty : TypeId) (x y : Operand) (ho : op.op = .store ty x y)
    (k : Nat) (vs vs' : List Value) (t : TypeId) (hx : a.eval x = .pointer (some ⟨k, 0, none⟩)) (hy : a.eval y = .agg vs'.toArray) (hB : Bx w k vs t) (hl : vs'.length = vs.length)
    (hi : (P.info? ty).map (·.size) = some vs'.length) (h1 : ∀ v ∈ vs', v.oneCell' = true)
    (h : ∀ W : EW (One k) w, Bx W.on k vs' t → wpList P ops Q rest (a.put op.dst undef) W.on) : wpList P ops Q (op :: rest) a w :=
  wpList_store_mid hgd ty x y ho k 0 vs'.toArray hx hy (hB.there (by simpa using hl)) (by simpa using hi) (all_oneCell_toArray h1)
    (h ⟨w.setCells k 0 vs', Ext.setCells (.inl (one_self k)) vs' 0 w (Ext.refl _ _)⟩ (hB.stored hl))
end Go.Proofs.YtflpkoafebjfdaaGreat

/- Rows that a call owns, in worlds that grow: an append of one element; ranges; stores into the midst of a block. -/
namespace Go.Proofs.YtflpkoafebjfdaaGreat
open Go.RowKit
set_option linter.unusedVariables false

theorem ownR_ext {S : Nat → Prop} {w w' : World} {base : Nat} {e : TypeId} {size : Nat} {v : Value} {n : Nat} {xs : List Value} (h : w.ownsRow base e size v n xs) (x : Ext S w w') (hs : ∀ k, v.ownBlock = some k → ¬ S k) : w'.ownsRow base e size v n xs := by
  refine ⟨h.1, ?_⟩
  rcases h.2 with hn | ⟨g, cap, cur, rfl, hb, hg, r⟩
  · exact .inl hn
  · exact .inr ⟨g, cap, cur, rfl, hb, (x.block g (Array.getElem?_eq_some_iff.1 hg).1 (hs g rfl)).trans hg, r⟩
theorem ownR_extN {w w' : World} {base : Nat} {e : TypeId} {size : Nat} {v : Value} {n : Nat} {xs : List Value} (h : w.ownsRow base e size v n xs) (x : Ext Non w w') : w'.ownsRow base e size v n xs := ownR_ext h x fun _ _ f => f
/-- 'append(s, x)' of one element that lies in a block of its own. -/
theorem wpList_append_ew {P : Program} {ops : Array Oper} {rest : List Oper} {o : Oper} {a : Act} {w : World} {Q : Exit → Act → World → Prop} (hgd : o.guard = none) (s x : Operand) (t : TypeId)
    (ho : o.op = .call { callee := .builtin .append, args := #[s, x], argTypes := #[t, t] })
    (base : Nat) (e : TypeId) (size bytes : Nat) (z : Value) (ht : P.underlying t = some (.slice e)) (hi : (P.info? e).map (fun i => (i.zero, i.size, i.bytes)) = some (some z, size, bytes)) (hzs : z.cells.size = size) (hsz : 0 < size) (hbs : bytes ≤ 1000)
    (v : Value) (n : Nat) (xs : List Value) (hs : a.eval s = v) (hown : w.ownsRow base e size v n xs)
    (k : Nat) (news : List Value) (t' : TypeId) (hx : a.eval x = .slice (some ⟨k, 0, none⟩) 1 1) (hB : Bx w k news t') (hl : news.length = size) (h1 : ∀ u ∈ news, u.oneCell' = true)
    (hn : n ≤ 1000000) (hbase : base ≤ w.heap.size)
    (h : ∀ (v' : Value) (W : EW (From base) w), W.on.ownsRow base e size v' (n + 1) (xs ++ news) → wpList P ops Q rest (a.put o.dst v') W.on) : wpList P ops Q (o :: rest) a w := by
  obtain ⟨i, hi0, hi1, hi2, hi3⟩ := info_parts hi
  refine wpList_append_own _ hgd s x t ho base e i z size bytes ht hi0 hi1 hi2 hi3 hzs hsz v n xs hs hown ⟨k, 0, none⟩ 1 1 news hx (by omega) (fun j u hu => ?_) h1 (by unfold maxLen; omega) ?_ hbase ?_
  · rw [addr_add, Nat.zero_add]; exact hB.cell hu
  · have : (n + 1) * bytes ≤ (n + 1) * 1000 := Nat.mul_le_mul_left _ hbs
    omega
  · intro v' w' ho' hg _
    exact h v' ⟨w', Ext.ofGrown hg fun q hq => .inl (hown.lt q hq).1⟩ ho'
theorem ownR_some {w : World} {base : Nat} {e : TypeId} {size : Nat} {v : Value} {n : Nat} {xs : List Value} (h : w.ownsRow base e size v (n + 1) xs) : ∃ g cap, v = .slice (some ⟨g, 0, none⟩) (n + 1) cap ∧ base ≤ g := by
  rcases h.2 with ⟨_, hn⟩ | ⟨g, cap, cur, rfl, hb, _⟩
  · omega
  · exact ⟨g, cap, rfl, hb⟩
theorem range_ext {S : Nat → Prop} {w w' : World} {b o : Nat} {cs : List Value} (h : w.rangeAt b o cs) (x : Ext S w w') (hs : ¬ S b) : w'.rangeAt b o cs := fun j v hv => by
  have := h j v hv
  exact (x.cell (p := ⟨b, o + j, none⟩) (lt_of_cell this) hs).trans this
theorem there_ext {S : Nat → Prop} {w w' : World} {b o n : Nat} (h : w.there b o n) (x : Ext S w w') (hs : ¬ S b) : w'.there b o n := fun j hj => by
  obtain ⟨h1, h2⟩ := h j hj
  obtain ⟨u, hu⟩ := Option.isSome_iff_exists.1 h1
  have hb := lt_of_cell hu
  exact ⟨by rw [x.cell (p := ⟨b, o + j, none⟩) hb hs]; exact h1, by rw [x.froz (p := ⟨b, o + j, none⟩) hb hs]; exact h2⟩
end Go.Proofs.YtflpkoafebjfdaaGreat

/- Contracts of the reference of layer 16: the best certificate of a slot. -/
namespace Go.Proofs.YtflpkoafebjfdaaGreat
open Go.RowKit Go.Lib F64
set_option linter.unusedSimpArgs false
set_option linter.unusedVariables false
attribute [local go_sem] run_store_float
attribute [local go_sem low] EW.cellN EW.frozN alloc_cell_or alloc_froz_or EW.cellF EW.frozF EW.cell1 EW.froz1
def ctOf (o : Option Ct) : Ct := o.getD default
theorem best_snoc (slot : Int) (P : List Ct) (x : Ct) : bestC slot (P ++ [x]) = stepB slot (bestC slot P) x := by simp [bestC, List.foldl_append]
def updB (slot : Int) (fd : Bool) (y x : Ct) : Prop := x.slot = slot ∧ (fd = false ∨ y.view < x.view)
instance (slot : Int) (fd : Bool) (y x : Ct) : Decidable (updB slot fd y x) := by unfold updB; infer_instance
/-- The certificates of the first i changes, and j of the next. -/
def certsTo (l : List Ch) (i j : Nat) : List Ct := (l.take i).flatMap (·.certs) ++ (chAt l i).certs.take j
end Go.Proofs.YtflpkoafebjfdaaGreat

/- Layer 16: the arrays in which change.Pick keeps the best certificates; rows of requests. -/
namespace Go.Proofs.YtflpkoafebjfdaaGreat
open Go.RowKit Go.Lib F64
set_option linter.unusedSimpArgs false
set_option linter.unusedVariables false

/-- The arrays, when the certificates of P have been seen. -/
structure BestW (ep : Int) (w : World) (kb kt : Nat) (P : List Ct) : Prop where
  rows : ∀ n, n < 4 → ∃ sa scap, w.rangeAt kb (n * 9) ((ctOf (bestC (slotN ep n) P)).cells sa scap)
  there : w.there kb 0 36
  flag : ∀ n, n < 4 → w.cell? ⟨kt, n, none⟩ = some (.bool (bestC (slotN ep n) P).isSome) ∧ w.frozen? ⟨kt, n, none⟩ = false
theorem BestW.ext {S : Nat → Prop} {ep : Int} {w w' : World} {kb kt : Nat} {P : List Ct} (h : BestW ep w kb kt P) (x : Ext S w w') (hb : ¬ S kb) (ht : ¬ S kt) : BestW ep w' kb kt P :=
  ⟨fun n hn => by obtain ⟨sa, scap, r⟩ := h.rows n hn; exact ⟨sa, scap, range_ext r x hb⟩, there_ext h.there x hb,
   fun n hn => by
    obtain ⟨h1, h2⟩ := h.flag n hn
    exact ⟨(x.cell (p := ⟨kt, n, none⟩) (lt_of_cell h1) ht).trans h1, (x.froz (p := ⟨kt, n, none⟩) (lt_of_cell h1) ht).trans h2⟩⟩
theorem stepB_other {slot : Int} {o : Option Ct} {x : Ct} (h : x.slot ≠ slot) : stepB slot o x = o := by unfold stepB; rw [if_neg h]
theorem slotN_inj {ep : Int} {n m : Nat} (h : slotN ep n = slotN ep m) : n = m := by unfold slotN at h; omega
theorem BestW.init {ep : Int} {w : World} {kb kt : Nat} {t t' : TypeId} (hb : Bx w kb ((default : Ct).cells none 0 ++ ((default : Ct).cells none 0 ++ ((default : Ct).cells none 0 ++ (default : Ct).cells none 0))) t) (ht : Bx w kt [.bool false, .bool false, .bool false, .bool false] t') : BestW ep w kb kt [] := by
  refine ⟨fun n hn => ⟨none, 0, fun j v hv => ?_⟩, hb.there rfl, fun n hn => ?_⟩
  · have hj : j < 9 := (List.getElem?_eq_some_iff.1 hv).1
    have hv' : ((default : Ct).cells none 0)[j]? = some v := hv
    clear hv
    have h4 : n = 0 ∨ n = 1 ∨ n = 2 ∨ n = 3 := by omega
    have h9 : j = 0 ∨ j = 1 ∨ j = 2 ∨ j = 3 ∨ j = 4 ∨ j = 5 ∨ j = 6 ∨ j = 7 ∨ j = 8 := by omega
    rcases h4 with rfl | rfl | rfl | rfl <;> rcases h9 with rfl | rfl | rfl | rfl | rfl | rfl | rfl | rfl | rfl <;> (injection hv' with hv'; subst hv'; exact hb.cell rfl)
  · have h4 : n = 0 ∨ n = 1 ∨ n = 2 ∨ n = 3 := by omega
    rcases h4 with rfl | rfl | rfl | rfl <;> exact ⟨ht.cell rfl, froz_of_heap ht.h⟩
theorem certsTo_zero (l : List Ch) : certsTo l 0 0 = [] := by unfold certsTo; simp
theorem BestW.start {ep : Int} {w : World} {t t' : TypeId} (l : List Ch) : BestW ep ((w.alloc (.cells ((default : Ct).cells none 0 ++ ((default : Ct).cells none 0 ++ ((default : Ct).cells none 0 ++ (default : Ct).cells none 0))).toArray t)).alloc (.cells [.bool false, .bool false, .bool false, .bool false].toArray t')) w.heap.size (w.heap.size + 1) (certsTo l 0 0) := by
  rw [certsTo_zero]
  exact BestW.init ((Bx.new _ _ _).alloc _) (Bx.newAt _ _ _ _ (by simp))
/-- Nothing new. -/
theorem BestW.same {ep : Int} {w : World} {kb kt : Nat} {P : List Ct} (h : BestW ep w kb kt P) (x : Ct) (n0 : Nat) (hx : x.slot = slotN ep n0) (hs : stepB (slotN ep n0) (bestC (slotN ep n0) P) x = bestC (slotN ep n0) P) : BestW ep w kb kt (P ++ [x]) := by
  have e : ∀ n, bestC (slotN ep n) (P ++ [x]) = bestC (slotN ep n) P := fun n => by
    rw [best_snoc]
    by_cases hn : n = n0
    · subst hn; exact hs
    · exact stepB_other (fun q => hn (slotN_inj (q.symm.trans hx)))
  exact ⟨fun n hn => by rw [e]; exact h.rows n hn, h.there, fun n hn => by rw [e]; exact h.flag n hn⟩
/-- A better one. -/
theorem BestW.put {ep : Int} {w W w' : World} {kb kt : Nat} {P : List Ct} (h : BestW ep w kb kt P) (x : Ct) (n0 : Nat) (hn0 : n0 < 4) (hx : x.slot = slotN ep n0) (hs : stepB (slotN ep n0) (bestC (slotN ep n0) P) x = some x)
    (sa : Option Addr) (scap : Nat) (hr : W.rangeAt kb (n0 * 9) (x.cells sa scap)) (ho : ∀ o' cs, o' + cs.length ≤ n0 * 9 ∨ n0 * 9 + 9 ≤ o' → w.rangeAt kb o' cs → W.rangeAt kb o' cs) (ht : ∀ o' n, w.there kb o' n → W.there kb o' n)
    (xx : Ext (One kb) w W) (hk : kb ≠ kt) (hw : w' = W.setCell ⟨kt, n0, none⟩ (.bool true)) : BestW ep w' kb kt (P ++ [x]) := by
  have e : ∀ n, n ≠ n0 → bestC (slotN ep n) (P ++ [x]) = bestC (slotN ep n) P := fun n hn => by
    rw [best_snoc]
    exact stepB_other (fun q => hn (slotN_inj (q.symm.trans hx)))
  have e0 : bestC (slotN ep n0) (P ++ [x]) = some x := by rw [best_snoc]; exact hs
  have fl : ∀ n, n < 4 → W.cell? ⟨kt, n, none⟩ = some (.bool (bestC (slotN ep n) P).isSome) ∧ W.frozen? ⟨kt, n, none⟩ = false := fun n hn => by
    obtain ⟨h1, h2⟩ := h.flag n hn
    exact ⟨(xx.cell (p := ⟨kt, n, none⟩) (lt_of_cell h1) (fun f => hk f.symm)).trans h1, (xx.froz (p := ⟨kt, n, none⟩) (lt_of_cell h1) (fun f => hk f.symm)).trans h2⟩
  subst hw
  have y : Ext (One kt) W (W.setCell ⟨kt, n0, none⟩ (.bool true)) := (Ext.refl _ _).set1 _
  refine ⟨fun n hn => ?_, there_ext (ht _ _ h.there) y (fun f => hk f), fun n hn => ?_⟩
  · by_cases q : n = n0
    · subst q
      rw [e0]
      exact ⟨sa, scap, range_ext hr y (fun f => hk f)⟩
    · obtain ⟨sa', scap', r⟩ := h.rows n hn
      rw [e n q]
      refine ⟨sa', scap', range_ext (ho _ _ ?_ r) y (fun f => hk f)⟩
      have : ((ctOf (bestC (slotN ep n) P)).cells sa' scap').length = 9 := rfl
      omega
  · obtain ⟨h1, h2⟩ := fl n hn
    by_cases q : n = n0
    · subst q
      rw [e0]
      exact ⟨World.cell?_setCell_same _ _ _ h1, by rw [World.frozen?_setCell]; exact h2⟩
    · rw [e n q]
      refine ⟨?_, by rw [World.frozen?_setCell]; exact h2⟩
      rw [World.cell?_setCell_other (h := fun f => q (by injection f with _ f; exact f.symm))]
      exact h1
theorem conf_ep {ep : Int} {xs : List Int} (h : confB ep xs = true) : 0 ≤ ep ∧ ep ≤ 60 := by
  unfold confB at h
  simp only [Bool.and_eq_true, decide_eq_true_eq] at h
  exact h.1
end Go.Proofs.YtflpkoafebjfdaaGreat

/- Contracts of the reference of layer 11 and 16: wholly the same requests. -/
namespace Go.Proofs.YtflpkoafebjfdaaGreat
open Go.RowKit Go.Lib F64
set_option linter.unusedSimpArgs false
set_option linter.unusedVariables false
attribute [local go_sem] run_store_float
attribute [local go_sem low] EW.cellN EW.frozN alloc_cell_or alloc_froz_or
/-- A row of requests that can be read behind an address. -/
structure Reqs (w : World) (a : Option Addr) (cap : Nat) (l : List Req) : Prop where
  le : l.length ≤ cap
  small : cap ≤ 9223372036854775807
  at_ : ∀ j (h : j < l.length), ∃ b o, a = some ⟨b, o, none⟩ ∧ b < w.heap.size ∧ (∀ i v, (l[j].cells)[i]? = some v → w.cell? ⟨b, o + j * 6 + i, none⟩ = some v)
theorem Reqs.ext {S : Nat → Prop} {w w' : World} {a : Option Addr} {cap : Nat} {l : List Req} (h : Reqs w a cap l) (x : Ext S w w') (hs : ∀ b o, a = some ⟨b, o, none⟩ → ¬ S b) : Reqs w' a cap l :=
  ⟨h.le, h.small, fun j hj => by
    obtain ⟨b, o, e, hb, c⟩ := h.at_ j hj
    exact ⟨b, o, e, Nat.lt_of_lt_of_le hb x.size, fun i v hv => (x.cell (p := ⟨b, o + j * 6 + i, none⟩) hb (hs b o e)).trans (c i v hv)⟩⟩
theorem Reqs.extN {w w' : World} {a : Option Addr} {cap : Nat} {l : List Req} (h : Reqs w a cap l) (x : Ext Non w w') : Reqs w' a cap l := h.ext x fun _ _ _ f => f
end Go.Proofs.YtflpkoafebjfdaaGreat
