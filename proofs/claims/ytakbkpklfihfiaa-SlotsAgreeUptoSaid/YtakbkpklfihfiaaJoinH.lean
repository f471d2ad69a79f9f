/- Joined texts: PickP, Ew3, Best16, Check16, Ew4, Ew5, PickW. What each proves stands at its head; no conditions beside those in its theorems. -/
import Derived.Test.YtakbkpklfihfiaaJoinG
import Derived.Deep.MidRow
import Derived.Maps.AppendAt
/- Layer 16 in plain words: lists of changes, their first error, what is picked. No program in sight. -/
namespace Go.Proofs.Ytakbkpklfihfiaa
open F64 Go.Lib
set_option linter.unusedVariables false
set_option linter.unusedSimpArgs false

instance : Inhabited Ch := ⟨⟨0, 0, [], 0, ByteArray.empty⟩⟩
def chAt (l : List Ch) (j : Nat) : Ch := l.getD j default
theorem chAt_get {l : List Ch} {j : Nat} (h : j < l.length) : chAt l j = l[j] := by unfold chAt; rw [List.getD_eq_getElem?_getD, List.getElem?_eq_getElem h]; rfl
def Ch.cells (c : Ch) (a : Option Addr) (cap : Nat) : List Value := [.int .i64 c.from_, .int .i64 c.view, .slice a c.certs.length cap, .int .i64 c.by_, .string c.text]
/-- A row of changes that can be read behind an address. -/
structure Chs (w : World) (a : Option Addr) (cap : Nat) (l : List Ch) : Prop where
  le : l.length ≤ cap
  small : cap ≤ 9223372036854775807
  at_ : ∀ j (h : j < l.length), ∃ b o ca ccap, a = some ⟨b, o, none⟩ ∧ b < w.heap.size ∧ (∀ i v, ((chAt l j).cells ca ccap)[i]? = some v → w.cell? ⟨b, o + j * 5 + i, none⟩ = some v) ∧ Certs w ca ccap (chAt l j).certs ∧ I64 (chAt l j).from_ ∧ I64 (chAt l j).view ∧ I64 (chAt l j).by_ ∧ (chAt l j).text.size ≤ 9223372036854775807
theorem Chs.extN {w w' : World} {a : Option Addr} {cap : Nat} {l : List Ch} (h : Chs w a cap l) (x : Ext Non w w') : Chs w' a cap l :=
  ⟨h.le, h.small, fun j hj => by
    obtain ⟨b, o, ca, ccap, e, hb, c, s, r⟩ := h.at_ j hj
    exact ⟨b, o, ca, ccap, e, Nat.lt_of_lt_of_le hb x.size, fun i v hv => (x.cell (p := ⟨b, o + j * 5 + i, none⟩) hb (fun f => f)).trans (c i v hv), s.extN x, r⟩⟩

def sameViews (view : Int) : List Ch → Bool
  | [] => true
  | x :: t => decide (x.view = view) && sameViews view t
theorem sameViews_drop (view : Int) (l : List Ch) (i : Nat) (h : i < l.length) : sameViews view (l.drop i) = (decide ((chAt l i).view = view) && sameViews view (l.drop (i + 1))) := by
  rw [List.drop_eq_getElem_cons h, chAt_get h]; rfl
def viewB (view : Int) : Bool := decide (1 ≤ view) && decide (view ≤ 15)
def viewsB (view : Int) (l : List Ch) : Bool := viewB view && sameViews view l
def rightsE (ep : Int) (xs : List Int) : List Ch → Int
  | [] => 0
  | x :: t => if rightE ep xs x = 0 then rightsE ep xs t else rightE ep xs x
theorem rightsE_drop (ep : Int) (xs : List Int) (l : List Ch) (i : Nat) (h : i < l.length) : rightsE ep xs (l.drop i) = if rightE ep xs (chAt l i) = 0 then rightsE ep xs (l.drop (i + 1)) else rightE ep xs (chAt l i) := by
  rw [List.drop_eq_getElem_cons h, chAt_get h]; rfl
def riseB : Int → List Ch → Bool
  | _, [] => true
  | last, x :: t => decide (last < x.from_) && riseB x.from_ t
theorem riseB_drop (last : Int) (l : List Ch) (i : Nat) (h : i < l.length) : riseB last (l.drop i) = (decide (last < (chAt l i).from_) && riseB (chAt l i).from_ (l.drop (i + 1))) := by
  rw [List.drop_eq_getElem_cons h, chAt_get h]; rfl
/-- The first error of a list of changes. -/
def checkE (ep : Int) (xs : List Int) (view : Int) (l : List Ch) : Int :=
  if confB ep xs = true then (if viewsB view l = true then (if rightsE ep xs l = 0 then (if riseB (-1) l = true then (if (l.length : Int) < quorumI xs.length then 15 else 0) else 17) else rightsE ep xs l) else 13) else 1

/-- The better one of two certificates of a slot. -/
def stepB (slot : Int) (o : Option Ct) (x : Ct) : Option Ct :=
  if x.slot = slot then (match o with | none => some x | some y => if y.view < x.view then some x else some y) else o
def bestC (slot : Int) (cs : List Ct) : Option Ct := cs.foldl (stepB slot) none
def bestL (slot : Int) (l : List Ch) : Option Ct := bestC slot (l.flatMap (·.certs))
def nullR : Req := ⟨0, 0, ⟨0, ByteArray.empty, 0, 0⟩⟩
def reqOf : Option Ct → Req
  | none => nullR
  | some x => x.req
def slotN (ep : Int) (n : Nat) : Int := 4 * ep + 1 + n
/-- Up to which slot of an epoch there is a certificate. -/
def lastC (ep : Int) (P : List Ct) : Nat := if (bestC (slotN ep 3) P).isSome then 4 else if (bestC (slotN ep 2) P).isSome then 3 else if (bestC (slotN ep 1) P).isSome then 2 else if (bestC (slotN ep 0) P).isSome then 1 else 0
def pickR (ep : Int) (l : List Ch) : List Req := (List.range (lastC ep (l.flatMap (·.certs)))).map fun (n : Nat) => reqOf (bestC (slotN ep n) (l.flatMap (·.certs)))
end Go.Proofs.Ytakbkpklfihfiaa

/- Worlds in which blocks from a base on may be written: 'x : EW (From b) w'; stores of whole structs. -/
namespace Go.Proofs.Ytakbkpklfihfiaa
open Go.RowKit
set_option linter.unusedVariables false

def From (b : Nat) : Nat → Prop := fun k => b ≤ k
theorem EW.cellF {b : Nat} {w : World} (x : EW (From b) w) (k i : Nat) (s : Option Nat) : x.on.cell? ⟨k, i, s⟩ = if k < b then (w.cell? ⟨k, i, s⟩).or (restC w x.on ⟨k, i, s⟩) else restW b b w x.on ⟨k, i, s⟩ := by
  split
  · rename_i h; exact x.ext.cell_keep (fun f => by unfold From at f; simp at f; omega)
  · rfl
theorem EW.frozF {b : Nat} {w : World} (x : EW (From b) w) (k i : Nat) (s : Option Nat) : x.on.frozen? ⟨k, i, s⟩ = if k < b then (if (w.cell? ⟨k, i, s⟩).isSome = true then w.frozen? ⟨k, i, s⟩ else restF w x.on ⟨k, i, s⟩) else restF w x.on ⟨k, i, s⟩ := by
  split
  · rename_i h; exact x.ext.froz_keep (fun f => by unfold From at f; simp at f; omega)
  · rfl
theorem Ext.upF {b : Nat} {a w : World} {x : EW (From b) w} (h : Ext (From b) a w) : Ext (From b) a x.on := h.trans x.ext
theorem Ext.upFN {b : Nat} {a w : World} {x : EW (From b) w} (hb : a.heap.size ≤ b) (h : Ext Non a w) : Ext Non a x.on := h.step x.ext (fun i hi e => by unfold From at e; omega)
theorem Ext.fromNon {b : Nat} {a w : World} (hb : a.heap.size ≤ b) (h : Ext (From b) a w) : Ext Non a w := (Ext.refl Non a).step h (fun i hi e => by unfold From at e; omega)
theorem Ext.setCells {S : Nat → Prop} {a : World} {b : Nat} (hp : S b ∨ a.heap.size ≤ b) : ∀ (vs : List Value) (o : Nat) (w : World), Ext S a w → Ext S a (w.setCells b o vs)
  | [], _, _, h => h
  | v :: vs, o, w, h => by
    rw [World.setCells]
    exact Ext.setCells hp vs (o + 1) _ (Ext.setCell (p := ⟨b, o, none⟩) h hp v)
theorem Ext.setCellsF {b : Nat} {a w : World} (k o : Nat) (vs : List Value) (hk : b ≤ k) (h : Ext (From b) a w) : Ext (From b) a (w.setCells k o vs) := Ext.setCells (.inl hk) vs o w h
theorem Ext.setCellF {b : Nat} {a w : World} (k o : Nat) (v : Value) (hk : b ≤ k) (h : Ext (From b) a w) : Ext (From b) a (w.setCell ⟨k, o, none⟩ v) := Ext.setCell (p := ⟨k, o, none⟩) h (.inl hk) v
theorem heap_setCells_same (b : Nat) (t : TypeId) : ∀ (vs : List Value) (o : Nat) (w : World) (pre post : List Value), w.heap[b]? = some (.cells (pre ++ post).toArray t (0, 0)) → pre.length = o → vs.length ≤ post.length →
    (w.setCells b o vs).heap[b]? = some (.cells (pre ++ vs ++ post.drop vs.length).toArray t (0, 0))
  | [], o, w, pre, post, h, _, _ => by rw [World.setCells]; simpa using h
  | v :: vs, o, w, pre, [], h, _, hl => by simp at hl
  | v :: vs, o, w, pre, p :: post, h, ho, hl => by
    rw [World.setCells]
    have e : (w.setCell ⟨b, o, none⟩ v).heap[b]? = some (.cells ((pre ++ [v]) ++ post).toArray t (0, 0)) := by
      rw [heap_set_same h v, ← ho]; simp
    have := heap_setCells_same b t vs (o + 1) _ (pre ++ [v]) post e (by simp [ho]) (by simpa using hl)
    rw [this]; simp
theorem heap_setCells_other {b k : Nat} (hk : k ≠ b) : ∀ (vs : List Value) (o : Nat) (w : World), (w.setCells b o vs).heap[k]? = w.heap[k]?
  | [], _, _ => rfl
  | v :: vs, o, w => by
    rw [World.setCells, heap_setCells_other hk vs (o + 1)]
    simp [World.setCell, Array.getElem?_modify, Ne.symm hk]
theorem Bx.newAt (w : World) (vs : List Value) (t : TypeId) (k : Nat) (hk : k = w.heap.size) : Bx (w.alloc (.cells vs.toArray t)) k vs t := by subst hk; exact Bx.new w vs t
theorem Bx.stored {w : World} {k : Nat} {vs vs' : List Value} {t : TypeId} (h : Bx w k vs t) (hl : vs'.length = vs.length) : Bx (w.setCells k 0 vs') k vs' t := by
  have := heap_setCells_same k t vs' 0 w [] vs (by simpa using h.h) rfl (by omega)
  exact ⟨by simpa [hl] using this⟩
theorem Bx.other {w : World} {k b o : Nat} {vs vs' : List Value} {t : TypeId} (h : Bx w k vs t) (hk : k ≠ b) : Bx (w.setCells b o vs') k vs t := ⟨(heap_setCells_other hk _ _ _).trans h.h⟩
theorem Bx.there {w : World} {k : Nat} {vs : List Value} {t : TypeId} (h : Bx w k vs t) {n : Nat} (hn : n = vs.length) : w.there k 0 n := fun j hj => by
  subst hn
  rw [Nat.zero_add]
  exact ⟨by rw [h.cell (List.getElem?_eq_getElem hj)]; rfl, froz_of_heap h.h⟩
theorem Bx.range {w : World} {k : Nat} {vs : List Value} {t : TypeId} (h : Bx w k vs t) : w.rangeAt k 0 vs := fun j v hv => by rw [Nat.zero_add]; exact h.cell hv
theorem Bx.alloc {w : World} {k : Nat} {vs : List Value} {t : TypeId} (h : Bx w k vs t) (o : Obj) : Bx (w.alloc o) k vs t := h.extN ((Ext.refl _ _).alloc o)
theorem Ext.upFF {b b' : Nat} {a w : World} {x : EW (From b') w} (hb : b ≤ b') (h : Ext (From b) a w) : Ext (From b) a x.on := h.trans (x.ext.mono fun i _ e => by unfold From at *; omega)
theorem Bx.set {w : World} {k j : Nat} {vs : List Value} {t : TypeId} (h : Bx w k vs t) (v : Value) : Bx (w.setCell ⟨k, j, none⟩ v) k (vs.set j v) t := ⟨heap_set_same h.h v⟩
theorem Ext.up1F {b k : Nat} {a w : World} {x : EW (One k) w} (hk : b ≤ k) (h : Ext (From b) a w) : Ext (From b) a x.on := h.trans (x.ext.mono fun i _ e => by unfold One at e; unfold From; omega)
theorem Ext.up1N {k : Nat} {a w : World} {x : EW (One k) w} (hk : a.heap.size ≤ k) (h : Ext Non a w) : Ext Non a x.on := h.step x.ext fun i hi e => by unfold One at e; omega
theorem Bx.up1 {w : World} {k b : Nat} {vs : List Value} {t : TypeId} (x : EW (One b) w) (h : Bx w k vs t) (hk : k ≠ b) : Bx x.on k vs t := h.ext x.ext (fun e => hk e)
/-- A store of a whole struct into a box of its own. -/
theorem wpList_store_box {P : Program} {ops : Array Oper} {rest : List Oper} {op : Oper} {a : Act} {w : World} {Q : Exit → Act → World → Prop} (hgd : op.guard = none) (ty : TypeId) (x y : Operand) (ho : op.op = .store ty x y)
    (k : Nat) (vs vs' : List Value) (t : TypeId) (hx : a.eval x = .pointer (some ⟨k, 0, none⟩)) (hy : a.eval y = .agg vs'.toArray) (hB : Bx w k vs t) (hl : vs'.length = vs.length)
    (hi : (P.info? ty).map (·.size) = some vs'.length) (h1 : ∀ v ∈ vs', v.oneCell' = true)
    (h : ∀ W : EW (One k) w, Bx W.on k vs' t → wpList P ops Q rest (a.put op.dst undef) W.on) : wpList P ops Q (op :: rest) a w :=
  wpList_store_mid hgd ty x y ho k 0 vs'.toArray hx hy (hB.there (by simpa using hl)) (by simpa using hi) (all_oneCell_toArray h1)
    (h ⟨w.setCells k 0 vs', Ext.setCells (.inl (one_self k)) vs' 0 w (Ext.refl _ _)⟩ (hB.stored hl))
end Go.Proofs.Ytakbkpklfihfiaa

/- Contracts of the reference of layer 16: the best certificate of a slot. -/
namespace Go.Proofs.Ytakbkpklfihfiaa
open Go.RowKit Go.Lib F64
set_option linter.unusedSimpArgs false
set_option linter.unusedVariables false
attribute [local go_sem] run_store_float
attribute [local go_sem low] EW.cellN EW.frozN alloc_cell_or alloc_froz_or EW.cellF EW.frozF EW.cell1 EW.froz1
def ctOf (o : Option Ct) : Ct := o.getD default
theorem best_snoc (slot : Int) (P : List Ct) (x : Ct) : bestC slot (P ++ [x]) = stepB slot (bestC slot P) x := by simp [bestC, List.foldl_append]
def updB (slot : Int) (fd : Bool) (y x : Ct) : Prop := x.slot = slot ∧ (fd = false ∨ y.view < x.view)
instance (slot : Int) (fd : Bool) (y x : Ct) : Decidable (updB slot fd y x) := by unfold updB; infer_instance
theorem step_pair (slot : Int) (o : Option Ct) (x y : Ct) (fd : Bool) (hy : y = ctOf o) (hf : fd = o.isSome) : ctOf (stepB slot o x) = (if updB slot fd y x then x else y) ∧ (stepB slot o x).isSome = (if updB slot fd y x then true else fd) := by
  subst hy hf
  unfold stepB updB ctOf
  cases o with
  | none => by_cases h : x.slot = slot <;> simp [h]
  | some y =>
    by_cases h : x.slot = slot
    · by_cases g : y.view < x.view <;> simp [h, g]
    · simp [h]
/-- The certificates of the first i changes, and j of the next. -/
def certsTo (l : List Ch) (i j : Nat) : List Ct := (l.take i).flatMap (·.certs) ++ (chAt l i).certs.take j
theorem certsTo_succ (l : List Ch) (i j : Nat) (h : j < (chAt l i).certs.length) : certsTo l i (j + 1) = certsTo l i j ++ [ctAt (chAt l i).certs j] := by
  unfold certsTo
  rw [List.take_succ_eq_append_getElem h, ctAt_get h, List.append_assoc]
theorem certsTo_next (l : List Ch) (i j : Nat) (hi : i < l.length) (h : (chAt l i).certs.length ≤ j) : certsTo l i j = certsTo l (i + 1) 0 := by
  unfold certsTo
  rw [List.take_of_length_le h, List.take_succ_eq_append_getElem hi, List.flatMap_append, chAt_get hi]; simp
theorem certsTo_end (l : List Ch) (i : Nat) (h : l.length ≤ i) : certsTo l i 0 = l.flatMap (·.certs) := by
  unfold certsTo
  rw [List.take_of_length_le h]; simp
theorem info_cert : (Try.prog.info? 52).map (·.size) = some 9 := by kernel_rfl
set_option maxHeartbeats 4000000 in
set_option maxRecDepth 100000 in
theorem ref16_best (slot : Int) (la : Option Addr) (lcap : Nat) (l : List Ch) (w : World) (h : Chs w la lcap l) :
    Calls Try.prog 75 #[.slice la l.length lcap, .int .i64 slot] w fun e w' =>
    ∃ sa scap, e = .returned (.tuple #[.agg ((ctOf (bestL slot l)).cells sa scap).toArray, .bool (bestL slot l).isSome]) ∧ Ext Non w w' := by
  have HH := Go.Lib.hid h
  have hsm := h.small; have hsl := h.le
  clear h
  go_enter Try.func75, Try.ntmps75
  go_wp2_with fail
  go_loopw [7, 8] (fun fv iv wr => ∃ (i : Nat) (oc : Ct) (oa : Option Addr) (ocap : Nat) (fd : Bool) (z : EW (From w.heap.size) w), i ≤ l.length ∧ iv = .int .i64 i ∧ fv = .bool fd ∧ wr = z.on ∧ Hid (Bx wr w.heap.size ((default : Ct).cells none 0) 52) ∧ Hid (Bx wr (w.heap.size + 1) (oc.cells oa ocap) 52) ∧ Hid (oc = ctOf (bestC slot (certsTo l i 0))) ∧ Hid (fd = (bestC slot (certsTo l i 0)).isSome)) (fun _ iv _ => l.length - (intOf iv).toNat)
  case atStart =>
    exact ⟨0, default, none, 0, false, ⟨_, by (repeat (first | with_reducible exact Ext.refl _ _ | assumption | with_reducible refine Ext.upN ?_ | with_reducible refine Ext.alloc ?_ _ | with_reducible refine Ext.upA (by assumption) ?_ | with_reducible refine Ext.upW ?_ | with_reducible refine Ext.drew ?_ | with_reducible refine Ext.drewN ?_ _ | with_reducible refine Ext.upF ?_ | with_reducible refine Ext.upFF (by first | omega | simp) ?_ | with_reducible refine Ext.setCellsF _ _ _ (by first | omega | simp) ?_ | with_reducible refine Ext.setCellF _ _ _ (by first | omega | simp) ?_ | with_reducible refine Ext.upFN (by first | omega | simp) ?_ | with_reducible refine Ext.up1F (by first | omega | simp) ?_ | with_reducible refine Ext.up1N (by first | omega | simp) ?_ | with_reducible refine Ext.setCell ?_ (.inr (by first | omega | simp)) _ | refine Ext.alloc ?_ _ | refine Ext.setCellF _ _ _ (by first | omega | simp) ?_ | refine Ext.setCell ?_ (.inr (by first | omega | simp)) _))⟩, Nat.zero_le _, rfl, rfl, rfl, Go.Lib.hid ((Bx.new w _ _).alloc _), Go.Lib.hid (Bx.newAt _ _ _ _ (by simp)), Go.Lib.hid rfl, Go.Lib.hid rfl⟩
  case round =>
    obtain ⟨i, oc, oa, ocap, fd, z, hi, rfl, rfl, rfl, B4, BX, HO, HF⟩ := hrel
    by_cases hlt : i < l.length
    · obtain ⟨lb, lo, ca, ccap, rfl, hlb, hrow, hcs, hif, hiv, hiy, hit⟩ := HH.out.at_ i hlt
      have HCs : Hid (Certs w ca ccap (chAt l i).certs) := Go.Lib.hid hcs
      have r2 : w.cell? ⟨lb, lo + i * 5 + 2, none⟩ = some (.slice ca (chAt l i).certs.length ccap) := hrow 2 _ rfl
      have hcsm := hcs.small; have hcsl := hcs.le
      clear hrow hcs hif hiv hiy hit
      go_wp2_with fail
      go_loopw [7, 9] (fun fv jv wr => ∃ (j : Nat) (oc : Ct) (oa : Option Addr) (ocap : Nat) (fd : Bool) (z2 : EW (From w.heap.size) z.on), j ≤ (chAt l i).certs.length ∧ jv = .int .i64 j ∧ fv = .bool fd ∧ wr = z2.on ∧ Hid (Bx wr w.heap.size ((default : Ct).cells none 0) 52) ∧ Hid (Bx wr (w.heap.size + 1) (oc.cells oa ocap) 52) ∧ Hid (oc = ctOf (bestC slot (certsTo l i j))) ∧ Hid (fd = (bestC slot (certsTo l i j)).isSome)) (fun _ jv _ => (chAt l i).certs.length - (intOf jv).toNat)
      case atStart => exact ⟨0, oc, oa, ocap, fd, ⟨_, by (repeat (first | with_reducible exact Ext.refl _ _ | assumption | with_reducible refine Ext.upN ?_ | with_reducible refine Ext.alloc ?_ _ | with_reducible refine Ext.upA (by assumption) ?_ | with_reducible refine Ext.upW ?_ | with_reducible refine Ext.drew ?_ | with_reducible refine Ext.drewN ?_ _ | with_reducible refine Ext.upF ?_ | with_reducible refine Ext.upFF (by first | omega | simp) ?_ | with_reducible refine Ext.setCellsF _ _ _ (by first | omega | simp) ?_ | with_reducible refine Ext.setCellF _ _ _ (by first | omega | simp) ?_ | with_reducible refine Ext.upFN (by first | omega | simp) ?_ | with_reducible refine Ext.up1F (by first | omega | simp) ?_ | with_reducible refine Ext.up1N (by first | omega | simp) ?_ | with_reducible refine Ext.setCell ?_ (.inr (by first | omega | simp)) _ | refine Ext.alloc ?_ _ | refine Ext.setCellF _ _ _ (by first | omega | simp) ?_ | refine Ext.setCell ?_ (.inr (by first | omega | simp)) _))⟩, Nat.zero_le _, rfl, rfl, rfl, B4, BX, HO, HF⟩
      case round =>
        clear B4 BX HO HF
        obtain ⟨j, oc, oa, ocap, fd, z2, hj, rfl, rfl, rfl, B4, BX, HO, HF⟩ := hrel
        by_cases hjl : j < (chAt l i).certs.length
        · obtain ⟨cb, co, sa, scap, rfl, hcb, hcells, hsg, hro, hvi, hsi⟩ := HCs.out.at_ j hjl
          have HP := Go.Lib.hid (certsTo_succ l i j hjl)
          generalize hct : ctAt (chAt l i).certs j = ct at *
          obtain ⟨cv, cs, ⟨rc, rs, ⟨rk, rkey, rx, rid⟩⟩, sl⟩ := ct
          obtain ⟨ov, os, ⟨oc, ot, ⟨ok, okey, ox, oid⟩⟩, ol⟩ := oc
          clear hct
          have m0 : w.cell? ⟨cb, co + j * 9, none⟩ = some (.int .i64 cv) := hcells 0 _ rfl
          have m1 : w.cell? ⟨cb, co + j * 9 + 1, none⟩ = some (.int .i64 cs) := hcells 1 _ rfl
          have m2 : w.cell? ⟨cb, co + j * 9 + 2, none⟩ = some (.int .i64 rc) := hcells 2 _ rfl
          have m3 : w.cell? ⟨cb, co + j * 9 + 3, none⟩ = some (.int .i64 rs) := hcells 3 _ rfl
          have m4 : w.cell? ⟨cb, co + j * 9 + 4, none⟩ = some (.int .i64 rk) := hcells 4 _ rfl
          have m5 : w.cell? ⟨cb, co + j * 9 + 5, none⟩ = some (.string rkey) := hcells 5 _ rfl
          have m6 : w.cell? ⟨cb, co + j * 9 + 6, none⟩ = some (.float .f64 rx) := hcells 6 _ rfl
          have m7 : w.cell? ⟨cb, co + j * 9 + 7, none⟩ = some (.int .i64 rid) := hcells 7 _ rfl
          have m8 : w.cell? ⟨cb, co + j * 9 + 8, none⟩ = some (.slice sa sl.length scap) := hcells 8 _ rfl
          have q0 : z2.on.cell? ⟨w.heap.size + 1, 0, none⟩ = some (.int .i64 ov) := BX.out.cell rfl
          clear hcells hsg hro hvi hsi
          by_cases hs : cs = slot
          · have hbs : (cs == slot) = true := by rw [beq_iff_eq]; exact hs
            have HS := Go.Lib.hid hs; clear hs
            cases fd
            · as_aux_lemma =>
              have HZ : Hid ((⟨cv, cs, ⟨rc, rs, ⟨rk, rkey, rx, rid⟩⟩, sl⟩ : Ct) = ctOf (bestC slot (certsTo l i (j + 1)))) := Go.Lib.hid (by rw [HP.out, best_snoc, (step_pair slot _ _ (⟨ov, os, ⟨oc, ot, ⟨ok, okey, ox, oid⟩⟩, ol⟩ : Ct) false HO.out HF.out).1, if_pos (by exact ⟨HS.out, .inl rfl⟩)])
              have HZF : Hid (true = (bestC slot (certsTo l i (j + 1))).isSome) := Go.Lib.hid (by rw [HP.out, best_snoc, (step_pair slot _ _ (⟨ov, os, ⟨oc, ot, ⟨ok, okey, ox, oid⟩⟩, ol⟩ : Ct) false HO.out HF.out).2, if_pos (by exact ⟨HS.out, .inl rfl⟩)])
              go_wp2_with (refine wpList_store_box rfl 52 _ _ rfl (w.heap.size + 1) _ [.int .i64 cv, .int .i64 cs, .int .i64 rc, .int .i64 rs, .int .i64 rk, .string rkey, .float .f64 rx, .int .i64 rid, .slice sa sl.length scap] _ rfl rfl (BX.out.alloc _) rfl info_cert (by simp [Value.oneCell']) (fun W hB => ?_); have BZ := Go.Lib.hid hB; clear hB)
              go_roundw
              case rel => exact ⟨j + 1, (⟨cv, cs, ⟨rc, rs, ⟨rk, rkey, rx, rid⟩⟩, sl⟩ : Ct), sa, scap, true, ⟨_, by (repeat (first | with_reducible exact Ext.refl _ _ | assumption | with_reducible refine Ext.upN ?_ | with_reducible refine Ext.alloc ?_ _ | with_reducible refine Ext.upA (by assumption) ?_ | with_reducible refine Ext.upW ?_ | with_reducible refine Ext.drew ?_ | with_reducible refine Ext.drewN ?_ _ | with_reducible refine Ext.upF ?_ | with_reducible refine Ext.upFF (by first | omega | simp) ?_ | with_reducible refine Ext.setCellsF _ _ _ (by first | omega | simp) ?_ | with_reducible refine Ext.setCellF _ _ _ (by first | omega | simp) ?_ | with_reducible refine Ext.upFN (by first | omega | simp) ?_ | with_reducible refine Ext.up1F (by first | omega | simp) ?_ | with_reducible refine Ext.up1N (by first | omega | simp) ?_ | with_reducible refine Ext.setCell ?_ (.inr (by first | omega | simp)) _ | refine Ext.alloc ?_ _ | refine Ext.setCellF _ _ _ (by first | omega | simp) ?_ | refine Ext.setCell ?_ (.inr (by first | omega | simp)) _))⟩, hjl, by go_num, rfl, rfl, Go.Lib.hid ((B4.out.alloc _).up1 _ (by omega)), BZ, HZ, HZF⟩
              case measure => simp [intOf]; omega
            · by_cases hv : ov < cv
              · as_aux_lemma =>
                have hdv : decide (ov < cv) = true := decide_eq_true hv
                have HZ : Hid ((⟨cv, cs, ⟨rc, rs, ⟨rk, rkey, rx, rid⟩⟩, sl⟩ : Ct) = ctOf (bestC slot (certsTo l i (j + 1)))) := Go.Lib.hid (by rw [HP.out, best_snoc, (step_pair slot _ _ (⟨ov, os, ⟨oc, ot, ⟨ok, okey, ox, oid⟩⟩, ol⟩ : Ct) true HO.out HF.out).1, if_pos (by exact ⟨HS.out, .inr hv⟩)])
                have HZF : Hid (true = (bestC slot (certsTo l i (j + 1))).isSome) := Go.Lib.hid (by rw [HP.out, best_snoc, (step_pair slot _ _ (⟨ov, os, ⟨oc, ot, ⟨ok, okey, ox, oid⟩⟩, ol⟩ : Ct) true HO.out HF.out).2, if_pos (by exact ⟨HS.out, .inr hv⟩)])
                go_wp2_with (refine wpList_store_box rfl 52 _ _ rfl (w.heap.size + 1) _ [.int .i64 cv, .int .i64 cs, .int .i64 rc, .int .i64 rs, .int .i64 rk, .string rkey, .float .f64 rx, .int .i64 rid, .slice sa sl.length scap] _ rfl rfl (BX.out.alloc _) rfl info_cert (by simp [Value.oneCell']) (fun W hB => ?_); have BZ := Go.Lib.hid hB; clear hB)
                go_roundw
                case rel => exact ⟨j + 1, (⟨cv, cs, ⟨rc, rs, ⟨rk, rkey, rx, rid⟩⟩, sl⟩ : Ct), sa, scap, true, ⟨_, by (repeat (first | with_reducible exact Ext.refl _ _ | assumption | with_reducible refine Ext.upN ?_ | with_reducible refine Ext.alloc ?_ _ | with_reducible refine Ext.upA (by assumption) ?_ | with_reducible refine Ext.upW ?_ | with_reducible refine Ext.drew ?_ | with_reducible refine Ext.drewN ?_ _ | with_reducible refine Ext.upF ?_ | with_reducible refine Ext.upFF (by first | omega | simp) ?_ | with_reducible refine Ext.setCellsF _ _ _ (by first | omega | simp) ?_ | with_reducible refine Ext.setCellF _ _ _ (by first | omega | simp) ?_ | with_reducible refine Ext.upFN (by first | omega | simp) ?_ | with_reducible refine Ext.up1F (by first | omega | simp) ?_ | with_reducible refine Ext.up1N (by first | omega | simp) ?_ | with_reducible refine Ext.setCell ?_ (.inr (by first | omega | simp)) _ | refine Ext.alloc ?_ _ | refine Ext.setCellF _ _ _ (by first | omega | simp) ?_ | refine Ext.setCell ?_ (.inr (by first | omega | simp)) _))⟩, hjl, by go_num, rfl, rfl, Go.Lib.hid ((B4.out.alloc _).up1 _ (by omega)), BZ, HZ, HZF⟩
                case measure => simp [intOf]; omega
              · as_aux_lemma =>
                have hdv : decide (ov < cv) = false := decide_eq_false hv
                have HZ : Hid ((⟨ov, os, ⟨oc, ot, ⟨ok, okey, ox, oid⟩⟩, ol⟩ : Ct) = ctOf (bestC slot (certsTo l i (j + 1)))) := Go.Lib.hid (by rw [HP.out, best_snoc, (step_pair slot _ _ (⟨ov, os, ⟨oc, ot, ⟨ok, okey, ox, oid⟩⟩, ol⟩ : Ct) true HO.out HF.out).1, if_neg (by rintro ⟨_, h | h⟩; cases h; have h : ov < cv := h; omega)])
                have HZF : Hid (true = (bestC slot (certsTo l i (j + 1))).isSome) := Go.Lib.hid (by rw [HP.out, best_snoc, (step_pair slot _ _ (⟨ov, os, ⟨oc, ot, ⟨ok, okey, ox, oid⟩⟩, ol⟩ : Ct) true HO.out HF.out).2, if_neg (by rintro ⟨_, h | h⟩; cases h; have h : ov < cv := h; omega)])
                go_wp2_with fail
                go_roundw
                case rel => exact ⟨j + 1, (⟨ov, os, ⟨oc, ot, ⟨ok, okey, ox, oid⟩⟩, ol⟩ : Ct), oa, ocap, true, ⟨_, by (repeat (first | with_reducible exact Ext.refl _ _ | assumption | with_reducible refine Ext.upN ?_ | with_reducible refine Ext.alloc ?_ _ | with_reducible refine Ext.upA (by assumption) ?_ | with_reducible refine Ext.upW ?_ | with_reducible refine Ext.drew ?_ | with_reducible refine Ext.drewN ?_ _ | with_reducible refine Ext.upF ?_ | with_reducible refine Ext.upFF (by first | omega | simp) ?_ | with_reducible refine Ext.setCellsF _ _ _ (by first | omega | simp) ?_ | with_reducible refine Ext.setCellF _ _ _ (by first | omega | simp) ?_ | with_reducible refine Ext.upFN (by first | omega | simp) ?_ | with_reducible refine Ext.up1F (by first | omega | simp) ?_ | with_reducible refine Ext.up1N (by first | omega | simp) ?_ | with_reducible refine Ext.setCell ?_ (.inr (by first | omega | simp)) _ | refine Ext.alloc ?_ _ | refine Ext.setCellF _ _ _ (by first | omega | simp) ?_ | refine Ext.setCell ?_ (.inr (by first | omega | simp)) _))⟩, hjl, by go_num, rfl, rfl, Go.Lib.hid (B4.out.alloc _), Go.Lib.hid (BX.out.alloc _), HZ, HZF⟩
                case measure => simp [intOf]; omega
          · as_aux_lemma =>
            have hbs : (cs == slot) = false := by rw [beq_eq_false_iff_ne]; exact hs
            have HZ : Hid ((⟨ov, os, ⟨oc, ot, ⟨ok, okey, ox, oid⟩⟩, ol⟩ : Ct) = ctOf (bestC slot (certsTo l i (j + 1)))) := Go.Lib.hid (by rw [HP.out, best_snoc, (step_pair slot _ _ (⟨ov, os, ⟨oc, ot, ⟨ok, okey, ox, oid⟩⟩, ol⟩ : Ct) fd HO.out HF.out).1, if_neg (by rintro ⟨h, _⟩; exact hs h)])
            have HZF : Hid (fd = (bestC slot (certsTo l i (j + 1))).isSome) := Go.Lib.hid (by rw [HP.out, best_snoc, (step_pair slot _ _ (⟨ov, os, ⟨oc, ot, ⟨ok, okey, ox, oid⟩⟩, ol⟩ : Ct) fd HO.out HF.out).2, if_neg (by rintro ⟨h, _⟩; exact hs h)])
            go_wp2_with fail
            go_roundw
            case rel => exact ⟨j + 1, (⟨ov, os, ⟨oc, ot, ⟨ok, okey, ox, oid⟩⟩, ol⟩ : Ct), oa, ocap, fd, ⟨_, by (repeat (first | with_reducible exact Ext.refl _ _ | assumption | with_reducible refine Ext.upN ?_ | with_reducible refine Ext.alloc ?_ _ | with_reducible refine Ext.upA (by assumption) ?_ | with_reducible refine Ext.upW ?_ | with_reducible refine Ext.drew ?_ | with_reducible refine Ext.drewN ?_ _ | with_reducible refine Ext.upF ?_ | with_reducible refine Ext.upFF (by first | omega | simp) ?_ | with_reducible refine Ext.setCellsF _ _ _ (by first | omega | simp) ?_ | with_reducible refine Ext.setCellF _ _ _ (by first | omega | simp) ?_ | with_reducible refine Ext.upFN (by first | omega | simp) ?_ | with_reducible refine Ext.up1F (by first | omega | simp) ?_ | with_reducible refine Ext.up1N (by first | omega | simp) ?_ | with_reducible refine Ext.setCell ?_ (.inr (by first | omega | simp)) _ | refine Ext.alloc ?_ _ | refine Ext.setCellF _ _ _ (by first | omega | simp) ?_ | refine Ext.setCell ?_ (.inr (by first | omega | simp)) _))⟩, hjl, by go_num, rfl, rfl, Go.Lib.hid (B4.out.alloc _), Go.Lib.hid (BX.out.alloc _), HZ, HZF⟩
            case measure => simp [intOf]; omega
        · have HO' : Hid (oc = ctOf (bestC slot (certsTo l (i + 1) 0))) := Go.Lib.hid (by rw [← certsTo_next l i j hlt (by omega)]; exact HO.out)
          have HF' : Hid (fd = (bestC slot (certsTo l (i + 1) 0)).isSome) := Go.Lib.hid (by rw [← certsTo_next l i j hlt (by omega)]; exact HF.out)
          go_wp2_with fail
          go_roundw
          case rel => exact ⟨i + 1, oc, oa, ocap, fd, ⟨_, by (repeat (first | with_reducible exact Ext.refl _ _ | assumption | with_reducible refine Ext.upN ?_ | with_reducible refine Ext.alloc ?_ _ | with_reducible refine Ext.upA (by assumption) ?_ | with_reducible refine Ext.upW ?_ | with_reducible refine Ext.drew ?_ | with_reducible refine Ext.drewN ?_ _ | with_reducible refine Ext.upF ?_ | with_reducible refine Ext.upFF (by first | omega | simp) ?_ | with_reducible refine Ext.setCellsF _ _ _ (by first | omega | simp) ?_ | with_reducible refine Ext.setCellF _ _ _ (by first | omega | simp) ?_ | with_reducible refine Ext.upFN (by first | omega | simp) ?_ | with_reducible refine Ext.up1F (by first | omega | simp) ?_ | with_reducible refine Ext.up1N (by first | omega | simp) ?_ | with_reducible refine Ext.setCell ?_ (.inr (by first | omega | simp)) _ | refine Ext.alloc ?_ _ | refine Ext.setCellF _ _ _ (by first | omega | simp) ?_ | refine Ext.setCell ?_ (.inr (by first | omega | simp)) _))⟩, hlt, by go_num, rfl, rfl, B4, BX, HO', HF'⟩
          case measure => simp [intOf]; omega
    · have HO' : Hid (oc = ctOf (bestL slot l)) := Go.Lib.hid (by have := HO.out; rw [certsTo_end l i (by omega)] at this; exact this)
      have HF' : Hid (fd = (bestL slot l).isSome) := Go.Lib.hid (by have := HF.out; rw [certsTo_end l i (by omega)] at this; exact this)
      clear HO HF
      obtain ⟨ov, os, ⟨oc, ot, ⟨ok, okey, ox, oid⟩⟩, ol⟩ := oc
      have q0 : z.on.cell? ⟨w.heap.size + 1, 0, none⟩ = some (.int .i64 ov) := BX.out.cell rfl
      have q1 : z.on.cell? ⟨w.heap.size + 1, 1, none⟩ = some (.int .i64 os) := BX.out.cell rfl
      have q2 : z.on.cell? ⟨w.heap.size + 1, 2, none⟩ = some (.int .i64 oc) := BX.out.cell rfl
      have q3 : z.on.cell? ⟨w.heap.size + 1, 3, none⟩ = some (.int .i64 ot) := BX.out.cell rfl
      have q4 : z.on.cell? ⟨w.heap.size + 1, 4, none⟩ = some (.int .i64 ok) := BX.out.cell rfl
      have q5 : z.on.cell? ⟨w.heap.size + 1, 5, none⟩ = some (.string okey) := BX.out.cell rfl
      have q6 : z.on.cell? ⟨w.heap.size + 1, 6, none⟩ = some (.float .f64 ox) := BX.out.cell rfl
      have q7 : z.on.cell? ⟨w.heap.size + 1, 7, none⟩ = some (.int .i64 oid) := BX.out.cell rfl
      have q8 : z.on.cell? ⟨w.heap.size + 1, 8, none⟩ = some (.slice oa ol.length ocap) := BX.out.cell rfl
      go_upto_region 14 with (refine wpList_store_box rfl 52 _ _ rfl w.heap.size _ [.int .i64 ov, .int .i64 os, .int .i64 oc, .int .i64 ot, .int .i64 ok, .string okey, .float .f64 ox, .int .i64 oid, .slice oa ol.length ocap] _ rfl rfl B4.out rfl info_cert (by simp [Value.oneCell']) (fun W hB => ?_); have BZ := Go.Lib.hid hB; clear hB)
      have r0 : W.on.cell? ⟨w.heap.size, 0, none⟩ = some (.int .i64 ov) := BZ.out.cell rfl
      have r1 : W.on.cell? ⟨w.heap.size, 1, none⟩ = some (.int .i64 os) := BZ.out.cell rfl
      have r2 : W.on.cell? ⟨w.heap.size, 2, none⟩ = some (.int .i64 oc) := BZ.out.cell rfl
      have r3 : W.on.cell? ⟨w.heap.size, 3, none⟩ = some (.int .i64 ot) := BZ.out.cell rfl
      have r4 : W.on.cell? ⟨w.heap.size, 4, none⟩ = some (.int .i64 ok) := BZ.out.cell rfl
      have r5 : W.on.cell? ⟨w.heap.size, 5, none⟩ = some (.string okey) := BZ.out.cell rfl
      have r6 : W.on.cell? ⟨w.heap.size, 6, none⟩ = some (.float .f64 ox) := BZ.out.cell rfl
      have r7 : W.on.cell? ⟨w.heap.size, 7, none⟩ = some (.int .i64 oid) := BZ.out.cell rfl
      have r8 : W.on.cell? ⟨w.heap.size, 8, none⟩ = some (.slice oa ol.length ocap) := BZ.out.cell rfl
      clear q0 q1 q2 q3 q4 q5 q6 q7 q8
      exact bodyPost_ret (v := .tuple #[.agg #[.int .i64 ov, .int .i64 os, .int .i64 oc, .int .i64 ot, .int .i64 ok, .string okey, .float .f64 ox, .int .i64 oid, .slice oa ol.length ocap], .bool fd]) (by simp [results, Try.results75, go_sem, r0, r1, r2, r3, r4, r5, r6, r7, r8]) rfl ⟨oa, ocap, by rw [← HO'.out, ← HF'.out]; rfl, Ext.fromNon (Nat.le_refl _) (by (repeat (first | with_reducible exact Ext.refl _ _ | assumption | with_reducible refine Ext.upN ?_ | with_reducible refine Ext.alloc ?_ _ | with_reducible refine Ext.upA (by assumption) ?_ | with_reducible refine Ext.upW ?_ | with_reducible refine Ext.drew ?_ | with_reducible refine Ext.drewN ?_ _ | with_reducible refine Ext.upF ?_ | with_reducible refine Ext.upFF (by first | omega | simp) ?_ | with_reducible refine Ext.setCellsF _ _ _ (by first | omega | simp) ?_ | with_reducible refine Ext.setCellF _ _ _ (by first | omega | simp) ?_ | with_reducible refine Ext.upFN (by first | omega | simp) ?_ | with_reducible refine Ext.up1F (by first | omega | simp) ?_ | with_reducible refine Ext.up1N (by first | omega | simp) ?_ | with_reducible refine Ext.setCell ?_ (.inr (by first | omega | simp)) _ | refine Ext.alloc ?_ _ | refine Ext.setCellF _ _ _ (by first | omega | simp) ?_ | refine Ext.setCell ?_ (.inr (by first | omega | simp)) _)))⟩
end Go.Proofs.Ytakbkpklfihfiaa

/- Contracts of layer 16: the first error of a list of changes. -/
namespace Go.Proofs.Ytakbkpklfihfiaa
open Go.RowKit Go.Lib F64
set_option linter.unusedSimpArgs false
set_option linter.unusedVariables false
attribute [local go_sem] run_store_float
attribute [local go_sem low] EW.cellN EW.frozN alloc_cell_or alloc_froz_or
set_option maxHeartbeats 4000000 in
set_option maxRecDepth 100000 in
theorem change_check (ep : Int) (a : Option Addr) (cap : Nat) (xs : List Int) (view : Int) (la : Option Addr) (lcap : Nat) (l : List Ch) (hie : I64 ep) (w : World) (hi : Ints w a cap xs) (h : Chs w la lcap l) :
    Calls Try.prog 73 #[.agg #[.int .i64 ep, .slice a xs.length cap], .int .i64 view, .slice la l.length lcap] w fun e w' =>
    e = .returned (.int .i64 (checkE ep xs view l)) ∧ Ext Non w w' := by
  have HH := Go.Lib.hid h; have HI := Go.Lib.hid hi
  have HE := Go.Lib.hid hie
  have hsm := h.small; have hsl := h.le
  have DF : Hid (checkE ep xs view l = if confB ep xs = true then (if viewsB view l = true then (if rightsE ep xs l = 0 then (if riseB (-1) l = true then (if (l.length : Int) < quorumI xs.length then 15 else 0) else 17) else rightsE ep xs l) else 13) else 1) := Go.Lib.hid rfl
  clear h hi hie
  go_enter Try.func73, Try.ntmps73
  go_wp2_with fail
  refine Calls.ew (council_Right ep a cap xs _ (HI.out.extN (by (repeat (first | with_reducible exact Ext.refl _ _ | assumption | with_reducible refine Ext.upN ?_ | with_reducible refine Ext.alloc ?_ _ | with_reducible refine Ext.upA (by assumption) ?_ | with_reducible refine Ext.upW ?_ | with_reducible refine Ext.drew ?_ | with_reducible refine Ext.drewN ?_ _ | with_reducible refine Ext.upF ?_ | with_reducible refine Ext.upFF (by first | omega | simp) ?_ | with_reducible refine Ext.setCellsF _ _ _ (by first | omega | simp) ?_ | with_reducible refine Ext.setCellF _ _ _ (by first | omega | simp) ?_ | with_reducible refine Ext.upFN (by first | omega | simp) ?_ | with_reducible refine Ext.up1F (by first | omega | simp) ?_ | with_reducible refine Ext.up1N (by first | omega | simp) ?_ | with_reducible refine Ext.setCell ?_ (.inr (by first | omega | simp)) _ | refine Ext.alloc ?_ _ | refine Ext.setCellF _ _ _ (by first | omega | simp) ?_ | refine Ext.setCell ?_ (.inr (by first | omega | simp)) _))))) ?_
  rintro e x1 rfl
  cases hc : confB ep xs
  · as_aux_lemma =>
    rw [hc] at DF
    clear hc
    go_wp2
    go_ret
    exact ⟨by rw [DF.out]; rfl, by (repeat (first | with_reducible exact Ext.refl _ _ | assumption | with_reducible refine Ext.upN ?_ | with_reducible refine Ext.alloc ?_ _ | with_reducible refine Ext.upA (by assumption) ?_ | with_reducible refine Ext.upW ?_ | with_reducible refine Ext.drew ?_ | with_reducible refine Ext.drewN ?_ _ | with_reducible refine Ext.upF ?_ | with_reducible refine Ext.upFF (by first | omega | simp) ?_ | with_reducible refine Ext.setCellsF _ _ _ (by first | omega | simp) ?_ | with_reducible refine Ext.setCellF _ _ _ (by first | omega | simp) ?_ | with_reducible refine Ext.upFN (by first | omega | simp) ?_ | with_reducible refine Ext.up1F (by first | omega | simp) ?_ | with_reducible refine Ext.up1N (by first | omega | simp) ?_ | with_reducible refine Ext.setCell ?_ (.inr (by first | omega | simp)) _ | refine Ext.alloc ?_ _ | refine Ext.setCellF _ _ _ (by first | omega | simp) ?_ | refine Ext.setCell ?_ (.inr (by first | omega | simp)) _))⟩
  · rw [hc] at DF
    have HC := Go.Lib.hid hc
    have HL := Go.Lib.hid (conf_len hc)
    clear hc
    by_cases h1 : 1 ≤ view
    · by_cases h2 : view ≤ 15
      · go_wp2_with fail
        go_loopw [7, 26] (fun okv iv wr => ∃ (i : Nat) (ok : Bool) (z : EW Non x1.on), i ≤ l.length ∧ okv = .bool ok ∧ iv = .int .i64 i ∧ wr = z.on ∧ Hid (viewsB view l = (ok && sameViews view (l.drop i)))) (fun _ iv _ => l.length - (intOf iv).toNat)
        case atStart => exact ⟨0, true, ⟨_, Ext.refl _ _⟩, Nat.zero_le _, rfl, rfl, rfl, Go.Lib.hid (by unfold viewsB viewB; rw [decide_eq_true h1, decide_eq_true h2]; simp)⟩
        case round =>
          obtain ⟨i, ok, z, hi, rfl, rfl, rfl, HV⟩ := hrel
          by_cases hlt : i < l.length
          · obtain ⟨cb, co, ca, ccap, rfl, hcb, hcells, hcs, hif, hiv, hiy, hit⟩ := HH.out.at_ i hlt
            have HD := Go.Lib.hid (sameViews_drop view l i hlt)
            generalize hct : chAt l i = cc at *
            obtain ⟨cf, cv, certs, cy, ct⟩ := cc
            clear hct
            have z0 : w.cell? ⟨cb, co + i * 5, none⟩ = some (.int .i64 cf) := hcells 0 _ rfl
            have z1 : w.cell? ⟨cb, co + i * 5 + 1, none⟩ = some (.int .i64 cv) := hcells 1 _ rfl
            have z2 : w.cell? ⟨cb, co + i * 5 + 2, none⟩ = some (.slice ca certs.length ccap) := hcells 2 _ rfl
            have z3 : w.cell? ⟨cb, co + i * 5 + 3, none⟩ = some (.int .i64 cy) := hcells 3 _ rfl
            have z4 : w.cell? ⟨cb, co + i * 5 + 4, none⟩ = some (.string ct) := hcells 4 _ rfl
            clear hcells hcs hif hiv hiy hit
            cases ok
            · have HW : Hid (viewsB view l = (false && sameViews view (l.drop (i + 1)))) := Go.Lib.hid (by rw [HV.out]; rfl)
              go_wp2_with fail
              go_roundw
              case rel => exact ⟨i + 1, false, ⟨_, by (repeat (first | with_reducible exact Ext.refl _ _ | assumption | with_reducible refine Ext.upN ?_ | with_reducible refine Ext.alloc ?_ _ | with_reducible refine Ext.upA (by assumption) ?_ | with_reducible refine Ext.upW ?_ | with_reducible refine Ext.drew ?_ | with_reducible refine Ext.drewN ?_ _ | with_reducible refine Ext.upF ?_ | with_reducible refine Ext.upFF (by first | omega | simp) ?_ | with_reducible refine Ext.setCellsF _ _ _ (by first | omega | simp) ?_ | with_reducible refine Ext.setCellF _ _ _ (by first | omega | simp) ?_ | with_reducible refine Ext.upFN (by first | omega | simp) ?_ | with_reducible refine Ext.up1F (by first | omega | simp) ?_ | with_reducible refine Ext.up1N (by first | omega | simp) ?_ | with_reducible refine Ext.setCell ?_ (.inr (by first | omega | simp)) _ | refine Ext.alloc ?_ _ | refine Ext.setCellF _ _ _ (by first | omega | simp) ?_ | refine Ext.setCell ?_ (.inr (by first | omega | simp)) _))⟩, hlt, rfl, by go_num, rfl, HW⟩
              case measure => simp [intOf]; omega
            · by_cases hv : cv = view
              · subst hv
                have HW : Hid (viewsB cv l = (true && sameViews cv (l.drop (i + 1)))) := Go.Lib.hid (by rw [HV.out, HD.out]; simp)
                have hbe : (cv == cv) = true := beq_self_eq_true _
                go_wp2_with fail
                go_roundw
                case rel => exact ⟨i + 1, true, ⟨_, by (repeat (first | with_reducible exact Ext.refl _ _ | assumption | with_reducible refine Ext.upN ?_ | with_reducible refine Ext.alloc ?_ _ | with_reducible refine Ext.upA (by assumption) ?_ | with_reducible refine Ext.upW ?_ | with_reducible refine Ext.drew ?_ | with_reducible refine Ext.drewN ?_ _ | with_reducible refine Ext.upF ?_ | with_reducible refine Ext.upFF (by first | omega | simp) ?_ | with_reducible refine Ext.setCellsF _ _ _ (by first | omega | simp) ?_ | with_reducible refine Ext.setCellF _ _ _ (by first | omega | simp) ?_ | with_reducible refine Ext.upFN (by first | omega | simp) ?_ | with_reducible refine Ext.up1F (by first | omega | simp) ?_ | with_reducible refine Ext.up1N (by first | omega | simp) ?_ | with_reducible refine Ext.setCell ?_ (.inr (by first | omega | simp)) _ | refine Ext.alloc ?_ _ | refine Ext.setCellF _ _ _ (by first | omega | simp) ?_ | refine Ext.setCell ?_ (.inr (by first | omega | simp)) _))⟩, hlt, rfl, by go_num, rfl, HW⟩
                case measure => simp [intOf]; omega
              · have HW : Hid (viewsB view l = (false && sameViews view (l.drop (i + 1)))) := Go.Lib.hid (by rw [HV.out, HD.out, decide_eq_false hv]; rfl)
                have hbe : (cv == view) = false := by rw [beq_eq_false_iff_ne]; exact hv
                go_wp2_with fail
                go_roundw
                case rel => exact ⟨i + 1, false, ⟨_, by (repeat (first | with_reducible exact Ext.refl _ _ | assumption | with_reducible refine Ext.upN ?_ | with_reducible refine Ext.alloc ?_ _ | with_reducible refine Ext.upA (by assumption) ?_ | with_reducible refine Ext.upW ?_ | with_reducible refine Ext.drew ?_ | with_reducible refine Ext.drewN ?_ _ | with_reducible refine Ext.upF ?_ | with_reducible refine Ext.upFF (by first | omega | simp) ?_ | with_reducible refine Ext.setCellsF _ _ _ (by first | omega | simp) ?_ | with_reducible refine Ext.setCellF _ _ _ (by first | omega | simp) ?_ | with_reducible refine Ext.upFN (by first | omega | simp) ?_ | with_reducible refine Ext.up1F (by first | omega | simp) ?_ | with_reducible refine Ext.up1N (by first | omega | simp) ?_ | with_reducible refine Ext.setCell ?_ (.inr (by first | omega | simp)) _ | refine Ext.alloc ?_ _ | refine Ext.setCellF _ _ _ (by first | omega | simp) ?_ | refine Ext.setCell ?_ (.inr (by first | omega | simp)) _))⟩, hlt, rfl, by go_num, rfl, HW⟩
                case measure => simp [intOf]; omega
          · have HV' : Hid (viewsB view l = ok) := Go.Lib.hid (by rw [HV.out, List.drop_eq_nil_of_le (by omega)]; simp [sameViews])
            clear HV
            cases ok
            · as_aux_lemma =>
              go_wp2
              go_ret
              exact ⟨ret_int (by rw [DF.out, HV'.out]; rfl), by (repeat (first | with_reducible exact Ext.refl _ _ | assumption | with_reducible refine Ext.upN ?_ | with_reducible refine Ext.alloc ?_ _ | with_reducible refine Ext.upA (by assumption) ?_ | with_reducible refine Ext.upW ?_ | with_reducible refine Ext.drew ?_ | with_reducible refine Ext.drewN ?_ _ | with_reducible refine Ext.upF ?_ | with_reducible refine Ext.upFF (by first | omega | simp) ?_ | with_reducible refine Ext.setCellsF _ _ _ (by first | omega | simp) ?_ | with_reducible refine Ext.setCellF _ _ _ (by first | omega | simp) ?_ | with_reducible refine Ext.upFN (by first | omega | simp) ?_ | with_reducible refine Ext.up1F (by first | omega | simp) ?_ | with_reducible refine Ext.up1N (by first | omega | simp) ?_ | with_reducible refine Ext.setCell ?_ (.inr (by first | omega | simp)) _ | refine Ext.alloc ?_ _ | refine Ext.setCellF _ _ _ (by first | omega | simp) ?_ | refine Ext.setCell ?_ (.inr (by first | omega | simp)) _))⟩
            · as_aux_lemma =>
              have DG : Hid (checkE ep xs view l = if rightsE ep xs l = 0 then (if riseB (-1) l = true then (if (l.length : Int) < quorumI xs.length then 15 else 0) else 17) else rightsE ep xs l) := Go.Lib.hid (by rw [DF.out, HV'.out]; rfl)
              clear HV' DF hi
              go_wp2_with fail
              go_loopw [10, 11, 42] (fun rv lv iv wr => ∃ (i : Nat) (ri : Bool) (last : Int) (z2 : EW Non z.on), i ≤ l.length ∧ rv = .bool ri ∧ lv = .int .i64 last ∧ iv = .int .i64 i ∧ wr = z2.on ∧ Hid (riseB (-1) l = (ri && riseB last (l.drop i))) ∧ Hid (rightsE ep xs l = rightsE ep xs (l.drop i))) (fun _ _ iv _ => l.length - (intOf iv).toNat)
              case atStart => exact ⟨0, true, -1, ⟨_, Ext.refl _ _⟩, Nat.zero_le _, rfl, rfl, rfl, rfl, Go.Lib.hid (by simp), Go.Lib.hid rfl⟩
              case round =>
                obtain ⟨i, ri, last, z2, hi, rfl, rfl, rfl, rfl, HR, HG⟩ := hrel
                by_cases hlt : i < l.length
                · obtain ⟨cb, co, ca, ccap, rfl, hcb, hcells, hcs, hif, hiv, hiy, hit⟩ := HH.out.at_ i hlt
                  have HDr := Go.Lib.hid (riseB_drop last l i hlt); have HDe := Go.Lib.hid (rightsE_drop ep xs l i hlt)
                  generalize hct : chAt l i = cc at *
                  obtain ⟨cf, cv, certs, cy, ct⟩ := cc
                  clear hct
                  have z0 : w.cell? ⟨cb, co + i * 5, none⟩ = some (.int .i64 cf) := hcells 0 _ rfl
                  have z1 : w.cell? ⟨cb, co + i * 5 + 1, none⟩ = some (.int .i64 cv) := hcells 1 _ rfl
                  have z2 : w.cell? ⟨cb, co + i * 5 + 2, none⟩ = some (.slice ca certs.length ccap) := hcells 2 _ rfl
                  have z3 : w.cell? ⟨cb, co + i * 5 + 3, none⟩ = some (.int .i64 cy) := hcells 3 _ rfl
                  have z4 : w.cell? ⟨cb, co + i * 5 + 4, none⟩ = some (.string ct) := hcells 4 _ rfl
                  have HCs : Hid (Certs w ca ccap certs) := Go.Lib.hid hcs
                  have HIx : Hid (I64 cf ∧ I64 cv) := Go.Lib.hid ⟨hif, hiv⟩
                  clear hcells hcs hif hiv hiy hit
                  go_wp2_with fail
                  refine Calls.ew (change_Right ep a cap xs cf cv cy ct ca ccap certs HE.out HIx.out.1 HIx.out.2 _ (HI.out.extN (by (repeat (first | with_reducible exact Ext.refl _ _ | assumption | with_reducible refine Ext.upN ?_ | with_reducible refine Ext.alloc ?_ _ | with_reducible refine Ext.upA (by assumption) ?_ | with_reducible refine Ext.upW ?_ | with_reducible refine Ext.drew ?_ | with_reducible refine Ext.drewN ?_ _ | with_reducible refine Ext.upF ?_ | with_reducible refine Ext.upFF (by first | omega | simp) ?_ | with_reducible refine Ext.setCellsF _ _ _ (by first | omega | simp) ?_ | with_reducible refine Ext.setCellF _ _ _ (by first | omega | simp) ?_ | with_reducible refine Ext.upFN (by first | omega | simp) ?_ | with_reducible refine Ext.up1F (by first | omega | simp) ?_ | with_reducible refine Ext.up1N (by first | omega | simp) ?_ | with_reducible refine Ext.setCell ?_ (.inr (by first | omega | simp)) _ | refine Ext.alloc ?_ _ | refine Ext.setCellF _ _ _ (by first | omega | simp) ?_ | refine Ext.setCell ?_ (.inr (by first | omega | simp)) _)))) (HCs.out.extN (by (repeat (first | with_reducible exact Ext.refl _ _ | assumption | with_reducible refine Ext.upN ?_ | with_reducible refine Ext.alloc ?_ _ | with_reducible refine Ext.upA (by assumption) ?_ | with_reducible refine Ext.upW ?_ | with_reducible refine Ext.drew ?_ | with_reducible refine Ext.drewN ?_ _ | with_reducible refine Ext.upF ?_ | with_reducible refine Ext.upFF (by first | omega | simp) ?_ | with_reducible refine Ext.setCellsF _ _ _ (by first | omega | simp) ?_ | with_reducible refine Ext.setCellF _ _ _ (by first | omega | simp) ?_ | with_reducible refine Ext.upFN (by first | omega | simp) ?_ | with_reducible refine Ext.up1F (by first | omega | simp) ?_ | with_reducible refine Ext.up1N (by first | omega | simp) ?_ | with_reducible refine Ext.setCell ?_ (.inr (by first | omega | simp)) _ | refine Ext.alloc ?_ _ | refine Ext.setCellF _ _ _ (by first | omega | simp) ?_ | refine Ext.setCell ?_ (.inr (by first | omega | simp)) _))))) ?_
                  rintro e z3 rfl
                  generalize hre : rightE ep xs ⟨cf, cv, certs, cy, ct⟩ = re at *
                  clear hre
                  by_cases h0 : re = 0
                  · subst h0
                    have HG' : Hid (rightsE ep xs l = rightsE ep xs (l.drop (i + 1))) := Go.Lib.hid (by rw [HG.out, HDe.out]; rfl)
                    cases ri
                    · have HR' : Hid (riseB (-1) l = (false && riseB cf (l.drop (i + 1)))) := Go.Lib.hid (by rw [HR.out]; rfl)
                      go_wp2_with fail
                      go_roundw
                      case rel => exact ⟨i + 1, false, cf, ⟨_, by (repeat (first | with_reducible exact Ext.refl _ _ | assumption | with_reducible refine Ext.upN ?_ | with_reducible refine Ext.alloc ?_ _ | with_reducible refine Ext.upA (by assumption) ?_ | with_reducible refine Ext.upW ?_ | with_reducible refine Ext.drew ?_ | with_reducible refine Ext.drewN ?_ _ | with_reducible refine Ext.upF ?_ | with_reducible refine Ext.upFF (by first | omega | simp) ?_ | with_reducible refine Ext.setCellsF _ _ _ (by first | omega | simp) ?_ | with_reducible refine Ext.setCellF _ _ _ (by first | omega | simp) ?_ | with_reducible refine Ext.upFN (by first | omega | simp) ?_ | with_reducible refine Ext.up1F (by first | omega | simp) ?_ | with_reducible refine Ext.up1N (by first | omega | simp) ?_ | with_reducible refine Ext.setCell ?_ (.inr (by first | omega | simp)) _ | refine Ext.alloc ?_ _ | refine Ext.setCellF _ _ _ (by first | omega | simp) ?_ | refine Ext.setCell ?_ (.inr (by first | omega | simp)) _))⟩, hlt, rfl, rfl, by go_num, rfl, HR', HG'⟩
                      case measure => simp [intOf]; omega
                    · by_cases hv : last < cf
                      · have HR' : Hid (riseB (-1) l = (true && riseB cf (l.drop (i + 1)))) := Go.Lib.hid (by rw [HR.out, HDr.out]; simp [hv])
                        have hbe : decide (last < cf) = true := decide_eq_true hv
                        go_wp2_with fail
                        go_roundw
                        case rel => exact ⟨i + 1, true, cf, ⟨_, by (repeat (first | with_reducible exact Ext.refl _ _ | assumption | with_reducible refine Ext.upN ?_ | with_reducible refine Ext.alloc ?_ _ | with_reducible refine Ext.upA (by assumption) ?_ | with_reducible refine Ext.upW ?_ | with_reducible refine Ext.drew ?_ | with_reducible refine Ext.drewN ?_ _ | with_reducible refine Ext.upF ?_ | with_reducible refine Ext.upFF (by first | omega | simp) ?_ | with_reducible refine Ext.setCellsF _ _ _ (by first | omega | simp) ?_ | with_reducible refine Ext.setCellF _ _ _ (by first | omega | simp) ?_ | with_reducible refine Ext.upFN (by first | omega | simp) ?_ | with_reducible refine Ext.up1F (by first | omega | simp) ?_ | with_reducible refine Ext.up1N (by first | omega | simp) ?_ | with_reducible refine Ext.setCell ?_ (.inr (by first | omega | simp)) _ | refine Ext.alloc ?_ _ | refine Ext.setCellF _ _ _ (by first | omega | simp) ?_ | refine Ext.setCell ?_ (.inr (by first | omega | simp)) _))⟩, hlt, rfl, rfl, by go_num, rfl, HR', HG'⟩
                        case measure => simp [intOf]; omega
                      · have HR' : Hid (riseB (-1) l = (false && riseB cf (l.drop (i + 1)))) := Go.Lib.hid (by rw [HR.out, HDr.out]; simp [hv])
                        have hbe : decide (last < cf) = false := decide_eq_false hv
                        go_wp2_with fail
                        go_roundw
                        case rel => exact ⟨i + 1, false, cf, ⟨_, by (repeat (first | with_reducible exact Ext.refl _ _ | assumption | with_reducible refine Ext.upN ?_ | with_reducible refine Ext.alloc ?_ _ | with_reducible refine Ext.upA (by assumption) ?_ | with_reducible refine Ext.upW ?_ | with_reducible refine Ext.drew ?_ | with_reducible refine Ext.drewN ?_ _ | with_reducible refine Ext.upF ?_ | with_reducible refine Ext.upFF (by first | omega | simp) ?_ | with_reducible refine Ext.setCellsF _ _ _ (by first | omega | simp) ?_ | with_reducible refine Ext.setCellF _ _ _ (by first | omega | simp) ?_ | with_reducible refine Ext.upFN (by first | omega | simp) ?_ | with_reducible refine Ext.up1F (by first | omega | simp) ?_ | with_reducible refine Ext.up1N (by first | omega | simp) ?_ | with_reducible refine Ext.setCell ?_ (.inr (by first | omega | simp)) _ | refine Ext.alloc ?_ _ | refine Ext.setCellF _ _ _ (by first | omega | simp) ?_ | refine Ext.setCell ?_ (.inr (by first | omega | simp)) _))⟩, hlt, rfl, rfl, by go_num, rfl, HR', HG'⟩
                        case measure => simp [intOf]; omega
                  · as_aux_lemma =>
                    have HN := Go.Lib.hid h0
                    have hbe : (re != 0) = true := by rw [bne_iff_ne]; exact h0
                    clear h0
                    go_wp2
                    go_ret
                    exact ⟨ret_int (by rw [DG.out, HG.out, HDe.out, if_neg (show ¬ re = 0 from HN.out), if_neg (show ¬ re = 0 from HN.out)]), by (repeat (first | with_reducible exact Ext.refl _ _ | assumption | with_reducible refine Ext.upN ?_ | with_reducible refine Ext.alloc ?_ _ | with_reducible refine Ext.upA (by assumption) ?_ | with_reducible refine Ext.upW ?_ | with_reducible refine Ext.drew ?_ | with_reducible refine Ext.drewN ?_ _ | with_reducible refine Ext.upF ?_ | with_reducible refine Ext.upFF (by first | omega | simp) ?_ | with_reducible refine Ext.setCellsF _ _ _ (by first | omega | simp) ?_ | with_reducible refine Ext.setCellF _ _ _ (by first | omega | simp) ?_ | with_reducible refine Ext.upFN (by first | omega | simp) ?_ | with_reducible refine Ext.up1F (by first | omega | simp) ?_ | with_reducible refine Ext.up1N (by first | omega | simp) ?_ | with_reducible refine Ext.setCell ?_ (.inr (by first | omega | simp)) _ | refine Ext.alloc ?_ _ | refine Ext.setCellF _ _ _ (by first | omega | simp) ?_ | refine Ext.setCell ?_ (.inr (by first | omega | simp)) _))⟩
                · have HR' : Hid (riseB (-1) l = ri) := Go.Lib.hid (by rw [HR.out, List.drop_eq_nil_of_le (by omega)]; simp [riseB])
                  have DH : Hid (checkE ep xs view l = if riseB (-1) l = true then (if (l.length : Int) < quorumI xs.length then 15 else 0) else 17) := Go.Lib.hid (by rw [DG.out, HG.out, List.drop_eq_nil_of_le (by omega)]; rfl)
                  clear HR HG DG
                  cases ri
                  · as_aux_lemma =>
                    go_wp2
                    go_ret
                    exact ⟨ret_int (by rw [DH.out, HR'.out]; rfl), by (repeat (first | with_reducible exact Ext.refl _ _ | assumption | with_reducible refine Ext.upN ?_ | with_reducible refine Ext.alloc ?_ _ | with_reducible refine Ext.upA (by assumption) ?_ | with_reducible refine Ext.upW ?_ | with_reducible refine Ext.drew ?_ | with_reducible refine Ext.drewN ?_ _ | with_reducible refine Ext.upF ?_ | with_reducible refine Ext.upFF (by first | omega | simp) ?_ | with_reducible refine Ext.setCellsF _ _ _ (by first | omega | simp) ?_ | with_reducible refine Ext.setCellF _ _ _ (by first | omega | simp) ?_ | with_reducible refine Ext.upFN (by first | omega | simp) ?_ | with_reducible refine Ext.up1F (by first | omega | simp) ?_ | with_reducible refine Ext.up1N (by first | omega | simp) ?_ | with_reducible refine Ext.setCell ?_ (.inr (by first | omega | simp)) _ | refine Ext.alloc ?_ _ | refine Ext.setCellF _ _ _ (by first | omega | simp) ?_ | refine Ext.setCell ?_ (.inr (by first | omega | simp)) _))⟩
                  · as_aux_lemma =>
                    go_wp2_with fail
                    refine (council_Quorum xs.length (by omega) (by have := HL.out; omega) _).mono ?_
                    rintro e _ ⟨rfl, rfl⟩
                    by_cases hq : (l.length : Int) < quorumI xs.length
                    · have HQ := Go.Lib.hid hq
                      generalize quorumI xs.length = q at *
                      have hbe : decide ((l.length : Int) < q) = true := decide_eq_true hq
                      go_wp2
                      go_ret
                      exact ⟨ret_int (by rw [DH.out, HR'.out]; simp [show (l.length : Int) < q from HQ.out]), by (repeat (first | with_reducible exact Ext.refl _ _ | assumption | with_reducible refine Ext.upN ?_ | with_reducible refine Ext.alloc ?_ _ | with_reducible refine Ext.upA (by assumption) ?_ | with_reducible refine Ext.upW ?_ | with_reducible refine Ext.drew ?_ | with_reducible refine Ext.drewN ?_ _ | with_reducible refine Ext.upF ?_ | with_reducible refine Ext.upFF (by first | omega | simp) ?_ | with_reducible refine Ext.setCellsF _ _ _ (by first | omega | simp) ?_ | with_reducible refine Ext.setCellF _ _ _ (by first | omega | simp) ?_ | with_reducible refine Ext.upFN (by first | omega | simp) ?_ | with_reducible refine Ext.up1F (by first | omega | simp) ?_ | with_reducible refine Ext.up1N (by first | omega | simp) ?_ | with_reducible refine Ext.setCell ?_ (.inr (by first | omega | simp)) _ | refine Ext.alloc ?_ _ | refine Ext.setCellF _ _ _ (by first | omega | simp) ?_ | refine Ext.setCell ?_ (.inr (by first | omega | simp)) _))⟩
                    · have HQ := Go.Lib.hid hq
                      generalize quorumI xs.length = q at *
                      have hbe : decide ((l.length : Int) < q) = false := decide_eq_false hq
                      go_wp2
                      go_ret
                      exact ⟨ret_int (by rw [DH.out, HR'.out]; simp [show ¬ (l.length : Int) < q by have := HQ.out; omega]), by (repeat (first | with_reducible exact Ext.refl _ _ | assumption | with_reducible refine Ext.upN ?_ | with_reducible refine Ext.alloc ?_ _ | with_reducible refine Ext.upA (by assumption) ?_ | with_reducible refine Ext.upW ?_ | with_reducible refine Ext.drew ?_ | with_reducible refine Ext.drewN ?_ _ | with_reducible refine Ext.upF ?_ | with_reducible refine Ext.upFF (by first | omega | simp) ?_ | with_reducible refine Ext.setCellsF _ _ _ (by first | omega | simp) ?_ | with_reducible refine Ext.setCellF _ _ _ (by first | omega | simp) ?_ | with_reducible refine Ext.upFN (by first | omega | simp) ?_ | with_reducible refine Ext.up1F (by first | omega | simp) ?_ | with_reducible refine Ext.up1N (by first | omega | simp) ?_ | with_reducible refine Ext.setCell ?_ (.inr (by first | omega | simp)) _ | refine Ext.alloc ?_ _ | refine Ext.setCellF _ _ _ (by first | omega | simp) ?_ | refine Ext.setCell ?_ (.inr (by first | omega | simp)) _))⟩
      · have hn2 : decide (view ≤ 15) = false := decide_eq_false h2
        go_wp2_with fail
        go_loopw [7, 26] (fun okv iv wr => ∃ (i : Nat) (ok : Bool) (z : EW Non x1.on), i ≤ l.length ∧ okv = .bool ok ∧ iv = .int .i64 i ∧ wr = z.on ∧ Hid (viewsB view l = (ok && sameViews view (l.drop i)))) (fun _ iv _ => l.length - (intOf iv).toNat)
        case atStart => exact ⟨0, false, ⟨_, Ext.refl _ _⟩, Nat.zero_le _, rfl, rfl, rfl, Go.Lib.hid (by unfold viewsB viewB; rw [show decide (view ≤ 15) = false by rw [decide_eq_false_iff_not]; omega]; simp)⟩
        case round =>
          obtain ⟨i, ok, z, hi, rfl, rfl, rfl, HV⟩ := hrel
          by_cases hlt : i < l.length
          · obtain ⟨cb, co, ca, ccap, rfl, hcb, hcells, hcs, hif, hiv, hiy, hit⟩ := HH.out.at_ i hlt
            have HD := Go.Lib.hid (sameViews_drop view l i hlt)
            generalize hct : chAt l i = cc at *
            obtain ⟨cf, cv, certs, cy, ct⟩ := cc
            clear hct
            have z0 : w.cell? ⟨cb, co + i * 5, none⟩ = some (.int .i64 cf) := hcells 0 _ rfl
            have z1 : w.cell? ⟨cb, co + i * 5 + 1, none⟩ = some (.int .i64 cv) := hcells 1 _ rfl
            have z2 : w.cell? ⟨cb, co + i * 5 + 2, none⟩ = some (.slice ca certs.length ccap) := hcells 2 _ rfl
            have z3 : w.cell? ⟨cb, co + i * 5 + 3, none⟩ = some (.int .i64 cy) := hcells 3 _ rfl
            have z4 : w.cell? ⟨cb, co + i * 5 + 4, none⟩ = some (.string ct) := hcells 4 _ rfl
            clear hcells hcs hif hiv hiy hit
            cases ok
            · have HW : Hid (viewsB view l = (false && sameViews view (l.drop (i + 1)))) := Go.Lib.hid (by rw [HV.out]; rfl)
              go_wp2_with fail
              go_roundw
              case rel => exact ⟨i + 1, false, ⟨_, by (repeat (first | with_reducible exact Ext.refl _ _ | assumption | with_reducible refine Ext.upN ?_ | with_reducible refine Ext.alloc ?_ _ | with_reducible refine Ext.upA (by assumption) ?_ | with_reducible refine Ext.upW ?_ | with_reducible refine Ext.drew ?_ | with_reducible refine Ext.drewN ?_ _ | with_reducible refine Ext.upF ?_ | with_reducible refine Ext.upFF (by first | omega | simp) ?_ | with_reducible refine Ext.setCellsF _ _ _ (by first | omega | simp) ?_ | with_reducible refine Ext.setCellF _ _ _ (by first | omega | simp) ?_ | with_reducible refine Ext.upFN (by first | omega | simp) ?_ | with_reducible refine Ext.up1F (by first | omega | simp) ?_ | with_reducible refine Ext.up1N (by first | omega | simp) ?_ | with_reducible refine Ext.setCell ?_ (.inr (by first | omega | simp)) _ | refine Ext.alloc ?_ _ | refine Ext.setCellF _ _ _ (by first | omega | simp) ?_ | refine Ext.setCell ?_ (.inr (by first | omega | simp)) _))⟩, hlt, rfl, by go_num, rfl, HW⟩
              case measure => simp [intOf]; omega
            · by_cases hv : cv = view
              · subst hv
                have HW : Hid (viewsB cv l = (true && sameViews cv (l.drop (i + 1)))) := Go.Lib.hid (by rw [HV.out, HD.out]; simp)
                have hbe : (cv == cv) = true := beq_self_eq_true _
                go_wp2_with fail
                go_roundw
                case rel => exact ⟨i + 1, true, ⟨_, by (repeat (first | with_reducible exact Ext.refl _ _ | assumption | with_reducible refine Ext.upN ?_ | with_reducible refine Ext.alloc ?_ _ | with_reducible refine Ext.upA (by assumption) ?_ | with_reducible refine Ext.upW ?_ | with_reducible refine Ext.drew ?_ | with_reducible refine Ext.drewN ?_ _ | with_reducible refine Ext.upF ?_ | with_reducible refine Ext.upFF (by first | omega | simp) ?_ | with_reducible refine Ext.setCellsF _ _ _ (by first | omega | simp) ?_ | with_reducible refine Ext.setCellF _ _ _ (by first | omega | simp) ?_ | with_reducible refine Ext.upFN (by first | omega | simp) ?_ | with_reducible refine Ext.up1F (by first | omega | simp) ?_ | with_reducible refine Ext.up1N (by first | omega | simp) ?_ | with_reducible refine Ext.setCell ?_ (.inr (by first | omega | simp)) _ | refine Ext.alloc ?_ _ | refine Ext.setCellF _ _ _ (by first | omega | simp) ?_ | refine Ext.setCell ?_ (.inr (by first | omega | simp)) _))⟩, hlt, rfl, by go_num, rfl, HW⟩
                case measure => simp [intOf]; omega
              · have HW : Hid (viewsB view l = (false && sameViews view (l.drop (i + 1)))) := Go.Lib.hid (by rw [HV.out, HD.out, decide_eq_false hv]; rfl)
                have hbe : (cv == view) = false := by rw [beq_eq_false_iff_ne]; exact hv
                go_wp2_with fail
                go_roundw
                case rel => exact ⟨i + 1, false, ⟨_, by (repeat (first | with_reducible exact Ext.refl _ _ | assumption | with_reducible refine Ext.upN ?_ | with_reducible refine Ext.alloc ?_ _ | with_reducible refine Ext.upA (by assumption) ?_ | with_reducible refine Ext.upW ?_ | with_reducible refine Ext.drew ?_ | with_reducible refine Ext.drewN ?_ _ | with_reducible refine Ext.upF ?_ | with_reducible refine Ext.upFF (by first | omega | simp) ?_ | with_reducible refine Ext.setCellsF _ _ _ (by first | omega | simp) ?_ | with_reducible refine Ext.setCellF _ _ _ (by first | omega | simp) ?_ | with_reducible refine Ext.upFN (by first | omega | simp) ?_ | with_reducible refine Ext.up1F (by first | omega | simp) ?_ | with_reducible refine Ext.up1N (by first | omega | simp) ?_ | with_reducible refine Ext.setCell ?_ (.inr (by first | omega | simp)) _ | refine Ext.alloc ?_ _ | refine Ext.setCellF _ _ _ (by first | omega | simp) ?_ | refine Ext.setCell ?_ (.inr (by first | omega | simp)) _))⟩, hlt, rfl, by go_num, rfl, HW⟩
                case measure => simp [intOf]; omega
          · have HV' : Hid (viewsB view l = ok) := Go.Lib.hid (by rw [HV.out, List.drop_eq_nil_of_le (by omega)]; simp [sameViews])
            clear HV
            cases ok
            · as_aux_lemma =>
              go_wp2
              go_ret
              exact ⟨ret_int (by rw [DF.out, HV'.out]; rfl), by (repeat (first | with_reducible exact Ext.refl _ _ | assumption | with_reducible refine Ext.upN ?_ | with_reducible refine Ext.alloc ?_ _ | with_reducible refine Ext.upA (by assumption) ?_ | with_reducible refine Ext.upW ?_ | with_reducible refine Ext.drew ?_ | with_reducible refine Ext.drewN ?_ _ | with_reducible refine Ext.upF ?_ | with_reducible refine Ext.upFF (by first | omega | simp) ?_ | with_reducible refine Ext.setCellsF _ _ _ (by first | omega | simp) ?_ | with_reducible refine Ext.setCellF _ _ _ (by first | omega | simp) ?_ | with_reducible refine Ext.upFN (by first | omega | simp) ?_ | with_reducible refine Ext.up1F (by first | omega | simp) ?_ | with_reducible refine Ext.up1N (by first | omega | simp) ?_ | with_reducible refine Ext.setCell ?_ (.inr (by first | omega | simp)) _ | refine Ext.alloc ?_ _ | refine Ext.setCellF _ _ _ (by first | omega | simp) ?_ | refine Ext.setCell ?_ (.inr (by first | omega | simp)) _))⟩
            · as_aux_lemma =>
              exfalso
              have := HV'.out
              unfold viewsB viewB at this
              rw [show decide (view ≤ 15) = false by rw [decide_eq_false_iff_not]; omega] at this
              simp at this
    · have hn1 : decide (1 ≤ view) = false := decide_eq_false h1
      go_wp2_with fail
      go_loopw [7, 26] (fun okv iv wr => ∃ (i : Nat) (ok : Bool) (z : EW Non x1.on), i ≤ l.length ∧ okv = .bool ok ∧ iv = .int .i64 i ∧ wr = z.on ∧ Hid (viewsB view l = (ok && sameViews view (l.drop i)))) (fun _ iv _ => l.length - (intOf iv).toNat)
      case atStart => exact ⟨0, false, ⟨_, Ext.refl _ _⟩, Nat.zero_le _, rfl, rfl, rfl, Go.Lib.hid (by unfold viewsB viewB; rw [show decide (1 ≤ view) = false by rw [decide_eq_false_iff_not]; omega]; simp)⟩
      case round =>
        obtain ⟨i, ok, z, hi, rfl, rfl, rfl, HV⟩ := hrel
        by_cases hlt : i < l.length
        · obtain ⟨cb, co, ca, ccap, rfl, hcb, hcells, hcs, hif, hiv, hiy, hit⟩ := HH.out.at_ i hlt
          have HD := Go.Lib.hid (sameViews_drop view l i hlt)
          generalize hct : chAt l i = cc at *
          obtain ⟨cf, cv, certs, cy, ct⟩ := cc
          clear hct
          have z0 : w.cell? ⟨cb, co + i * 5, none⟩ = some (.int .i64 cf) := hcells 0 _ rfl
          have z1 : w.cell? ⟨cb, co + i * 5 + 1, none⟩ = some (.int .i64 cv) := hcells 1 _ rfl
          have z2 : w.cell? ⟨cb, co + i * 5 + 2, none⟩ = some (.slice ca certs.length ccap) := hcells 2 _ rfl
          have z3 : w.cell? ⟨cb, co + i * 5 + 3, none⟩ = some (.int .i64 cy) := hcells 3 _ rfl
          have z4 : w.cell? ⟨cb, co + i * 5 + 4, none⟩ = some (.string ct) := hcells 4 _ rfl
          clear hcells hcs hif hiv hiy hit
          cases ok
          · have HW : Hid (viewsB view l = (false && sameViews view (l.drop (i + 1)))) := Go.Lib.hid (by rw [HV.out]; rfl)
            go_wp2_with fail
            go_roundw
            case rel => exact ⟨i + 1, false, ⟨_, by (repeat (first | with_reducible exact Ext.refl _ _ | assumption | with_reducible refine Ext.upN ?_ | with_reducible refine Ext.alloc ?_ _ | with_reducible refine Ext.upA (by assumption) ?_ | with_reducible refine Ext.upW ?_ | with_reducible refine Ext.drew ?_ | with_reducible refine Ext.drewN ?_ _ | with_reducible refine Ext.upF ?_ | with_reducible refine Ext.upFF (by first | omega | simp) ?_ | with_reducible refine Ext.setCellsF _ _ _ (by first | omega | simp) ?_ | with_reducible refine Ext.setCellF _ _ _ (by first | omega | simp) ?_ | with_reducible refine Ext.upFN (by first | omega | simp) ?_ | with_reducible refine Ext.up1F (by first | omega | simp) ?_ | with_reducible refine Ext.up1N (by first | omega | simp) ?_ | with_reducible refine Ext.setCell ?_ (.inr (by first | omega | simp)) _ | refine Ext.alloc ?_ _ | refine Ext.setCellF _ _ _ (by first | omega | simp) ?_ | refine Ext.setCell ?_ (.inr (by first | omega | simp)) _))⟩, hlt, rfl, by go_num, rfl, HW⟩
            case measure => simp [intOf]; omega
          · by_cases hv : cv = view
            · subst hv
              have HW : Hid (viewsB cv l = (true && sameViews cv (l.drop (i + 1)))) := Go.Lib.hid (by rw [HV.out, HD.out]; simp)
              have hbe : (cv == cv) = true := beq_self_eq_true _
              go_wp2_with fail
              go_roundw
              case rel => exact ⟨i + 1, true, ⟨_, by (repeat (first | with_reducible exact Ext.refl _ _ | assumption | with_reducible refine Ext.upN ?_ | with_reducible refine Ext.alloc ?_ _ | with_reducible refine Ext.upA (by assumption) ?_ | with_reducible refine Ext.upW ?_ | with_reducible refine Ext.drew ?_ | with_reducible refine Ext.drewN ?_ _ | with_reducible refine Ext.upF ?_ | with_reducible refine Ext.upFF (by first | omega | simp) ?_ | with_reducible refine Ext.setCellsF _ _ _ (by first | omega | simp) ?_ | with_reducible refine Ext.setCellF _ _ _ (by first | omega | simp) ?_ | with_reducible refine Ext.upFN (by first | omega | simp) ?_ | with_reducible refine Ext.up1F (by first | omega | simp) ?_ | with_reducible refine Ext.up1N (by first | omega | simp) ?_ | with_reducible refine Ext.setCell ?_ (.inr (by first | omega | simp)) _ | refine Ext.alloc ?_ _ | refine Ext.setCellF _ _ _ (by first | omega | simp) ?_ | refine Ext.setCell ?_ (.inr (by first | omega | simp)) _))⟩, hlt, rfl, by go_num, rfl, HW⟩
              case measure => simp [intOf]; omega
            · have HW : Hid (viewsB view l = (false && sameViews view (l.drop (i + 1)))) := Go.Lib.hid (by rw [HV.out, HD.out, decide_eq_false hv]; rfl)
              have hbe : (cv == view) = false := by rw [beq_eq_false_iff_ne]; exact hv
              go_wp2_with fail
              go_roundw
              case rel => exact ⟨i + 1, false, ⟨_, by (repeat (first | with_reducible exact Ext.refl _ _ | assumption | with_reducible refine Ext.upN ?_ | with_reducible refine Ext.alloc ?_ _ | with_reducible refine Ext.upA (by assumption) ?_ | with_reducible refine Ext.upW ?_ | with_reducible refine Ext.drew ?_ | with_reducible refine Ext.drewN ?_ _ | with_reducible refine Ext.upF ?_ | with_reducible refine Ext.upFF (by first | omega | simp) ?_ | with_reducible refine Ext.setCellsF _ _ _ (by first | omega | simp) ?_ | with_reducible refine Ext.setCellF _ _ _ (by first | omega | simp) ?_ | with_reducible refine Ext.upFN (by first | omega | simp) ?_ | with_reducible refine Ext.up1F (by first | omega | simp) ?_ | with_reducible refine Ext.up1N (by first | omega | simp) ?_ | with_reducible refine Ext.setCell ?_ (.inr (by first | omega | simp)) _ | refine Ext.alloc ?_ _ | refine Ext.setCellF _ _ _ (by first | omega | simp) ?_ | refine Ext.setCell ?_ (.inr (by first | omega | simp)) _))⟩, hlt, rfl, by go_num, rfl, HW⟩
              case measure => simp [intOf]; omega
        · have HV' : Hid (viewsB view l = ok) := Go.Lib.hid (by rw [HV.out, List.drop_eq_nil_of_le (by omega)]; simp [sameViews])
          clear HV
          cases ok
          · as_aux_lemma =>
            go_wp2
            go_ret
            exact ⟨ret_int (by rw [DF.out, HV'.out]; rfl), by (repeat (first | with_reducible exact Ext.refl _ _ | assumption | with_reducible refine Ext.upN ?_ | with_reducible refine Ext.alloc ?_ _ | with_reducible refine Ext.upA (by assumption) ?_ | with_reducible refine Ext.upW ?_ | with_reducible refine Ext.drew ?_ | with_reducible refine Ext.drewN ?_ _ | with_reducible refine Ext.upF ?_ | with_reducible refine Ext.upFF (by first | omega | simp) ?_ | with_reducible refine Ext.setCellsF _ _ _ (by first | omega | simp) ?_ | with_reducible refine Ext.setCellF _ _ _ (by first | omega | simp) ?_ | with_reducible refine Ext.upFN (by first | omega | simp) ?_ | with_reducible refine Ext.up1F (by first | omega | simp) ?_ | with_reducible refine Ext.up1N (by first | omega | simp) ?_ | with_reducible refine Ext.setCell ?_ (.inr (by first | omega | simp)) _ | refine Ext.alloc ?_ _ | refine Ext.setCellF _ _ _ (by first | omega | simp) ?_ | refine Ext.setCell ?_ (.inr (by first | omega | simp)) _))⟩
          · as_aux_lemma =>
            exfalso
            have := HV'.out
            unfold viewsB viewB at this
            rw [show decide (1 ≤ view) = false by rw [decide_eq_false_iff_not]; omega] at this
            simp at this
end Go.Proofs.Ytakbkpklfihfiaa

/- Rows that a call owns, in worlds that grow: an append of one element; ranges; stores into the midst of a block. -/
namespace Go.Proofs.Ytakbkpklfihfiaa
open Go.RowKit
set_option linter.unusedVariables false

theorem ownR_ext {S : Nat → Prop} {w w' : World} {base : Nat} {e : TypeId} {size : Nat} {v : Value} {n : Nat} {xs : List Value} (h : w.ownsRow base e size v n xs) (x : Ext S w w') (hs : ∀ k, v.ownBlock = some k → ¬ S k) : w'.ownsRow base e size v n xs := by
  refine ⟨h.1, ?_⟩
  rcases h.2 with hn | ⟨g, cap, cur, rfl, hb, hg, r⟩
  · exact .inl hn
  · exact .inr ⟨g, cap, cur, rfl, hb, (x.block g (Array.getElem?_eq_some_iff.1 hg).1 (hs g rfl)).trans hg, r⟩
theorem ownR_extN {w w' : World} {base : Nat} {e : TypeId} {size : Nat} {v : Value} {n : Nat} {xs : List Value} (h : w.ownsRow base e size v n xs) (x : Ext Non w w') : w'.ownsRow base e size v n xs := ownR_ext h x fun _ _ f => f
theorem ownR_base {w : World} {base base' : Nat} {e : TypeId} {size : Nat} {v : Value} {n : Nat} {xs : List Value} (h : w.ownsRow base e size v n xs) (hb : base' ≤ base) : w.ownsRow base' e size v n xs :=
  ⟨h.1, h.2.imp id fun ⟨g, cap, cur, e, hg, r⟩ => ⟨g, cap, cur, e, Nat.le_trans hb hg, r⟩⟩
/-- 'append(s, x)' of one element that lies in a block of its own. -/
theorem wpList_append_ew {P : Program} {ops : Array Oper} {rest : List Oper} {o : Oper} {a : Act} {w : World} {Q : Exit → Act → World → Prop} (hgd : o.guard = none) (s x : Operand) (t : TypeId)
    (ho : o.op = .call { callee := .builtin .append, args := #[s, x], argTypes := #[t, t] })
    (base : Nat) (e : TypeId) (size bytes : Nat) (z : Value) (ht : P.underlying t = some (.slice e)) (hi : (P.info? e).map (fun i => (i.zero, i.size, i.bytes)) = some (some z, size, bytes)) (hzs : z.cells.size = size) (hsz : 0 < size) (hbs : bytes ≤ 1000)
    (v : Value) (n : Nat) (xs : List Value) (hs : a.eval s = v) (hown : w.ownsRow base e size v n xs)
    (k : Nat) (news : List Value) (t' : TypeId) (hx : a.eval x = .slice (some ⟨k, 0, none⟩) 1 1) (hB : Bx w k news t') (hl : news.length = size) (h1 : ∀ u ∈ news, u.oneCell' = true)
    (hn : n ≤ 1000000) (hbase : base ≤ w.heap.size)
    (h : ∀ (v' : Value) (W : EW (From base) w), W.on.ownsRow base e size v' (n + 1) (xs ++ news) → wpList P ops Q rest (a.put o.dst v') W.on) : wpList P ops Q (o :: rest) a w := by
  obtain ⟨i, hi0, hi1, hi2, hi3⟩ := info_parts hi
  refine wpList_append_own _ hgd s x t ho base e i z size bytes ht hi0 hi1 hi2 hi3 hzs hsz v n xs hs hown ⟨k, 0, none⟩ 1 1 news hx (by omega) (fun j u hu => ?_) h1 (by unfold maxLen; omega) ?_ hbase ?_
  · rw [addr_add, Nat.zero_add]; exact hB.cell hu
  · have : (n + 1) * bytes ≤ (n + 1) * 1000 := Nat.mul_le_mul_left _ hbs
    omega
  · intro v' w' ho' hg _
    exact h v' ⟨w', Ext.ofGrown hg fun q hq => .inl (hown.lt q hq).1⟩ ho'
theorem ownR_some {w : World} {base : Nat} {e : TypeId} {size : Nat} {v : Value} {n : Nat} {xs : List Value} (h : w.ownsRow base e size v (n + 1) xs) : ∃ g cap, v = .slice (some ⟨g, 0, none⟩) (n + 1) cap ∧ base ≤ g := by
  rcases h.2 with ⟨_, hn⟩ | ⟨g, cap, cur, rfl, hb, _⟩
  · omega
  · exact ⟨g, cap, rfl, hb⟩
/-- 'make([]T, 0, n)'. -/
theorem wpList_make_ew {P : Program} {ops : Array Oper} {rest : List Oper} {o : Oper} {a : Act} {w : World} {Q : Exit → Act → World → Prop} (hg : o.guard = none) (l c : Operand) (t : TypeId) (hop : o.op = Op.makeSlice t l c)
    (e : TypeId) (size bytes : Nat) (z : Value) (ht : P.underlying t = some (.slice e)) (hi : (P.info? e).map (fun i => (i.zero, i.size, i.bytes)) = some (some z, size, bytes)) (hbs : bytes ≤ 1000)
    (n : Nat) (hl : a.eval l = .int .i64 0) (hc : a.eval c = .int .i64 (n : Int)) (hn : n ≤ 1000000)
    (h : ∀ W : EW Non w, W.on.ownsRow w.heap.size e size (.slice (some ⟨w.heap.size, 0, none⟩) 0 n) 0 [] → wpList P ops Q rest (a.put o.dst (.slice (some ⟨w.heap.size, 0, none⟩) 0 n)) W.on) : wpList P ops Q (o :: rest) a w := by
  obtain ⟨i, hi0, hi1, hi2, hi3⟩ := info_parts hi
  refine wpList_make_own w hg l c t hop w.heap.size e i z size ht hi0 hi1 hi2 .i64 .i64 n n hl hc rfl ?_ (by unfold maxLen; omega) (Nat.le_refl _) ?_
  · rw [hi3]
    have : bytes * n ≤ 1000 * n := Nat.mul_le_mul_right _ hbs
    omega
  · intro w' ho hgr
    exact h ⟨w', Ext.ofGrown hgr (fun k hk => by cases hk)⟩ ho
theorem range_ext {S : Nat → Prop} {w w' : World} {b o : Nat} {cs : List Value} (h : w.rangeAt b o cs) (x : Ext S w w') (hs : ¬ S b) : w'.rangeAt b o cs := fun j v hv => by
  have := h j v hv
  exact (x.cell (p := ⟨b, o + j, none⟩) (lt_of_cell this) hs).trans this
theorem there_ext {S : Nat → Prop} {w w' : World} {b o n : Nat} (h : w.there b o n) (x : Ext S w w') (hs : ¬ S b) : w'.there b o n := fun j hj => by
  obtain ⟨h1, h2⟩ := h j hj
  obtain ⟨u, hu⟩ := Option.isSome_iff_exists.1 h1
  have hb := lt_of_cell hu
  exact ⟨by rw [x.cell (p := ⟨b, o + j, none⟩) hb hs]; exact h1, by rw [x.froz (p := ⟨b, o + j, none⟩) hb hs]; exact h2⟩
theorem there_sub {w : World} {b o n o' n' : Nat} (h : w.there b o n) (h1 : o ≤ o') (h2 : o' + n' ≤ o + n) : w.there b o' n' := fun j hj => by
  have := h (o' - o + j) (by omega)
  rwa [show o + (o' - o + j) = o' + j by omega] at this
/-- A store of a whole struct into the midst of a block. -/
theorem wpList_store_at {P : Program} {ops : Array Oper} {rest : List Oper} {op : Oper} {a : Act} {w : World} {Q : Exit → Act → World → Prop} (hgd : op.guard = none) (ty : TypeId) (x y : Operand) (ho : op.op = .store ty x y)
    (k off : Nat) (vs' : List Value) (hx : a.eval x = .pointer (some ⟨k, off, none⟩)) (hy : a.eval y = .agg vs'.toArray) (hT : w.there k off vs'.length)
    (hi : (P.info? ty).map (·.size) = some vs'.length) (h1 : ∀ v ∈ vs', v.oneCell' = true)
    (h : ∀ W : EW (One k) w, W.on.rangeAt k off vs' → (∀ o' cs, o' + cs.length ≤ off ∨ off + vs'.length ≤ o' → w.rangeAt k o' cs → W.on.rangeAt k o' cs) → (∀ o' n, w.there k o' n → W.on.there k o' n) → wpList P ops Q rest (a.put op.dst undef) W.on) : wpList P ops Q (op :: rest) a w :=
  wpList_store_mid hgd ty x y ho k off vs'.toArray hx hy (by simpa using hT) (by simpa using hi) (all_oneCell_toArray h1)
    (h ⟨w.setCells k off vs', Ext.setCells (.inl (one_self k)) vs' off w (Ext.refl _ _)⟩ (World.rangeAt_setCells_same w k off vs' hT)
      (fun o' cs hap hr => World.rangeAt_setCells_apart hr k off vs' (.inr hap)) (fun o' n ht => World.there_setCells ht k off vs'))
end Go.Proofs.Ytakbkpklfihfiaa

/- Footprints: an append writes its own row alone, or a new block. -/
namespace Go.Proofs.Ytakbkpklfihfiaa
open Go.RowKit
set_option linter.unusedVariables false

/-- The block of a row. -/
def Row (v : Value) : Nat → Prop := fun k => v.ownBlock = some k
theorem Ext.recd {S : Nat → Prop} {a W : World} {n : Nat} (h : Ext S a W) : Ext S a ⟨W.heap, W.tape, n, W.os, W.output⟩ := ⟨h.os, h.tape, h.output, h.size, h.block⟩
theorem Bx.drew {w : World} {k : Nat} {vs : List Value} {t : TypeId} (h : Bx w k vs t) : Bx w.drew k vs t := ⟨h.h⟩
/-- 'append(s, x)' of one element that lies in a block of its own: the row's block alone is written. -/
theorem wpList_append_row {P : Program} {ops : Array Oper} {rest : List Oper} {o : Oper} {a : Act} {w : World} {Q : Exit → Act → World → Prop} (hgd : o.guard = none) (s x : Operand) (t : TypeId)
    (ho : o.op = .call { callee := .builtin .append, args := #[s, x], argTypes := #[t, t] })
    (base : Nat) (e : TypeId) (size bytes : Nat) (z : Value) (ht : P.underlying t = some (.slice e)) (hi : (P.info? e).map (fun i => (i.zero, i.size, i.bytes)) = some (some z, size, bytes)) (hzs : z.cells.size = size) (hsz : 0 < size) (hbs : bytes ≤ 1000)
    (v : Value) (n : Nat) (xs : List Value) (hs : a.eval s = v) (hown : w.ownsRow base e size v n xs)
    (k : Nat) (news : List Value) (t' : TypeId) (hx : a.eval x = .slice (some ⟨k, 0, none⟩) 1 1) (hB : Bx w k news t') (hl : news.length = size) (h1 : ∀ u ∈ news, u.oneCell' = true)
    (hn : n ≤ 1000000) (hbase : base ≤ w.heap.size)
    (h : ∀ (v' : Value) (W : EW (Row v) w), W.on.ownsRow base e size v' (n + 1) (xs ++ news) → (∀ k, Row v' k → Row v k ∨ w.heap.size ≤ k) → wpList P ops Q rest (a.put o.dst v') W.on) : wpList P ops Q (o :: rest) a w := by
  obtain ⟨i, hi0, hi1, hi2, hi3⟩ := info_parts hi
  refine wpList_append_own_at w hgd s x t ho base e i z size bytes ht hi0 hi1 hi2 hi3 hzs hsz v n xs hs hown ⟨k, 0, none⟩ 1 1 news hx (by omega) (fun j u hu => ?_) h1 (by unfold maxLen; omega) ?_ hbase ?_
  · rw [addr_add, Nat.zero_add]; exact hB.cell hu
  · have : (n + 1) * bytes ≤ (n + 1) * 1000 := Nat.mul_le_mul_left _ hbs
    omega
  · intro v' w' ho' hg _ hv
    refine h v' ⟨w', Ext.ofGrown hg fun q hq => .inl hq⟩ ho' (fun k hk => ?_)
    unfold Row at *
    rcases hv with hv | hv
    · left; rw [← hv]; exact hk
    · right; rw [hv] at hk; injection hk with hk; omega
theorem own_row {w : World} {base : Nat} {e : TypeId} {size : Nat} {v : Value} {n : Nat} {xs : List Value} (h : w.ownsRow base e size v n xs) : ∀ k, Row v k → base ≤ k ∧ k < w.heap.size := fun k hk => h.lt k hk
end Go.Proofs.Ytakbkpklfihfiaa

/- Layer 16: the arrays in which change.Pick keeps the best certificates; rows of requests. -/
namespace Go.Proofs.Ytakbkpklfihfiaa
open Go.RowKit Go.Lib F64
set_option linter.unusedSimpArgs false
set_option linter.unusedVariables false

def reqCells (l : List Req) : List Value := l.flatMap Req.cells
theorem reqCells_snoc (l : List Req) (r : Req) : reqCells (l ++ [r]) = reqCells l ++ r.cells := by simp [reqCells]
theorem info_req : (Try.prog.info? 49).map (fun i => (i.zero, i.size, i.bytes)) = some (some (.agg #[.int .i64 0, .int .i64 0, .int .i64 0, .string ByteArray.empty, .float .f64 0, .int .i64 0]), 6, 56) := by kernel_rfl
/-- The arrays, when the certificates of P have been seen. -/
structure BestW (ep : Int) (w : World) (kb kt : Nat) (P : List Ct) : Prop where
  rows : ∀ n, n < 4 → ∃ sa scap, w.rangeAt kb (n * 9) ((ctOf (bestC (slotN ep n) P)).cells sa scap)
  there : w.there kb 0 36
  flag : ∀ n, n < 4 → w.cell? ⟨kt, n, none⟩ = some (.bool (bestC (slotN ep n) P).isSome) ∧ w.frozen? ⟨kt, n, none⟩ = false
theorem BestW.ext {S : Nat → Prop} {ep : Int} {w w' : World} {kb kt : Nat} {P : List Ct} (h : BestW ep w kb kt P) (x : Ext S w w') (hb : ¬ S kb) (ht : ¬ S kt) : BestW ep w' kb kt P :=
  ⟨fun n hn => by obtain ⟨sa, scap, r⟩ := h.rows n hn; exact ⟨sa, scap, range_ext r x hb⟩, there_ext h.there x hb,
   fun n hn => by
    obtain ⟨h1, h2⟩ := h.flag n hn
    exact ⟨(x.cell (p := ⟨kt, n, none⟩) (lt_of_cell h1) ht).trans h1, (x.froz (p := ⟨kt, n, none⟩) (lt_of_cell h1) ht).trans h2⟩⟩
theorem stepB_other {slot : Int} {o : Option Ct} {x : Ct} (h : x.slot ≠ slot) : stepB slot o x = o := by unfold stepB; rw [if_neg h]
theorem slotN_inj {ep : Int} {n m : Nat} (h : slotN ep n = slotN ep m) : n = m := by unfold slotN at h; omega
theorem BestW.init {ep : Int} {w : World} {kb kt : Nat} {t t' : TypeId} (hb : Bx w kb ((default : Ct).cells none 0 ++ ((default : Ct).cells none 0 ++ ((default : Ct).cells none 0 ++ (default : Ct).cells none 0))) t) (ht : Bx w kt [.bool false, .bool false, .bool false, .bool false] t') : BestW ep w kb kt [] := by
  refine ⟨fun n hn => ⟨none, 0, fun j v hv => ?_⟩, hb.there rfl, fun n hn => ?_⟩
  · have hj : j < 9 := (List.getElem?_eq_some_iff.1 hv).1
    have hv' : ((default : Ct).cells none 0)[j]? = some v := hv
    clear hv
    have h4 : n = 0 ∨ n = 1 ∨ n = 2 ∨ n = 3 := by omega
    have h9 : j = 0 ∨ j = 1 ∨ j = 2 ∨ j = 3 ∨ j = 4 ∨ j = 5 ∨ j = 6 ∨ j = 7 ∨ j = 8 := by omega
    rcases h4 with rfl | rfl | rfl | rfl <;> rcases h9 with rfl | rfl | rfl | rfl | rfl | rfl | rfl | rfl | rfl <;> (injection hv' with hv'; subst hv'; exact hb.cell rfl)
  · have h4 : n = 0 ∨ n = 1 ∨ n = 2 ∨ n = 3 := by omega
    rcases h4 with rfl | rfl | rfl | rfl <;> exact ⟨ht.cell rfl, froz_of_heap ht.h⟩
theorem certsTo_zero (l : List Ch) : certsTo l 0 0 = [] := by unfold certsTo; simp
theorem lastC_zero (ep : Int) (l : List Ch) : lastC ep (certsTo l 0 0) = 0 := by rw [certsTo_zero]; rfl
theorem BestW.start {ep : Int} {w : World} {t t' : TypeId} (l : List Ch) : BestW ep ((w.alloc (.cells ((default : Ct).cells none 0 ++ ((default : Ct).cells none 0 ++ ((default : Ct).cells none 0 ++ (default : Ct).cells none 0))).toArray t)).alloc (.cells [.bool false, .bool false, .bool false, .bool false].toArray t')) w.heap.size (w.heap.size + 1) (certsTo l 0 0) := by
  rw [certsTo_zero]
  exact BestW.init ((Bx.new _ _ _).alloc _) (Bx.newAt _ _ _ _ (by simp))
/-- Nothing new. -/
theorem BestW.same {ep : Int} {w : World} {kb kt : Nat} {P : List Ct} (h : BestW ep w kb kt P) (x : Ct) (n0 : Nat) (hx : x.slot = slotN ep n0) (hs : stepB (slotN ep n0) (bestC (slotN ep n0) P) x = bestC (slotN ep n0) P) : BestW ep w kb kt (P ++ [x]) := by
  have e : ∀ n, bestC (slotN ep n) (P ++ [x]) = bestC (slotN ep n) P := fun n => by
    rw [best_snoc]
    by_cases hn : n = n0
    · subst hn; exact hs
    · exact stepB_other (fun q => hn (slotN_inj (q.symm.trans hx)))
  exact ⟨fun n hn => by rw [e]; exact h.rows n hn, h.there, fun n hn => by rw [e]; exact h.flag n hn⟩
/-- A better one. -/
theorem BestW.put {ep : Int} {w W w' : World} {kb kt : Nat} {P : List Ct} (h : BestW ep w kb kt P) (x : Ct) (n0 : Nat) (hn0 : n0 < 4) (hx : x.slot = slotN ep n0) (hs : stepB (slotN ep n0) (bestC (slotN ep n0) P) x = some x)
    (sa : Option Addr) (scap : Nat) (hr : W.rangeAt kb (n0 * 9) (x.cells sa scap)) (ho : ∀ o' cs, o' + cs.length ≤ n0 * 9 ∨ n0 * 9 + 9 ≤ o' → w.rangeAt kb o' cs → W.rangeAt kb o' cs) (ht : ∀ o' n, w.there kb o' n → W.there kb o' n)
    (xx : Ext (One kb) w W) (hk : kb ≠ kt) (hw : w' = W.setCell ⟨kt, n0, none⟩ (.bool true)) : BestW ep w' kb kt (P ++ [x]) := by
  have e : ∀ n, n ≠ n0 → bestC (slotN ep n) (P ++ [x]) = bestC (slotN ep n) P := fun n hn => by
    rw [best_snoc]
    exact stepB_other (fun q => hn (slotN_inj (q.symm.trans hx)))
  have e0 : bestC (slotN ep n0) (P ++ [x]) = some x := by rw [best_snoc]; exact hs
  have fl : ∀ n, n < 4 → W.cell? ⟨kt, n, none⟩ = some (.bool (bestC (slotN ep n) P).isSome) ∧ W.frozen? ⟨kt, n, none⟩ = false := fun n hn => by
    obtain ⟨h1, h2⟩ := h.flag n hn
    exact ⟨(xx.cell (p := ⟨kt, n, none⟩) (lt_of_cell h1) (fun f => hk f.symm)).trans h1, (xx.froz (p := ⟨kt, n, none⟩) (lt_of_cell h1) (fun f => hk f.symm)).trans h2⟩
  subst hw
  have y : Ext (One kt) W (W.setCell ⟨kt, n0, none⟩ (.bool true)) := (Ext.refl _ _).set1 _
  refine ⟨fun n hn => ?_, there_ext (ht _ _ h.there) y (fun f => hk f), fun n hn => ?_⟩
  · by_cases q : n = n0
    · subst q
      rw [e0]
      exact ⟨sa, scap, range_ext hr y (fun f => hk f)⟩
    · obtain ⟨sa', scap', r⟩ := h.rows n hn
      rw [e n q]
      refine ⟨sa', scap', range_ext (ho _ _ ?_ r) y (fun f => hk f)⟩
      have : ((ctOf (bestC (slotN ep n) P)).cells sa' scap').length = 9 := rfl
      omega
  · obtain ⟨h1, h2⟩ := fl n hn
    by_cases q : n = n0
    · subst q
      rw [e0]
      exact ⟨World.cell?_setCell_same _ _ _ h1, by rw [World.frozen?_setCell]; exact h2⟩
    · rw [e n q]
      refine ⟨?_, by rw [World.frozen?_setCell]; exact h2⟩
      rw [World.cell?_setCell_other (h := fun f => q (by injection f with _ f; exact f.symm))]
      exact h1
theorem isSome_snoc (slot : Int) (P : List Ct) (x : Ct) : (bestC slot (P ++ [x])).isSome = ((bestC slot P).isSome || decide (x.slot = slot)) := by
  rw [best_snoc]
  unfold stepB
  cases h : bestC slot P with
  | none => by_cases e : x.slot = slot <;> simp [e]
  | some y => by_cases e : x.slot = slot <;> by_cases g : y.view < x.view <;> simp [e, g]
theorem lastC_snoc (ep : Int) (P : List Ct) (x : Ct) (n0 : Nat) (hn0 : n0 < 4) (hx : x.slot = slotN ep n0) : lastC ep (P ++ [x]) = max (lastC ep P) (n0 + 1) := by
  have e : ∀ n, (bestC (slotN ep n) (P ++ [x])).isSome = ((bestC (slotN ep n) P).isSome || decide (n = n0)) := fun n => by
    rw [isSome_snoc, hx]
    congr 1
    by_cases h : n = n0
    · subst h; simp
    · rw [decide_eq_false h, decide_eq_false (fun q => h (slotN_inj q).symm)]
  unfold lastC
  rw [e, e, e, e]
  generalize (bestC (slotN ep 0) P).isSome = b0
  generalize (bestC (slotN ep 1) P).isSome = b1
  generalize (bestC (slotN ep 2) P).isSome = b2
  generalize (bestC (slotN ep 3) P).isSome = b3
  have : n0 = 0 ∨ n0 = 1 ∨ n0 = 2 ∨ n0 = 3 := by omega
  rcases this with rfl | rfl | rfl | rfl <;> cases b0 <;> cases b1 <;> cases b2 <;> cases b3 <;> rfl
theorem lastC_le (ep : Int) (P : List Ct) : lastC ep P ≤ 4 := by unfold lastC; split <;> (try omega); split <;> (try omega); split <;> (try omega); split <;> omega
/-- Where a list is picked from, each certificate is of the epoch. -/
theorem certs_slot (ep : Int) : ∀ (l : List Ct) (last : Int), certsB ep last l = true → ∀ x ∈ l, slotB ep x.slot = true
  | [], _, _, x, hx => (List.not_mem_nil hx).elim
  | y :: t, last, h, x, hx => by
    simp only [certsB, Bool.and_eq_true] at h
    rcases List.mem_cons.1 hx with rfl | hx
    · have := h.1
      simp only [fitsB, headB, Bool.and_eq_true] at this
      exact this.1.1.1.1.1.2
    · exact certs_slot ep t _ h.2 x hx
theorem right_may {ep : Int} {xs : List Int} {c : Ch} (h : rightE ep xs c = 0) : confB ep xs = true ∧ mayB ep c = true := by
  unfold rightE at h
  by_cases h1 : confB ep xs = true
  · refine ⟨h1, ?_⟩
    rw [if_pos h1] at h
    by_cases h2 : chE ep c = 0
    · unfold chE at h2
      by_cases h3 : mayB ep c = true
      · exact h3
      · rw [if_neg h3] at h2; omega
    · rw [if_neg h2] at h; exact absurd h h2
  · rw [if_neg h1] at h; omega
theorem rights_all {ep : Int} {xs : List Int} : ∀ (l : List Ch), rightsE ep xs l = 0 → ∀ c ∈ l, rightE ep xs c = 0
  | [], _, c, hc => (List.not_mem_nil hc).elim
  | y :: t, h, c, hc => by
    unfold rightsE at h
    by_cases h1 : rightE ep xs y = 0
    · rw [if_pos h1] at h
      rcases List.mem_cons.1 hc with rfl | hc
      · exact h1
      · exact rights_all t h c hc
    · rw [if_neg h1] at h; exact absurd h h1
theorem check_parts {ep : Int} {xs : List Int} {view : Int} {l : List Ch} (h : checkE ep xs view l = 0) : confB ep xs = true ∧ viewsB view l = true ∧ rightsE ep xs l = 0 ∧ riseB (-1) l = true ∧ quorumI xs.length ≤ l.length := by
  unfold checkE at h
  by_cases h1 : confB ep xs = true
  · rw [if_pos h1] at h
    by_cases h2 : viewsB view l = true
    · rw [if_pos h2] at h
      by_cases h3 : rightsE ep xs l = 0
      · rw [if_pos h3] at h
        by_cases h4 : riseB (-1) l = true
        · rw [if_pos h4] at h
          by_cases h5 : (l.length : Int) < quorumI xs.length
          · rw [if_pos h5] at h; omega
          · exact ⟨h1, h2, h3, h4, by omega⟩
        · rw [if_neg h4] at h; omega
      · rw [if_neg h3] at h; exact absurd h h3
    · rw [if_neg h2] at h; omega
  · rw [if_neg h1] at h; omega
theorem check_slots {ep : Int} {xs : List Int} {view : Int} {l : List Ch} (h : checkE ep xs view l = 0) (c : Ch) (hc : c ∈ l) (x : Ct) (hx : x ∈ c.certs) : ∃ n, n < 4 ∧ x.slot = slotN ep n := by
  have hr := rights_all l (check_parts h).2.2.1 c hc
  have hm := (right_may hr).2
  unfold mayB at hm
  rw [Bool.and_eq_true] at hm
  have hs := certs_slot ep c.certs 0 hm.2 x hx
  unfold slotB at hs
  simp only [Bool.and_eq_true, decide_eq_true_eq] at hs
  exact ⟨(x.slot - (4 * ep + 1)).toNat, by omega, by unfold slotN; omega⟩
theorem conf_ep {ep : Int} {xs : List Int} (h : confB ep xs = true) : 0 ≤ ep ∧ ep ≤ 60 := by
  unfold confB at h
  simp only [Bool.and_eq_true, decide_eq_true_eq] at h
  exact h.1
def pickL (ep : Int) (xs : List Int) (view : Int) (l : List Ch) : List Req := if checkE ep xs view l = 0 then pickR ep l else []
theorem ctOf_req (o : Option Ct) : (ctOf o).req = reqOf o := by cases o <;> rfl
theorem pickR_length (ep : Int) (l : List Ch) : (pickR ep l).length = lastC ep (l.flatMap (·.certs)) := by unfold pickR; simp
theorem pickR_take (ep : Int) (l : List Ch) (k : Nat) (h : k < lastC ep (l.flatMap (·.certs))) : (pickR ep l).take (k + 1) = (pickR ep l).take k ++ [reqOf (bestC (slotN ep k) (l.flatMap (·.certs)))] := by
  unfold pickR
  rw [← List.map_take, ← List.map_take, List.take_range, List.take_range, Nat.min_eq_left (by omega), Nat.min_eq_left (by omega), List.range_succ, List.map_append]
  rfl
theorem rise_start {ep : Int} {xs : List Int} {l : List Ch} (h : rightsE ep xs l = 0) (hl : 0 < l.length) : riseB (-1) l = riseB (chAt l (1 - 1)).from_ (l.drop 1) := by
  have hd := riseB_drop (-1) l 0 hl
  rw [List.drop_zero] at hd
  rw [hd]
  have hm := (right_may (rights_all l h (chAt l 0) (by rw [chAt_get hl]; exact List.getElem_mem hl))).2
  unfold mayB topB at hm
  simp only [Bool.and_eq_true, decide_eq_true_eq] at hm
  rw [decide_eq_true (show (-1 : Int) < (chAt l 0).from_ by omega)]
  rfl
def lastTo (ep : Int) (P : List Ct) : Nat → Nat
  | 0 => 0
  | k + 1 => if (bestC (slotN ep k) P).isSome then k + 1 else lastTo ep P k
theorem lastTo_four (ep : Int) (P : List Ct) : lastTo ep P 4 = lastC ep P := rfl
theorem lastTo_le (ep : Int) (P : List Ct) : ∀ k, lastTo ep P k ≤ k
  | 0 => Nat.le_refl _
  | k + 1 => by unfold lastTo; split; exact Nat.le_refl _; have := lastTo_le ep P k; omega
end Go.Proofs.Ytakbkpklfihfiaa
