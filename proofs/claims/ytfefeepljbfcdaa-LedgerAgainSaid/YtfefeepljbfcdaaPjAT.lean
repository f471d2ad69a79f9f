/- Joined texts: Ledg. What each proves stands at its head; no conditions beside those in its theorems. -/
import Derived.Deep.RegionHeld3
import Derived.Test.YtfefeepljbfcdaaPjAA
import Derived.Test.YtfefeepljbfcdaaPjAB
import Derived.Test.YtfefeepljbfcdaaPjAE
import Derived.Test.YtfefeepljbfcdaaPjAI
import Derived.Test.YtfefeepljbfcdaaPjAF
import Derived.Test.YtfefeepljbfcdaaPjAJ
import Derived.Test.YtfefeepljbfcdaaPjAK
import Derived.Test.YtfefeepljbfcdaaPjAO
import Derived.Test.YtfefeepljbfcdaaPjAP
/- Contracts of layer 12 (ledger): what a ledger is in memory; New. -/
namespace Go.Proofs.Ytfefeepljbfcdaa
open Go.RowKit F64
set_option linter.unusedSimpArgs false
set_option linter.unusedVariables false

def clRow (cl : Nat → Cl) : List Value := (List.range 8).flatMap (fun i => [.int .i64 (cl i).stamp, .int .i64 (cl i).code, .float .f64 (cl i).real])
def rowLg (g : Lg) (a1 : Option Addr) (c1 : Nat) (a2 : Option Addr) (c2 m : Nat) : List Value :=
  .int .i64 g.epoch :: .slice a1 g.mem.length c1 :: .slice a2 g.next.length c2 :: .int .i64 g.done :: .map (some m) :: clRow g.cl
/-- A ledger: block b, its keys in block m, its members in rows of their own. -/
structure LD (w : World) (b m : Nat) (g : Lg) : Prop where
  ex : ∃ a1 c1 a2 c2, w.heap[b]? = some (.cells (rowLg g a1 c1 a2 c2 m).toArray 81 (0, 0)) ∧ Ints w a1 c1 g.mem ∧ Ints w a2 c2 g.next ∧ intT w a1 ∧ intT w a2
  mp : MapW w m g.keys
/-- Blocks b and m alone. -/
def Two (b m : Nat) : Nat → Prop := fun k => k = b ∨ k = m

theorem LD.lt {w : World} {b m : Nat} {g : Lg} (h : LD w b m g) : b < w.heap.size := by
  obtain ⟨_, _, _, _, h, _⟩ := h.ex
  exact (Array.getElem?_eq_some_iff.1 h).1
theorem LD.ne {w : World} {b m : Nat} {g : Lg} (h : LD w b m g) : b ≠ m := by
  obtain ⟨_, _, _, _, h1, _⟩ := h.ex
  obtain ⟨_, _, h2, _⟩ := h.mp.ex
  intro e
  rw [e, h2] at h1
  cases h1
theorem LD.ext {S : Nat → Prop} {w w' : World} {b m : Nat} {g : Lg} (h : LD w b m g) (x : Ext S w w') (hb : ¬ S b) (hm : ¬ S m) (hs : NoInts S w) : LD w' b m g := by
  obtain ⟨a1, c1, a2, c2, hh, i1, i2, f1, f2⟩ := h.ex
  exact ⟨⟨a1, c1, a2, c2, (x.block b h.lt hb).trans hh, i1.extT f1 x hs, i2.extT f2 x hs, f1.ext x hs, f2.ext x hs⟩, h.mp.ext x hm⟩
theorem LD.noInts {w : World} {b m : Nat} {g : Lg} (h : LD w b m g) : NoInts (Two b m) w := by
  obtain ⟨_, _, _, _, h1, _⟩ := h.ex
  obtain ⟨_, _, h2, _⟩ := h.mp.ex
  rintro k (rfl | rfl) vs fr e
  · rw [h1] at e; cases e
  · rw [h2] at e; cases e
theorem LD.extN {w w' : World} {b m : Nat} {g : Lg} (h : LD w b m g) (x : Ext Non w w') : LD w' b m g := h.ext x (fun f => f) (fun f => f) (NoInts.non w)

theorem cell_new (w : World) (vs : List Value) (t : TypeId) {k : Nat} {v : Value} (h : vs[k]? = some v) : (w.alloc (.cells vs.toArray t)).cell? ⟨w.heap.size, k, none⟩ = some v :=
  cell_of_heap (heap_alloc_new w _) h

theorem new_leaf {Z : World} {xs : List Int} {a1 a2 : Option Addr} {c1 c2 m : Nat} (h1 : Ints Z a1 c1 xs) (h2 : Ints Z a2 c2 xs) (f1 : intT Z a1) (f2 : intT Z a2)
    (hm : Z.heap[m]? = some (.map #[] 0)) : LD (Z.alloc (.cells (rowLg (newL xs) a1 c1 a2 c2 m).toArray 81)) Z.heap.size m (newL xs) := by
  have x : Ext Non Z (Z.alloc (.cells (rowLg (newL xs) a1 c1 a2 c2 m).toArray 81)) := (Ext.refl _ _).alloc _
  have hml : m < Z.heap.size := (Array.getElem?_eq_some_iff.1 hm).1
  exact ⟨⟨a1, c1, a2, c2, heap_alloc_new _ _, h1.extN x, h2.extN x, f1.ext x (NoInts.non _), f2.ext x (NoInts.non _)⟩, ⟨#[], 0, (x.block m hml id).trans hm, Go.MapKept.stamped_empty 0, rfl⟩⟩

set_option maxHeartbeats 400000 in
theorem ledger_New_ok (a : Option Addr) (cap : Nat) (xs : List Int) (hm : membersB xs = true) (w : World) (h : Ints w a cap xs) : Calls Try.prog 9 #[.agg #[.int .i64 0, .slice a xs.length cap]] w fun e w' =>
    ∃ b m, e = .returned (.tuple #[.pointer (some ⟨b, 0, none⟩), .int .i64 0]) ∧ Ext Non w w' ∧ LD w' b m (newL xs) ∧ w.heap.size ≤ b ∧ w.heap.size ≤ m := by
  have HH := Go.Lib.hid h; clear h
  have hc : confB 0 xs = true := by unfold confB; rw [hm]; rfl
  have HC := Go.Lib.hid hc
  have hx10 := (members_facts hm).2.2.2
  clear hc hm
  have hmm := @run_makeMap Try.prog
  go_enter Try.func9, Try.ntmps9
  go_wp2_with fail
  refine (council_Right _ _ _ _ _ (HH.out.extN ((Ext.refl _ _).alloc _))).mono ?_
  rintro e w1 ⟨rfl, y⟩
  rw [HC.out]
  have q0 : w1.cell? ⟨w.heap.size, 0, none⟩ = some (.int .i64 0) := (y.cell (p := ⟨w.heap.size, 0, none⟩) (by simp) id).trans (cell_new w [.int .i64 0, .slice a xs.length cap] _ rfl)
  have q1 : w1.cell? ⟨w.heap.size, 1, none⟩ = some (.slice a xs.length cap) := (y.cell (p := ⟨w.heap.size, 1, none⟩) (by simp) id).trans (cell_new w [.int .i64 0, .slice a xs.length cap] _ rfl)
  have Y := Go.Lib.hid (((Ext.refl Non w).alloc (.cells #[.int .i64 0, .slice a xs.length cap] 24)).trans y)
  clear y
  have Y0 := Ext.refl Non w1
  go_wp2_with fail
  have hb8 : xs.length * 8 ≤ 140737488355328 := by omega
  have HB := Go.Lib.hid hb8; clear hb8
  have ks : ∀ w' : World, Ext Non w1 w' → w'.cell? ⟨w.heap.size, 0, none⟩ = some (.int .i64 0) ∧ w'.cell? ⟨w.heap.size, 1, none⟩ = some (.slice a xs.length cap) := fun w' X =>
    ⟨(X.cell (p := ⟨w.heap.size, 0, none⟩) (lt_of_cell q0) id).trans q0, (X.cell (p := ⟨w.heap.size, 1, none⟩) (lt_of_cell q1) id).trans q1⟩
  have KS := Go.Lib.hid ks; clear ks
  go_region_held3 (fun w' => w'.cell? ⟨w.heap.size, 0, none⟩ = some (.int .i64 0) ∧ w'.cell? ⟨w.heap.size, 1, none⟩ = some (.slice a xs.length cap))
    (first | exact KS.out _ (by (first | exact X2 | exact Ext.drew X2 | exact Ext.alloc X2 _ | exact Ext.alloc (Ext.drew X2) _ | exact Ext.drew (Ext.alloc X2 _) | exact Ext.alloc (Ext.alloc X2 _) _ | exact Ext.alloc (Ext.alloc (Ext.drew X2) _) _ | exact Ext.alloc (Ext.drew (Ext.alloc X2 _)) _ | exact Ext.drew (Ext.alloc (Ext.alloc X2 _) _))) | exact KS.out _ (by (first | exact X1 | exact Ext.drew X1 | exact Ext.alloc X1 _ | exact Ext.alloc (Ext.drew X1) _ | exact Ext.drew (Ext.alloc X1 _) | exact Ext.alloc (Ext.alloc X1 _) _ | exact Ext.alloc (Ext.alloc (Ext.drew X1) _) _ | exact Ext.alloc (Ext.drew (Ext.alloc X1 _)) _ | exact Ext.drew (Ext.alloc (Ext.alloc X1 _) _))) | exact KS.out _ (by (first | exact Y0 | exact Ext.drew Y0 | exact Ext.alloc Y0 _ | exact Ext.alloc (Ext.drew Y0) _ | exact Ext.drew (Ext.alloc Y0 _) | exact Ext.alloc (Ext.alloc Y0 _) _ | exact Ext.alloc (Ext.alloc (Ext.drew Y0) _) _ | exact Ext.alloc (Ext.drew (Ext.alloc Y0 _)) _ | exact Ext.drew (Ext.alloc (Ext.alloc Y0 _) _))))
    (first
    | (have := hI1
       go_at_call 30
       refine Calls.mono (slices_Clone a cap xs HB.out _ (HH.out.extN (Y.out.trans (by (first | exact X1 | exact Ext.drew X1 | exact Ext.alloc X1 _ | exact Ext.alloc (Ext.drew X1) _ | exact Ext.drew (Ext.alloc X1 _) | exact Ext.alloc (Ext.alloc X1 _) _ | exact Ext.alloc (Ext.alloc (Ext.drew X1) _) _ | exact Ext.alloc (Ext.drew (Ext.alloc X1 _)) _ | exact Ext.drew (Ext.alloc (Ext.alloc X1 _) _)))))) ?_
       rintro e w3 ⟨a2, cp2, rfl, x2, hI2, hf2⟩
       have X2 : Ext Non w1 w3 := (by (first | exact X1 | exact Ext.drew X1 | exact Ext.alloc X1 _ | exact Ext.alloc (Ext.drew X1) _ | exact Ext.drew (Ext.alloc X1 _) | exact Ext.alloc (Ext.alloc X1 _) _ | exact Ext.alloc (Ext.alloc (Ext.drew X1) _) _ | exact Ext.alloc (Ext.drew (Ext.alloc X1 _)) _ | exact Ext.drew (Ext.alloc (Ext.alloc X1 _) _)) : Ext Non w1 _).trans x2)
    | (go_at_call 30
       refine Calls.mono (slices_Clone a cap xs HB.out _ (HH.out.extN (Y.out.trans (by (first | exact Y0 | exact Ext.drew Y0 | exact Ext.alloc Y0 _ | exact Ext.alloc (Ext.drew Y0) _ | exact Ext.drew (Ext.alloc Y0 _) | exact Ext.alloc (Ext.alloc Y0 _) _ | exact Ext.alloc (Ext.alloc (Ext.drew Y0) _) _ | exact Ext.alloc (Ext.drew (Ext.alloc Y0 _)) _ | exact Ext.drew (Ext.alloc (Ext.alloc Y0 _) _)))))) ?_
       rintro e w2 ⟨a1, cp1, rfl, x1, hI1, hf1⟩
       have X1 : Ext Non w1 w2 := (by (first | exact Y0 | exact Ext.drew Y0 | exact Ext.alloc Y0 _ | exact Ext.alloc (Ext.drew Y0) _ | exact Ext.drew (Ext.alloc Y0 _) | exact Ext.alloc (Ext.alloc Y0 _) _ | exact Ext.alloc (Ext.alloc (Ext.drew Y0) _) _ | exact Ext.alloc (Ext.drew (Ext.alloc Y0 _)) _ | exact Ext.drew (Ext.alloc (Ext.alloc Y0 _) _)) : Ext Non w1 _).trans x1))
  · clear HH HC KS hmm q0 q1
    go_wp2
    go_returns
    have e : (w3.alloc (.map #[] 0)).heap.size = w3.heap.size + 1 := by simp
    have L := new_leaf (Z := w3.alloc (.map #[] 0)) (hI1.extN (x2.alloc _)) (hI2.extN ((Ext.refl _ _).alloc _)) (hf1.typed.ext (x2.alloc _) (NoInts.non _)) (hf2.typed.ext ((Ext.refl _ _).alloc _) (NoInts.non _)) (heap_alloc_new _ _)
    rw [e] at L
    refine ⟨w3.heap.size + 1, w3.heap.size, rfl, ((Y.out.trans X2).alloc _).alloc _, L, ?_, ?_⟩
    · have := (Y.out.trans X2).size; omega
    · exact (Y.out.trans X2).size
  · clear HH HC KS hmm q0 q1
    go_wp2
    go_returns
    have hm : w3.heap[w2.heap.size]? = some (.map #[] 0) := (x2.block w2.heap.size (by simp) id).trans (heap_alloc_new _ _)
    have xa : Ext Non w2 w3 := ((Ext.refl _ _).alloc _).trans x2
    refine ⟨w3.heap.size, w2.heap.size, rfl, (Y.out.trans X2).alloc _, ?_, ?_, ?_⟩
    · exact new_leaf (Z := w3) (hI1.extN xa) hI2 (hf1.typed.ext xa (NoInts.non _)) hf2.typed hm
    · exact (Y.out.trans X2).size
    · exact (Y.out.trans X1).size
  · clear HH HC KS hmm q0 q1
    go_wp2
    go_returns
    have hm1 : w2.heap[w1.heap.size]? = some (.map #[] 0) := (x1.block w1.heap.size (by simp) id).trans (heap_alloc_new _ _)
    have hl1 : w1.heap.size < w2.heap.size := (Array.getElem?_eq_some_iff.1 hm1).1
    have hm : w3.heap[w1.heap.size]? = some (.map #[] 0) := (x2.block w1.heap.size hl1 id).trans hm1
    refine ⟨w3.heap.size, w1.heap.size, rfl, (Y.out.trans X2).alloc _, ?_, ?_, ?_⟩
    · exact new_leaf (Z := w3) (hI1.extN x2) hI2 (hf1.typed.ext x2 (NoInts.non _)) hf2.typed hm
    · exact (Y.out.trans X2).size
    · exact Y.out.size

theorem ledger_New_no (ep : Int) (a : Option Addr) (cap : Nat) (xs : List Int) (hn : confB ep xs = false ∨ ep ≠ 0) (w : World) (h : Ints w a cap xs) : Calls Try.prog 9 #[.agg #[.int .i64 ep, .slice a xs.length cap]] w fun e w' =>
    e = .returned (.tuple #[.pointer none, .int .i64 1]) ∧ Ext Non w w' := by
  have HH := Go.Lib.hid h; clear h
  cases hc : confB ep xs
  · have HC := Go.Lib.hid hc
    clear hc hn
    go_enter Try.func9, Try.ntmps9
    go_wp2_with fail
    refine (council_Right _ _ _ _ _ (HH.out.extN ((Ext.refl _ _).alloc _))).mono ?_
    rintro e w1 ⟨rfl, y⟩
    rw [HC.out]
    go_wp2
    go_returns
    exact ⟨rfl, ((Ext.refl _ _).alloc _).trans y⟩
  · have HC := Go.Lib.hid hc
    have h0 : ep ≠ 0 := by rcases hn with hn | hn; rw [hn] at hc; cases hc; exact hn
    clear hc hn
    go_enter Try.func9, Try.ntmps9
    go_wp2_with fail
    refine (council_Right _ _ _ _ _ (HH.out.extN ((Ext.refl _ _).alloc _))).mono ?_
    rintro e w1 ⟨rfl, y⟩
    rw [HC.out]
    have q0 : w1.cell? ⟨w.heap.size, 0, none⟩ = some (.int .i64 ep) := (y.cell (p := ⟨w.heap.size, 0, none⟩) (by simp) id).trans (cell_new w [.int .i64 ep, .slice a xs.length cap] _ rfl)
    have Y := Go.Lib.hid (((Ext.refl Non w).alloc (.cells #[.int .i64 ep, .slice a xs.length cap] 24)).trans y)
    clear y
    go_wp2
    go_returns
    exact ⟨rfl, Y.out⟩
end Go.Proofs.Ytfefeepljbfcdaa
