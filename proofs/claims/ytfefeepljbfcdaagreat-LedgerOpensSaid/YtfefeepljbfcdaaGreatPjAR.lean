/- Joined texts: Ledg, Ledg2. What each proves stands at its head; no conditions beside those in its theorems. -/
import Derived.Deep.RegionHeld3
import Derived.Test.YtfefeepljbfcdaaGreatPjAH
import Derived.Test.YtfefeepljbfcdaaGreatPjAN
/- Contracts of layer 12 (ledger): what a ledger is in memory; New. -/
namespace Go.Proofs.YtfefeepljbfcdaaGreat
open Go.RowKit F64
set_option linter.unusedSimpArgs false
set_option linter.unusedVariables false
def clRow (cl : Nat → Cl) : List Value := (List.range 8).flatMap (fun i => [.int .i64 (cl i).stamp, .int .i64 (cl i).code, .float .f64 (cl i).real])
def rowLg (g : Lg) (a1 : Option Addr) (c1 : Nat) (a2 : Option Addr) (c2 m : Nat) : List Value :=
 .int .i64 g.epoch :: .slice a1 g.mem.length c1 :: .slice a2 g.next.length c2 :: .int .i64 g.done :: .map (some m) :: clRow g.cl
structure LD (w : World) (b m : Nat) (g : Lg) : Prop where
 ex : ∃ a1 c1 a2 c2, w.heap[b]? = some (.cells (rowLg g a1 c1 a2 c2 m).toArray 64 (0, 0)) ∧ Ints w a1 c1 g.mem ∧ Ints w a2 c2 g.next ∧ intT w a1 ∧ intT w a2
 mp : MapW w m g.keys
def Two (b m : Nat) : Nat → Prop := fun k => k = b ∨ k = m
theorem LD.lt {w : World} {b m : Nat} {g : Lg} (h : LD w b m g) : b < w.heap.size := by
 obtain ⟨_, _, _, _, h, _⟩ := h.ex
 exact (Array.getElem?_eq_some_iff.1 h).1
theorem LD.ne {w : World} {b m : Nat} {g : Lg} (h : LD w b m g) : b ≠ m := by
 obtain ⟨_, _, _, _, h1, _⟩ := h.ex
 obtain ⟨_, _, h2, _⟩ := h.mp.ex
 intro e
 rw [e, h2] at h1
 cases h1
theorem LD.ext {S : Nat → Prop} {w w' : World} {b m : Nat} {g : Lg} (h : LD w b m g) (x : Ext S w w') (hb : ¬ S b) (hm : ¬ S m) (hs : NoInts S w) : LD w' b m g := by
 obtain ⟨a1, c1, a2, c2, hh, i1, i2, f1, f2⟩ := h.ex
 exact ⟨⟨a1, c1, a2, c2, (x.block b h.lt hb).trans hh, i1.extT f1 x hs, i2.extT f2 x hs, f1.ext x hs, f2.ext x hs⟩, h.mp.ext x hm⟩
theorem LD.noInts {w : World} {b m : Nat} {g : Lg} (h : LD w b m g) : NoInts (Two b m) w := by
 obtain ⟨_, _, _, _, h1, _⟩ := h.ex
 obtain ⟨_, _, h2, _⟩ := h.mp.ex
 rintro k (rfl | rfl) vs fr e
 ·rw [h1] at e; cases e
 ·rw [h2] at e; cases e
theorem LD.extN {w w' : World} {b m : Nat} {g : Lg} (h : LD w b m g) (x : Ext Non w w') : LD w' b m g := h.ext x (fun f => f) (fun f => f) (NoInts.non w)
theorem cell_new (w : World) (vs : List Value) (t : TypeId) {k : Nat} {v : Value} (h : vs[k]? = some v) : (w.alloc (.cells vs.toArray t)).cell? ⟨w.heap.size, k, none⟩ = some v :=
 cell_of_heap (heap_alloc_new w _) h
theorem new_leaf {Z : World} {xs : List Int} {a1 a2 : Option Addr} {c1 c2 m : Nat} (h1 : Ints Z a1 c1 xs) (h2 : Ints Z a2 c2 xs) (f1 : intT Z a1) (f2 : intT Z a2)
  (hm : Z.heap[m]? = some (.map #[] 0)) : LD (Z.alloc (.cells (rowLg (newL xs) a1 c1 a2 c2 m).toArray 64)) Z.heap.size m (newL xs) := by
 have x : Ext Non Z (Z.alloc (.cells (rowLg (newL xs) a1 c1 a2 c2 m).toArray 64)) := (Ext.refl _ _).alloc _
 have hml : m < Z.heap.size := (Array.getElem?_eq_some_iff.1 hm).1
 exact ⟨⟨a1, c1, a2, c2, heap_alloc_new _ _, h1.extN x, h2.extN x, f1.ext x (NoInts.non _), f2.ext x (NoInts.non _)⟩, ⟨#[], 0, (x.block m hml id).trans hm, Go.MapKept.stamped_empty 0, rfl⟩⟩
set_option maxHeartbeats 400000 in
theorem ledger_New_ok (a : Option Addr) (cap : Nat) (xs : List Int) (hm : membersB xs = true) (w : World) (h : Ints w a cap xs) : Calls Tryz.prog 6 #[.agg #[.int .i64 0, .slice a xs.length cap]] w fun e w' =>
    ∃ b m, e = .returned (.tuple #[.pointer (some ⟨b, 0, none⟩), .int .i64 0]) ∧ Ext Non w w' ∧ LD w' b m (newL xs) ∧ w.heap.size ≤ b ∧ w.heap.size ≤ m := by
  have HH := hI_ h; clear h
  have hc : confB 0 xs = true := by unfold confB; rw [hm]; rfl
  have HC := hI_ hc
  have hx10 := (members_facts hm).2.2.2
  clear hc hm
  have hmm := @run_makeMap Tryz.prog
  go_enter Tryz.func6, Tryz.ntmps6
  go_wp2_with fail
  refine (council_Right _ _ _ _ _ (HH.out.extN ((Ext.refl _ _).alloc _))).mono ?_
  rintro e w1 ⟨rfl, y⟩
  rw [HC.out]
  have q0 : w1.cell? ⟨w.heap.size, 0, none⟩ = some (.int .i64 0) := (y.cell (p := ⟨w.heap.size, 0, none⟩) (by simp) id).trans (cell_new w [.int .i64 0, .slice a xs.length cap] _ rfl)
  have q1 : w1.cell? ⟨w.heap.size, 1, none⟩ = some (.slice a xs.length cap) := (y.cell (p := ⟨w.heap.size, 1, none⟩) (by simp) id).trans (cell_new w [.int .i64 0, .slice a xs.length cap] _ rfl)
  have Y := hI_ (((Ext.refl Non w).alloc (.cells #[.int .i64 0, .slice a xs.length cap] 24)).trans y)
  clear y
  have Y0 := Ext.refl Non w1
  go_wp2_with fail
  have hb8 : xs.length * 8 ≤ 140737488355328 := by omega
  have HB := hI_ hb8; clear hb8
  have ks : ∀ w' : World, Ext Non w1 w' → w'.cell? ⟨w.heap.size, 0, none⟩ = some (.int .i64 0) ∧ w'.cell? ⟨w.heap.size, 1, none⟩ = some (.slice a xs.length cap) := fun w' X =>
    ⟨(X.cell (p := ⟨w.heap.size, 0, none⟩) (lt_of_cell q0) id).trans q0, (X.cell (p := ⟨w.heap.size, 1, none⟩) (lt_of_cell q1) id).trans q1⟩
  have KS := hI_ ks; clear ks
  go_region_held3 (fun w' => w'.cell? ⟨w.heap.size, 0, none⟩ = some (.int .i64 0) ∧ w'.cell? ⟨w.heap.size, 1, none⟩ = some (.slice a xs.length cap))
    (first | exact KS.out _ (by (first | exact X2 | exact Ext.drew X2 | exact Ext.alloc X2 _ | exact Ext.alloc (Ext.drew X2) _ | exact Ext.drew (Ext.alloc X2 _) | exact Ext.alloc (Ext.alloc X2 _) _ | exact Ext.alloc (Ext.alloc (Ext.drew X2) _) _ | exact Ext.alloc (Ext.drew (Ext.alloc X2 _)) _ | exact Ext.drew (Ext.alloc (Ext.alloc X2 _) _))) | exact KS.out _ (by (first | exact X1 | exact Ext.drew X1 | exact Ext.alloc X1 _ | exact Ext.alloc (Ext.drew X1) _ | exact Ext.drew (Ext.alloc X1 _) | exact Ext.alloc (Ext.alloc X1 _) _ | exact Ext.alloc (Ext.alloc (Ext.drew X1) _) _ | exact Ext.alloc (Ext.drew (Ext.alloc X1 _)) _ | exact Ext.drew (Ext.alloc (Ext.alloc X1 _) _))) | exact KS.out _ (by (first | exact Y0 | exact Ext.drew Y0 | exact Ext.alloc Y0 _ | exact Ext.alloc (Ext.drew Y0) _ | exact Ext.drew (Ext.alloc Y0 _) | exact Ext.alloc (Ext.alloc Y0 _) _ | exact Ext.alloc (Ext.alloc (Ext.drew Y0) _) _ | exact Ext.alloc (Ext.drew (Ext.alloc Y0 _)) _ | exact Ext.drew (Ext.alloc (Ext.alloc Y0 _) _))))
    (first
    | (have := hI1
       go_at_call 17
       refine Calls.mono (slices_Clone a cap xs HB.out _ (HH.out.extN (Y.out.trans (by (first | exact X1 | exact Ext.drew X1 | exact Ext.alloc X1 _ | exact Ext.alloc (Ext.drew X1) _ | exact Ext.drew (Ext.alloc X1 _) | exact Ext.alloc (Ext.alloc X1 _) _ | exact Ext.alloc (Ext.alloc (Ext.drew X1) _) _ | exact Ext.alloc (Ext.drew (Ext.alloc X1 _)) _ | exact Ext.drew (Ext.alloc (Ext.alloc X1 _) _)))))) ?_
       rintro e w3 ⟨a2, cp2, rfl, x2, hI2, hf2⟩
       have X2 : Ext Non w1 w3 := (by (first | exact X1 | exact Ext.drew X1 | exact Ext.alloc X1 _ | exact Ext.alloc (Ext.drew X1) _ | exact Ext.drew (Ext.alloc X1 _) | exact Ext.alloc (Ext.alloc X1 _) _ | exact Ext.alloc (Ext.alloc (Ext.drew X1) _) _ | exact Ext.alloc (Ext.drew (Ext.alloc X1 _)) _ | exact Ext.drew (Ext.alloc (Ext.alloc X1 _) _)) : Ext Non w1 _).trans x2)
    | (go_at_call 17
       refine Calls.mono (slices_Clone a cap xs HB.out _ (HH.out.extN (Y.out.trans (by (first | exact Y0 | exact Ext.drew Y0 | exact Ext.alloc Y0 _ | exact Ext.alloc (Ext.drew Y0) _ | exact Ext.drew (Ext.alloc Y0 _) | exact Ext.alloc (Ext.alloc Y0 _) _ | exact Ext.alloc (Ext.alloc (Ext.drew Y0) _) _ | exact Ext.alloc (Ext.drew (Ext.alloc Y0 _)) _ | exact Ext.drew (Ext.alloc (Ext.alloc Y0 _) _)))))) ?_
       rintro e w2 ⟨a1, cp1, rfl, x1, hI1, hf1⟩
       have X1 : Ext Non w1 w2 := (by (first | exact Y0 | exact Ext.drew Y0 | exact Ext.alloc Y0 _ | exact Ext.alloc (Ext.drew Y0) _ | exact Ext.drew (Ext.alloc Y0 _) | exact Ext.alloc (Ext.alloc Y0 _) _ | exact Ext.alloc (Ext.alloc (Ext.drew Y0) _) _ | exact Ext.alloc (Ext.drew (Ext.alloc Y0 _)) _ | exact Ext.drew (Ext.alloc (Ext.alloc Y0 _) _)) : Ext Non w1 _).trans x1))
  · clear HH HC KS hmm q0 q1
    go_wp2
    go_returns
    have e : (w3.alloc (.map #[] 0)).heap.size = w3.heap.size + 1 := by simp
    have L := new_leaf (Z := w3.alloc (.map #[] 0)) (hI1.extN (x2.alloc _)) (hI2.extN ((Ext.refl _ _).alloc _)) (hf1.typed.ext (x2.alloc _) (NoInts.non _)) (hf2.typed.ext ((Ext.refl _ _).alloc _) (NoInts.non _)) (heap_alloc_new _ _)
    rw [e] at L
    refine ⟨w3.heap.size + 1, w3.heap.size, rfl, ((Y.out.trans X2).alloc _).alloc _, L, ?_, ?_⟩
    · have := (Y.out.trans X2).size; omega
    · exact (Y.out.trans X2).size
  · clear HH HC KS hmm q0 q1
    go_wp2
    go_returns
    have hm : w3.heap[w2.heap.size]? = some (.map #[] 0) := (x2.block w2.heap.size (by simp) id).trans (heap_alloc_new _ _)
    have xa : Ext Non w2 w3 := ((Ext.refl _ _).alloc _).trans x2
    refine ⟨w3.heap.size, w2.heap.size, rfl, (Y.out.trans X2).alloc _, ?_, ?_, ?_⟩
    · exact new_leaf (Z := w3) (hI1.extN xa) hI2 (hf1.typed.ext xa (NoInts.non _)) hf2.typed hm
    · exact (Y.out.trans X2).size
    · exact (Y.out.trans X1).size
  · clear HH HC KS hmm q0 q1
    go_wp2
    go_returns
    have hm1 : w2.heap[w1.heap.size]? = some (.map #[] 0) := (x1.block w1.heap.size (by simp) id).trans (heap_alloc_new _ _)
    have hl1 : w1.heap.size < w2.heap.size := (Array.getElem?_eq_some_iff.1 hm1).1
    have hm : w3.heap[w1.heap.size]? = some (.map #[] 0) := (x2.block w1.heap.size hl1 id).trans hm1
    refine ⟨w3.heap.size, w1.heap.size, rfl, (Y.out.trans X2).alloc _, ?_, ?_, ?_⟩
    · exact new_leaf (Z := w3) (hI1.extN x2) hI2 (hf1.typed.ext x2 (NoInts.non _)) hf2.typed hm
    · exact (Y.out.trans X2).size
    · exact Y.out.size
end Go.Proofs.YtfefeepljbfcdaaGreat

/- Contracts of layer 12 (ledger): what is asked of a ledger; Turn. -/
namespace Go.Proofs.YtfefeepljbfcdaaGreat
open Go.RowKit F64
set_option linter.unusedSimpArgs false
set_option linter.unusedVariables false
attribute [local go_sem] run_store_float
abbrev LRow (w : World) (b m : Nat) (g : Lg) (a1 : Option Addr) (c1 : Nat) (a2 : Option Addr) (c2 : Nat) : Prop :=
 w.heap[b]? = some (.cells (rowLg g a1 c1 a2 c2 m).toArray 64 (0, 0))
theorem cl_at (g : Lg) (a1 : Option Addr) (c1 : Nat) (a2 : Option Addr) (c2 m : Nat) {i : Nat} (hi : i < 8) :
  (rowLg g a1 c1 a2 c2 m)[5 + i * 3]? = some (.int .i64 (g.cl i).stamp) ∧ (rowLg g a1 c1 a2 c2 m)[5 + i * 3 + 1]? = some (.int .i64 (g.cl i).code) ∧ (rowLg g a1 c1 a2 c2 m)[5 + i * 3 + 2]? = some (.float .f64 (g.cl i).real) := by
 have : i = 0 ∨ i = 1 ∨ i = 2 ∨ i = 3 ∨ i = 4 ∨ i = 5 ∨ i = 6 ∨ i = 7 := by omega
 rcases this with rfl | rfl | rfl | rfl | rfl | rfl | rfl | rfl <;> exact ⟨rfl, rfl, rfl⟩
theorem cl_set (g : Lg) (a1 : Option Addr) (c1 : Nat) (a2 : Option Addr) (c2 m : Nat) {i : Nat} (hi : i < 8) (c : Cl) :
  (((rowLg g a1 c1 a2 c2 m).set (5 + i * 3) (.int .i64 c.stamp)).set (5 + i * 3 + 1) (.int .i64 c.code)).set (5 + i * 3 + 2) (.float .f64 c.real) = rowLg (setCl g i c) a1 c1 a2 c2 m := by
 have : i = 0 ∨ i = 1 ∨ i = 2 ∨ i = 3 ∨ i = 4 ∨ i = 5 ∨ i = 6 ∨ i = 7 := by omega
 rcases this with rfl | rfl | rfl | rfl | rfl | rfl | rfl | rfl <;> rfl
theorem LD.set {w w' : World} {b m : Nat} {g g' : Lg} (h : LD w b m g) (x : Ext (One b) w w') {a1 : Option Addr} {c1 : Nat} {a2 : Option Addr} {c2 : Nat} (r : LRow w' b m g' a1 c1 a2 c2)
  (i1 : Ints w a1 c1 g'.mem) (i2 : Ints w a2 c2 g'.next) (f1 : intT w a1) (f2 : intT w a2) (hk : g'.keys = g.keys) : LD w' b m g' := by
 have ns : NoInts (One b) w := fun k s => h.noInts k (.inl s)
 refine ⟨⟨a1, c1, a2, c2, r, i1.extT f1 x ns, i2.extT f2 x ns, f1.ext x ns, f2.ext x ns⟩, ?_⟩
 rw [hk]
 exact h.mp.ext x (fun s => h.ne s.symm)
theorem ledger_Full (b m : Nat) (g : Lg) (I : Inv g) (w : World) (h : LD w b m g) : Calls Tryz.prog 27 #[.pointer (some ⟨b, 0, none⟩)] w fun e w' => e = .returned (.bool (fullB g)) ∧ ∃ n, w' = w.drewN n := by
 obtain ⟨a1, c1, a2, c2, r, _⟩ := h.ex
 have q0 : w.cell? ⟨b, 0, none⟩ = some (.int .i64 g.epoch) := cell_of_heap r rfl
 have q3 : w.cell? ⟨b, 3, none⟩ = some (.int .i64 g.done) := cell_of_heap r rfl
 have HF := hI_ (show fullB g = decide (g.done = (g.epoch + 1) * 4) from rfl)
 have he := I.ep
 have w1 : IntKind.i64.wrap (g.epoch + 1) = g.epoch + 1 := IntWalk.i64_in _ (by omega)
 have w2 : IntKind.i64.wrap ((g.epoch + 1) * 4) = (g.epoch + 1) * 4 := IntWalk.i64_in _ (by omega)
 clear r he I h
 go_enter Tryz.func27, Tryz.ntmps27
 go_wp2_with fail
 go_quiet (fail)
 go_wp2
 go_ret
 exact ⟨ret_bool (by rw [HF.out]; rfl), _, rfl⟩
theorem ledger_Done (b m : Nat) (g : Lg) (w : World) (h : LD w b m g) : Calls Tryz.prog 15 #[.pointer (some ⟨b, 0, none⟩)] w fun e w' => e = .returned (.int .i64 g.done) ∧ w = w' := by
 obtain ⟨a1, c1, a2, c2, r, _⟩ := h.ex
 have q3 : w.cell? ⟨b, 3, none⟩ = some (.int .i64 g.done) := cell_of_heap r rfl
 clear r h
 go_enter Tryz.func15, Tryz.ntmps15
 go_wp2
 go_ret
 exact ⟨rfl, rfl⟩
theorem ledger_Next (b m : Nat) (g : Lg) (I : Inv g) (w : World) (h : LD w b m g) : Calls Tryz.prog 14 #[.pointer (some ⟨b, 0, none⟩)] w fun e w' =>
  ∃ a cap, e = .returned (.slice a g.next.length cap) ∧ Ext Non w w' ∧ Ints w' a cap g.next ∧ fresh w.heap.size w' a := by
 obtain ⟨a1, c1, a2, c2, r, i1, i2, _⟩ := h.ex
 have q2 : w.cell? ⟨b, 2, none⟩ = some (.slice a2 g.next.length c2) := cell_of_heap r rfl
 have I2 := hI_ i2
 have h10 := (members_facts I.mn).2.2.2
 have HB := hI_ (show g.next.length * 8 ≤ 140737488355328 by omega)
 clear r h i1 i2 I h10
 go_enter Tryz.func14, Tryz.ntmps14
 go_wp2_with (go_at_call 17; refine (slices_Clone _ _ _ HB.out _ I2.out).mono ?_; rintro e w1 ⟨a, cap, rfl, x, i, f⟩)
 go_returns
 exact ⟨a, cap, rfl, x, i, f⟩
theorem ledger_Conf (b m : Nat) (g : Lg) (I : Inv g) (w : World) (h : LD w b m g) : Calls Tryz.prog 25 #[.pointer (some ⟨b, 0, none⟩)] w fun e w' =>
    ∃ a cap, e = .returned (.agg #[.int .i64 g.epoch, .slice a g.mem.length cap]) ∧ Ext Non w w' ∧ Ints w' a cap g.mem ∧ fresh w.heap.size w' a := by
  obtain ⟨a1, c1, a2, c2, r, i1, i2, _⟩ := h.ex
  have q0 : w.cell? ⟨b, 0, none⟩ = some (.int .i64 g.epoch) := cell_of_heap r rfl
  have q1 : w.cell? ⟨b, 1, none⟩ = some (.slice a1 g.mem.length c1) := cell_of_heap r rfl
  have I1 := hI_ i1
  have h10 := (members_facts I.mm).2.2.2
  have HB := hI_ (show g.mem.length * 8 ≤ 140737488355328 by omega)
  have hlt := h.lt
  clear r h i1 i2 I h10
  go_enter Tryz.func25, Tryz.ntmps25
  go_wp2_with fail
  have hz : ∀ w', Ext Non (w.alloc (.cells #[.int .i64 0, .slice none 0 0] 24)) w' → w'.cell? ⟨w.heap.size, 0, none⟩ = some (.int .i64 0) ∧ w'.cell? ⟨w.heap.size, 1, none⟩ = some (.slice none 0 0) ∧ w'.frozen? ⟨w.heap.size, 0, none⟩ = false ∧ w'.frozen? ⟨w.heap.size, 1, none⟩ = false := by
    intro w' x
    have hn := heap_alloc_new w (.cells #[.int .i64 0, .slice none 0 0] 24)
    have hx := (x.block w.heap.size (by simp) id).trans hn
    exact ⟨cell_of_heap (cur := [.int .i64 0, .slice none 0 0]) hx rfl, cell_of_heap (cur := [.int .i64 0, .slice none 0 0]) hx rfl, froz_of_heap (cur := [.int .i64 0, .slice none 0 0]) hx, froz_of_heap (cur := [.int .i64 0, .slice none 0 0]) hx⟩
  have hk : ∀ w', Ext Non w w' → w'.cell? ⟨b, 0, none⟩ = some (.int .i64 g.epoch) ∧ w'.cell? ⟨b, 1, none⟩ = some (.slice a1 g.mem.length c1) := fun w' x =>
    ⟨(x.cell (p := ⟨b, 0, none⟩) hlt id).trans q0, (x.cell (p := ⟨b, 1, none⟩) hlt id).trans q1⟩
  have HZ := hI_ hz; clear hz
  have HK := hI_ hk; clear hk
  have Z0 := Ext.refl Non (w.alloc (.cells #[.int .i64 0, .slice none 0 0] 24))
  have AL : Ext Non w (w.alloc (.cells #[.int .i64 0, .slice none 0 0] 24)) := (Ext.refl Non w).alloc _
  go_region_held3 (fun w' => w'.cell? ⟨b, 0, none⟩ = some (.int .i64 g.epoch) ∧ w'.cell? ⟨b, 1, none⟩ = some (.slice a1 g.mem.length c1))
    (first | exact HK.out _ (((Y1.setCell (.inr (Nat.le_refl _)) _)).setCell (.inr (Nat.le_refl _)) _) | exact HK.out _ (by (first | exact Y1 | exact Ext.drew Y1 | exact Ext.alloc Y1 _ | exact Ext.alloc (Ext.drew Y1) _ | exact Ext.drew (Ext.alloc Y1 _) | exact Ext.alloc (Ext.alloc Y1 _) _ | exact Ext.alloc (Ext.alloc (Ext.drew Y1) _) _ | exact Ext.alloc (Ext.drew (Ext.alloc Y1 _)) _ | exact Ext.drew (Ext.alloc (Ext.alloc Y1 _) _))) | exact HK.out _ (by (first | exact AL | exact Ext.drew AL | exact Ext.alloc AL _ | exact Ext.alloc (Ext.drew AL) _ | exact Ext.drew (Ext.alloc AL _) | exact Ext.alloc (Ext.alloc AL _) _ | exact Ext.alloc (Ext.alloc (Ext.drew AL) _) _ | exact Ext.alloc (Ext.drew (Ext.alloc AL _)) _ | exact Ext.drew (Ext.alloc (Ext.alloc AL _) _))))
    (first
    | (go_at_call 17
       refine Calls.mono (slices_Clone _ _ _ HB.out _ (I1.out.extN (by (first | exact AL | exact Ext.drew AL | exact Ext.alloc AL _ | exact Ext.alloc (Ext.drew AL) _ | exact Ext.drew (Ext.alloc AL _) | exact Ext.alloc (Ext.alloc AL _) _ | exact Ext.alloc (Ext.alloc (Ext.drew AL) _) _ | exact Ext.alloc (Ext.drew (Ext.alloc AL _)) _ | exact Ext.drew (Ext.alloc (Ext.alloc AL _) _))))) ?_
       rintro e w2 ⟨a, cp, rfl, x1, hI1, hf1⟩
       have Z1 : Ext Non (w.alloc (.cells #[.int .i64 0, .slice none 0 0] 24)) w2 := (by (first | exact Z0 | exact Ext.drew Z0 | exact Ext.alloc Z0 _ | exact Ext.alloc (Ext.drew Z0) _ | exact Ext.drew (Ext.alloc Z0 _) | exact Ext.alloc (Ext.alloc Z0 _) _ | exact Ext.alloc (Ext.alloc (Ext.drew Z0) _) _ | exact Ext.alloc (Ext.drew (Ext.alloc Z0 _)) _ | exact Ext.drew (Ext.alloc (Ext.alloc Z0 _) _)) : Ext Non _ _).trans x1
       have Y1 : Ext Non w w2 := AL.trans Z1
       obtain ⟨z1, z2, z3, z4⟩ := HZ.out _ Z1))
  have y00 : (w2.setCell ⟨w.heap.size, 0, none⟩ (.int .i64 g.epoch)).cell? ⟨w.heap.size, 0, none⟩ = some (.int .i64 g.epoch) := World.cell?_setCell_same _ _ _ z1
  have y0 : ((w2.setCell ⟨w.heap.size, 0, none⟩ (.int .i64 g.epoch)).setCell ⟨w.heap.size, 1, none⟩ (.slice a g.mem.length cp)).cell? ⟨w.heap.size, 0, none⟩ = some (.int .i64 g.epoch) :=
    (World.cell?_setCell_other _ _ _ _ (by simp)).trans (World.cell?_setCell_same _ _ _ z1)
  have y1 : ((w2.setCell ⟨w.heap.size, 0, none⟩ (.int .i64 g.epoch)).setCell ⟨w.heap.size, 1, none⟩ (.slice a g.mem.length cp)).cell? ⟨w.heap.size, 1, none⟩ = some (.slice a g.mem.length cp) :=
    World.cell?_setCell_same _ _ _ ((World.cell?_setCell_other _ _ _ _ (by simp)).trans z2)
  rename_i hHeld
  clear hHeld q0 q1
  go_wp2
  refine bodyPost_ret (by simp [results, Tryz.results25, go_sem, y0, y00, y1]; try rfl) rfl ?_
  have Y2 := (Y1.setCell (p := ⟨w.heap.size, 0, none⟩) (.inr (Nat.le_refl _)) (.int .i64 g.epoch)).setCell (p := ⟨w.heap.size, 1, none⟩) (.inr (Nat.le_refl _)) (.slice a g.mem.length cp)
  have Y3 : Ext (One w.heap.size) w2 _ := (((Ext.refl (One w.heap.size) w2).setCell (p := ⟨w.heap.size, 0, none⟩) (.inl rfl) (.int .i64 g.epoch)).setCell (p := ⟨w.heap.size, 1, none⟩) (.inl rfl) (.slice a g.mem.length cp))
  have nr : NoInts (One w.heap.size) w2 := by
    intro k s vs fr e
    have s : k = w.heap.size := s
    subst s
    rw [(Z1.block w.heap.size (by simp) id).trans (heap_alloc_new w _)] at e
    cases e
  exact ⟨a, cp, rfl, Y2, hI1.extT hf1.typed Y3 nr, fun k o e => by have := (hf1 k o e).1; exact ⟨by simp at this; omega, hf1.typed.ext Y3 nr k o e⟩⟩
theorem zeroF (w : World) : (zeroValue 46).run Tryz.prog w = .ok (.float .f64 0) w := by kernel_rfl
theorem ledger_Get (b m : Nat) (g : Lg) (k : ByteArray) (w : World) (h : LD w b m g) : Calls Tryz.prog 30 #[.pointer (some ⟨b, 0, none⟩), .string k] w fun e w' =>
  e = .returned (.tuple #[.float .f64 (valK g.keys k), .bool (hasK g.keys k)]) ∧ w = w' := by
 obtain ⟨a1, c1, a2, c2, r, _⟩ := h.ex
 have q4 : w.cell? ⟨b, 4, none⟩ = some (.map (some m)) := cell_of_heap r rfl
 have hl := h.mp.lookup Tryz.underlying59 Tryz.underlying9 (zeroF w) k
 clear r h
 generalize valK g.keys k = x at *
 generalize hasK g.keys k = y at *
 go_enter Tryz.func30, Tryz.ntmps30
 go_wp2
 go_returns
 exact ⟨rfl, rfl⟩
theorem ledger_Last (b m : Nat) (g : Lg) (c : Int) (i : Nat) (hc : c = i + 1) (hi : i < 8) (w : World) (h : LD w b m g) : Calls Tryz.prog 32 #[.pointer (some ⟨b, 0, none⟩), .int .i64 c] w fun e w' =>
  e = .returned (.tuple #[.int .i64 (g.cl i).stamp, .agg #[.int .i64 (g.cl i).code, .float .f64 (g.cl i).real]]) ∧ Ext Non w w' := by
 obtain ⟨a1, c1, a2, c2, r, _⟩ := h.ex
 obtain ⟨r0, r1, r2⟩ := cl_at g a1 c1 a2 c2 m hi
 have q0 : w.cell? ⟨b, 5 + i * 3, none⟩ = some (.int .i64 (g.cl i).stamp) := cell_of_heap r r0
 have q1 : w.cell? ⟨b, 5 + i * 3 + 1, none⟩ = some (.int .i64 (g.cl i).code) := cell_of_heap r r1
 have q2 : w.cell? ⟨b, 5 + i * 3 + 2, none⟩ = some (.float .f64 (g.cl i).real) := cell_of_heap r r2
 have hlt := h.lt
 clear r h r0 r1 r2
 subst hc
 have wr : IntKind.i64.wrap ((i : Int) + 1 - 1) = (i : Int) := by rw [show (i : Int) + 1 - 1 = i from by omega]; exact IntWalk.i64_in _ (by omega)
 go_enter Tryz.func32, Tryz.ntmps32
 go_wp2
 go_region
 all_goals go_wp2
 all_goals refine bodyPost_ret (by simp [results, Tryz.results32, go_sem]; try rfl) rfl ?_
 all_goals exact ⟨rfl, (((Ext.refl _ _).alloc _).alloc _).drew⟩
theorem ledger_Last_no (v : Option Addr) (c : Int) (hc : v = none ∨ c < 1 ∨ 8 < c) (w : World) : Calls Tryz.prog 32 #[.pointer v, .int .i64 c] w fun e w' =>
  e = .returned (.tuple #[.int .i64 0, .agg #[.int .i64 0, .float .f64 0]]) ∧ Ext Non w w' := by
 have q : ∀ b : Addr, (c < 1 ∨ 8 < c) → Calls Tryz.prog 32 #[.pointer (some b), .int .i64 c] w fun e w' =>
   e = .returned (.tuple #[.int .i64 0, .agg #[.int .i64 0, .float .f64 0]]) ∧ Ext Non w w' := by
  intro b h
  rcases h with h | h
  ·go_enter Tryz.func32, Tryz.ntmps32
   go_wp2
   refine bodyPost_ret (by simp [results, Tryz.results32, go_sem]; try rfl) rfl ?_
   exact ⟨rfl, (Ext.refl _ _).alloc _⟩
  ·have h1 : ¬ c < 1 := by omega
   go_enter Tryz.func32, Tryz.ntmps32
   go_wp2
   refine bodyPost_ret (by simp [results, Tryz.results32, go_sem]; try rfl) rfl ?_
   exact ⟨rfl, (Ext.refl _ _).alloc _⟩
 cases v with
 | some b => exact q b (hc.resolve_left (fun h => by cases h))
 | none =>
  clear q hc
  go_enter Tryz.func32, Tryz.ntmps32
  go_wp2
  refine bodyPost_ret (by simp [results, Tryz.results32, go_sem]; try rfl) rfl ?_
  exact ⟨rfl, (Ext.refl _ _).alloc _⟩
theorem ledger_Turn (b m : Nat) (g : Lg) (I : Inv g) (w : World) (h : LD w b m g) : Calls Tryz.prog 19 #[.pointer (some ⟨b, 0, none⟩)] w fun e w' =>
  e = .returned (.int .i64 (turnE g)) ∧ Ext (One b) w w' ∧ LD w' b m (turnL g) := by
 have HH := hI_ h
 have II := hI_ I
 cases hf : fullB g
 ·have HF := hI_ hf
  have HE := hI_ (show turnE g = 18 by unfold turnE; rw [hf]; rfl)
  have HL := hI_ (show turnL g = g by unfold turnL; rw [HE.out]; rfl)
  clear h I hf
  go_enter Tryz.func19, Tryz.ntmps19
  go_wp2_with fail
  refine (ledger_Full b m g II.out _ HH.out).mono ?_
  rintro e w1 ⟨rfl, n, rfl⟩
  rw [HF.out]
  go_wp2
  go_returns
  exact ⟨by rw [HE.out]; rfl, (Ext.refl _ _).drewN n, by rw [HL.out]; exact HH.out.extN ((Ext.refl _ _).drewN n)⟩
 ·have HF := hI_ hf
  obtain ⟨a1, c1, a2, c2, r, i1, i2, f1, f2⟩ := h.ex
  have q0 : ∀ n, (w.drewN n).cell? ⟨b, 0, none⟩ = some (.int .i64 g.epoch) := fun n => cell_of_heap r rfl
  by_cases h60 : g.epoch = 60
  ·have HE := hI_ (show turnE g = 3 by unfold turnE; rw [hf, if_neg (by simp), if_pos h60])
   have HL := hI_ (show turnL g = g by unfold turnL; rw [HE.out]; rfl)
   rw [h60] at q0
   clear h I hf r i1 i2 f1 f2 h60
   go_enter Tryz.func19, Tryz.ntmps19
   go_wp2_with fail
   refine (ledger_Full b m g II.out _ HH.out).mono ?_
   rintro e w1 ⟨rfl, n, rfl⟩
   rw [HF.out]
   have q := q0 n; clear q0
   go_wp2
   go_returns
   exact ⟨by rw [HE.out]; rfl, (Ext.refl _ _).drewN n, by rw [HL.out]; exact HH.out.extN ((Ext.refl _ _).drewN n)⟩
  ·have HE := hI_ (show turnE g = 0 by unfold turnE; rw [hf, if_neg (by simp), if_neg h60])
   have HL := hI_ (show turnL g = ⟨g.epoch + 1, g.next, g.next, g.done, g.keys, g.cl⟩ by unfold turnL; rw [HE.out]; rfl)
   have he := I.ep
   have h10 := (members_facts I.mn).2.2.2
   have HB := hI_ (show g.next.length * 8 ≤ 140737488355328 by omega)
   have hne : g.next ≠ [] := by intro e; have := (members_facts I.mn).2.2.1; rw [e] at this; simp at this
   have wr : IntKind.i64.wrap (g.epoch + 1) = g.epoch + 1 := IntWalk.i64_in _ (by omega)
   have t60 : (g.epoch == 60) = false := by rw [beq_eq_false_iff_ne]; exact h60
   have hr : ∀ n, ((w.drewN n).setCell ⟨b, 0, none⟩ (.int .i64 (g.epoch + 1))).heap[b]? = some (.cells ((rowLg g a1 c1 a2 c2 m).set 0 (.int .i64 (g.epoch + 1))).toArray 64 (0, 0)) := fun n => heap_set_same (w := w.drewN n) r _
   have z0 : ∀ n, (w.drewN n).frozen? ⟨b, 0, none⟩ = false := fun n => froz_of_heap r
   have X : ∀ n, Ext (One b) w ((w.drewN n).setCell ⟨b, 0, none⟩ (.int .i64 (g.epoch + 1))) := fun n => ((Ext.refl _ _).drewN n).set1 _
   have HX := hI_ X; have HR := hI_ hr
   have hm4 : m < w.heap.size := HH.out.mp.lt
   have hbl := h.lt
   have i2' : ∀ n, Ints ((w.drewN n).setCell ⟨b, 0, none⟩ (.int .i64 (g.epoch + 1))) a2 c2 g.next := fun n => i2.extT f2 (X n) (fun k s => h.noInts k (.inl s))
   have I2 := hI_ i2'
   have T2 := hI_ f2
   clear h I hf r i1 i2 i2' f1 f2 he h10 X hr h60
   go_enter Tryz.func19, Tryz.ntmps19
   go_wp2_with fail
   refine (ledger_Full b m g II.out _ HH.out).mono ?_
   rintro e w1 ⟨rfl, n, rfl⟩
   rw [HF.out]
   have q := q0 n; have z := z0 n; clear q0 z0
   have q2 : ((w.drewN n).setCell ⟨b, 0, none⟩ (.int .i64 (g.epoch + 1))).cell? ⟨b, 2, none⟩ = some (.slice a2 g.next.length c2) := cell_of_heap (HR.out n) rfl
   go_wp2_with fail
   refine (slices_Clone _ _ _ HB.out _ (I2.out n)).mono ?_
   rintro e w2 ⟨a, cp, rfl, x, hI, hfr⟩
   have hsz : b < ((w.drewN n).setCell ⟨b, 0, none⟩ (.int .i64 (g.epoch + 1))).heap.size := by simpa using hbl
   have r2 : w2.heap[b]? = some (.cells ((rowLg g a1 c1 a2 c2 m).set 0 (.int .i64 (g.epoch + 1))).toArray 64 (0, 0)) := (x.block b hsz id).trans (HR.out n)
   have p1 : w2.cell? ⟨b, 1, none⟩ = some (.slice a1 g.mem.length c1) := cell_of_heap r2 rfl
   have p2 : w2.frozen? ⟨b, 1, none⟩ = false := froz_of_heap r2
   have R2 := hI_ r2; clear r2
   go_wp2
   go_returns
   have r3 := heap_set_same (k := 1) R2.out (.slice a g.next.length cp)
   have X2 : Ext (One b) w w2 := (HX.out n).step x (fun _ _ f => f.elim)
   have n2 : NoInts (One b) w2 := fun k s vs fr e => by
    have s : k = b := s
    subst s
    rw [R2.out] at e; cases e
   have x3 : Ext (One b) w2 (w2.setCell ⟨b, 1, none⟩ (.slice a g.next.length cp)) := (Ext.refl (One b) w2).set1 _
   have t2 : intT w2 a2 := (T2.out.ext (HX.out n) (fun k s => HH.out.noInts k (.inl s))).ext x (NoInts.non _)
   refine ⟨by rw [HE.out]; rfl, X2.set1 _, ?_⟩
   rw [HL.out]
   refine ⟨⟨a, cp, a2, c2, r3, hI.extT hfr.typed x3 n2, ((I2.out n).extN x).extT t2 x3 n2, hfr.typed.ext x3 n2, t2.ext x3 n2⟩, ?_⟩
   exact HH.out.mp.ext (X2.set1 _) (fun s => HH.out.ne s.symm)
end Go.Proofs.YtfefeepljbfcdaaGreat
