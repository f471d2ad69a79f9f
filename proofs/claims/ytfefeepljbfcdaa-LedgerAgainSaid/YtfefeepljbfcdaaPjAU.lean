/- Joined texts: Ledg2. What each proves stands at its head; no conditions beside those in its theorems. -/
import Derived.Test.YtfefeepljbfcdaaPjAA
import Derived.Test.YtfefeepljbfcdaaPjAB
import Derived.Test.YtfefeepljbfcdaaPjAE
import Derived.Test.YtfefeepljbfcdaaPjAI
import Derived.Test.YtfefeepljbfcdaaPjAF
import Derived.Test.YtfefeepljbfcdaaPjAJ
import Derived.Test.YtfefeepljbfcdaaPjAK
import Derived.Test.YtfefeepljbfcdaaPjAO
import Derived.Test.YtfefeepljbfcdaaPjAP
import Derived.Test.YtfefeepljbfcdaaPjAT
/- Contracts of layer 12 (ledger): what is asked of a ledger; Turn. -/
namespace Go.Proofs.Ytfefeepljbfcdaa
open Go.RowKit F64
set_option linter.unusedSimpArgs false
set_option linter.unusedVariables false

attribute [local go_sem] run_store_float

abbrev LRow (w : World) (b m : Nat) (g : Lg) (a1 : Option Addr) (c1 : Nat) (a2 : Option Addr) (c2 : Nat) : Prop :=
  w.heap[b]? = some (.cells (rowLg g a1 c1 a2 c2 m).toArray 81 (0, 0))
theorem cl_at (g : Lg) (a1 : Option Addr) (c1 : Nat) (a2 : Option Addr) (c2 m : Nat) {i : Nat} (hi : i < 8) :
    (rowLg g a1 c1 a2 c2 m)[5 + i * 3]? = some (.int .i64 (g.cl i).stamp) ∧ (rowLg g a1 c1 a2 c2 m)[5 + i * 3 + 1]? = some (.int .i64 (g.cl i).code) ∧ (rowLg g a1 c1 a2 c2 m)[5 + i * 3 + 2]? = some (.float .f64 (g.cl i).real) := by
  have : i = 0 ∨ i = 1 ∨ i = 2 ∨ i = 3 ∨ i = 4 ∨ i = 5 ∨ i = 6 ∨ i = 7 := by omega
  rcases this with rfl | rfl | rfl | rfl | rfl | rfl | rfl | rfl <;> exact ⟨rfl, rfl, rfl⟩
theorem cl_set (g : Lg) (a1 : Option Addr) (c1 : Nat) (a2 : Option Addr) (c2 m : Nat) {i : Nat} (hi : i < 8) (c : Cl) :
    (((rowLg g a1 c1 a2 c2 m).set (5 + i * 3) (.int .i64 c.stamp)).set (5 + i * 3 + 1) (.int .i64 c.code)).set (5 + i * 3 + 2) (.float .f64 c.real) = rowLg (setCl g i c) a1 c1 a2 c2 m := by
  have : i = 0 ∨ i = 1 ∨ i = 2 ∨ i = 3 ∨ i = 4 ∨ i = 5 ∨ i = 6 ∨ i = 7 := by omega
  rcases this with rfl | rfl | rfl | rfl | rfl | rfl | rfl | rfl <;> rfl
/-- A ledger in which a cell of its block was written, which makes it another one. -/
theorem LD.set {w w' : World} {b m : Nat} {g g' : Lg} (h : LD w b m g) (x : Ext (One b) w w') {a1 : Option Addr} {c1 : Nat} {a2 : Option Addr} {c2 : Nat} (r : LRow w' b m g' a1 c1 a2 c2)
    (i1 : Ints w a1 c1 g'.mem) (i2 : Ints w a2 c2 g'.next) (f1 : intT w a1) (f2 : intT w a2) (hk : g'.keys = g.keys) : LD w' b m g' := by
  have ns : NoInts (One b) w := fun k s => h.noInts k (.inl s)
  refine ⟨⟨a1, c1, a2, c2, r, i1.extT f1 x ns, i2.extT f2 x ns, f1.ext x ns, f2.ext x ns⟩, ?_⟩
  rw [hk]
  exact h.mp.ext x (fun s => h.ne s.symm)

theorem ledger_Full (b m : Nat) (g : Lg) (I : Inv g) (w : World) (h : LD w b m g) : Calls Try.prog 12 #[.pointer (some ⟨b, 0, none⟩)] w fun e w' => e = .returned (.bool (fullB g)) ∧ ∃ n, w' = w.drewN n := by
  obtain ⟨a1, c1, a2, c2, r, _⟩ := h.ex
  have q0 : w.cell? ⟨b, 0, none⟩ = some (.int .i64 g.epoch) := cell_of_heap r rfl
  have q3 : w.cell? ⟨b, 3, none⟩ = some (.int .i64 g.done) := cell_of_heap r rfl
  have HF := Go.Lib.hid (show fullB g = decide (g.done = (g.epoch + 1) * 4) from rfl)
  have he := I.ep
  have w1 : IntKind.i64.wrap (g.epoch + 1) = g.epoch + 1 := IntWalk.i64_in _ (by omega)
  have w2 : IntKind.i64.wrap ((g.epoch + 1) * 4) = (g.epoch + 1) * 4 := IntWalk.i64_in _ (by omega)
  clear r he I h
  go_enter Try.func12, Try.ntmps12
  go_wp2_with fail
  go_quiet (fail)
  go_wp2
  go_ret
  exact ⟨ret_bool (by rw [HF.out]; rfl), _, rfl⟩
theorem ledger_Done (b m : Nat) (g : Lg) (w : World) (h : LD w b m g) : Calls Try.prog 24 #[.pointer (some ⟨b, 0, none⟩)] w fun e w' => e = .returned (.int .i64 g.done) ∧ w = w' := by
  obtain ⟨a1, c1, a2, c2, r, _⟩ := h.ex
  have q3 : w.cell? ⟨b, 3, none⟩ = some (.int .i64 g.done) := cell_of_heap r rfl
  clear r h
  go_enter Try.func24, Try.ntmps24
  go_wp2
  go_ret
  exact ⟨rfl, rfl⟩
theorem ledger_Next (b m : Nat) (g : Lg) (I : Inv g) (w : World) (h : LD w b m g) : Calls Try.prog 11 #[.pointer (some ⟨b, 0, none⟩)] w fun e w' =>
    ∃ a cap, e = .returned (.slice a g.next.length cap) ∧ Ext Non w w' ∧ Ints w' a cap g.next ∧ fresh w.heap.size w' a := by
  obtain ⟨a1, c1, a2, c2, r, i1, i2, _⟩ := h.ex
  have q2 : w.cell? ⟨b, 2, none⟩ = some (.slice a2 g.next.length c2) := cell_of_heap r rfl
  have I2 := Go.Lib.hid i2
  have h10 := (members_facts I.mn).2.2.2
  have HB := Go.Lib.hid (show g.next.length * 8 ≤ 140737488355328 by omega)
  clear r h i1 i2 I h10
  go_enter Try.func11, Try.ntmps11
  go_wp2_with (go_at_call 30; refine (slices_Clone _ _ _ HB.out _ I2.out).mono ?_; rintro e w1 ⟨a, cap, rfl, x, i, f⟩)
  go_returns
  exact ⟨a, cap, rfl, x, i, f⟩
theorem ledger_Conf (b m : Nat) (g : Lg) (I : Inv g) (w : World) (h : LD w b m g) : Calls Try.prog 10 #[.pointer (some ⟨b, 0, none⟩)] w fun e w' =>
    ∃ a cap, e = .returned (.agg #[.int .i64 g.epoch, .slice a g.mem.length cap]) ∧ Ext Non w w' ∧ Ints w' a cap g.mem ∧ fresh w.heap.size w' a := by
  obtain ⟨a1, c1, a2, c2, r, i1, i2, _⟩ := h.ex
  have q0 : w.cell? ⟨b, 0, none⟩ = some (.int .i64 g.epoch) := cell_of_heap r rfl
  have q1 : w.cell? ⟨b, 1, none⟩ = some (.slice a1 g.mem.length c1) := cell_of_heap r rfl
  have I1 := Go.Lib.hid i1
  have h10 := (members_facts I.mm).2.2.2
  have HB := Go.Lib.hid (show g.mem.length * 8 ≤ 140737488355328 by omega)
  have hlt := h.lt
  clear r h i1 i2 I h10
  go_enter Try.func10, Try.ntmps10
  go_wp2_with fail
  have hz : ∀ w', Ext Non (w.alloc (.cells #[.int .i64 0, .slice none 0 0] 24)) w' → w'.cell? ⟨w.heap.size, 0, none⟩ = some (.int .i64 0) ∧ w'.cell? ⟨w.heap.size, 1, none⟩ = some (.slice none 0 0) ∧ w'.frozen? ⟨w.heap.size, 0, none⟩ = false ∧ w'.frozen? ⟨w.heap.size, 1, none⟩ = false := by
    intro w' x
    have hn := heap_alloc_new w (.cells #[.int .i64 0, .slice none 0 0] 24)
    have hx := (x.block w.heap.size (by simp) id).trans hn
    exact ⟨cell_of_heap (cur := [.int .i64 0, .slice none 0 0]) hx rfl, cell_of_heap (cur := [.int .i64 0, .slice none 0 0]) hx rfl, froz_of_heap (cur := [.int .i64 0, .slice none 0 0]) hx, froz_of_heap (cur := [.int .i64 0, .slice none 0 0]) hx⟩
  have hk : ∀ w', Ext Non w w' → w'.cell? ⟨b, 0, none⟩ = some (.int .i64 g.epoch) ∧ w'.cell? ⟨b, 1, none⟩ = some (.slice a1 g.mem.length c1) := fun w' x =>
    ⟨(x.cell (p := ⟨b, 0, none⟩) hlt id).trans q0, (x.cell (p := ⟨b, 1, none⟩) hlt id).trans q1⟩
  have HZ := Go.Lib.hid hz; clear hz
  have HK := Go.Lib.hid hk; clear hk
  have Z0 := Ext.refl Non (w.alloc (.cells #[.int .i64 0, .slice none 0 0] 24))
  have AL : Ext Non w (w.alloc (.cells #[.int .i64 0, .slice none 0 0] 24)) := (Ext.refl Non w).alloc _
  go_region_held3 (fun w' => w'.cell? ⟨b, 0, none⟩ = some (.int .i64 g.epoch) ∧ w'.cell? ⟨b, 1, none⟩ = some (.slice a1 g.mem.length c1))
    (first | exact HK.out _ (((Y1.setCell (.inr (Nat.le_refl _)) _)).setCell (.inr (Nat.le_refl _)) _) | exact HK.out _ (by (first | exact Y1 | exact Ext.drew Y1 | exact Ext.alloc Y1 _ | exact Ext.alloc (Ext.drew Y1) _ | exact Ext.drew (Ext.alloc Y1 _) | exact Ext.alloc (Ext.alloc Y1 _) _ | exact Ext.alloc (Ext.alloc (Ext.drew Y1) _) _ | exact Ext.alloc (Ext.drew (Ext.alloc Y1 _)) _ | exact Ext.drew (Ext.alloc (Ext.alloc Y1 _) _))) | exact HK.out _ (by (first | exact AL | exact Ext.drew AL | exact Ext.alloc AL _ | exact Ext.alloc (Ext.drew AL) _ | exact Ext.drew (Ext.alloc AL _) | exact Ext.alloc (Ext.alloc AL _) _ | exact Ext.alloc (Ext.alloc (Ext.drew AL) _) _ | exact Ext.alloc (Ext.drew (Ext.alloc AL _)) _ | exact Ext.drew (Ext.alloc (Ext.alloc AL _) _))))
    (first
    | (go_at_call 30
       refine Calls.mono (slices_Clone _ _ _ HB.out _ (I1.out.extN (by (first | exact AL | exact Ext.drew AL | exact Ext.alloc AL _ | exact Ext.alloc (Ext.drew AL) _ | exact Ext.drew (Ext.alloc AL _) | exact Ext.alloc (Ext.alloc AL _) _ | exact Ext.alloc (Ext.alloc (Ext.drew AL) _) _ | exact Ext.alloc (Ext.drew (Ext.alloc AL _)) _ | exact Ext.drew (Ext.alloc (Ext.alloc AL _) _))))) ?_
       rintro e w2 ⟨a, cp, rfl, x1, hI1, hf1⟩
       have Z1 : Ext Non (w.alloc (.cells #[.int .i64 0, .slice none 0 0] 24)) w2 := (by (first | exact Z0 | exact Ext.drew Z0 | exact Ext.alloc Z0 _ | exact Ext.alloc (Ext.drew Z0) _ | exact Ext.drew (Ext.alloc Z0 _) | exact Ext.alloc (Ext.alloc Z0 _) _ | exact Ext.alloc (Ext.alloc (Ext.drew Z0) _) _ | exact Ext.alloc (Ext.drew (Ext.alloc Z0 _)) _ | exact Ext.drew (Ext.alloc (Ext.alloc Z0 _) _)) : Ext Non _ _).trans x1
       have Y1 : Ext Non w w2 := AL.trans Z1
       obtain ⟨z1, z2, z3, z4⟩ := HZ.out _ Z1))
  have y00 : (w2.setCell ⟨w.heap.size, 0, none⟩ (.int .i64 g.epoch)).cell? ⟨w.heap.size, 0, none⟩ = some (.int .i64 g.epoch) := World.cell?_setCell_same _ _ _ z1
  have y0 : ((w2.setCell ⟨w.heap.size, 0, none⟩ (.int .i64 g.epoch)).setCell ⟨w.heap.size, 1, none⟩ (.slice a g.mem.length cp)).cell? ⟨w.heap.size, 0, none⟩ = some (.int .i64 g.epoch) :=
    (World.cell?_setCell_other _ _ _ _ (by simp)).trans (World.cell?_setCell_same _ _ _ z1)
  have y1 : ((w2.setCell ⟨w.heap.size, 0, none⟩ (.int .i64 g.epoch)).setCell ⟨w.heap.size, 1, none⟩ (.slice a g.mem.length cp)).cell? ⟨w.heap.size, 1, none⟩ = some (.slice a g.mem.length cp) :=
    World.cell?_setCell_same _ _ _ ((World.cell?_setCell_other _ _ _ _ (by simp)).trans z2)
  rename_i hHeld
  clear hHeld q0 q1
  go_wp2
  refine bodyPost_ret (by simp [results, Try.results10, go_sem, y0, y00, y1]; try rfl) rfl ?_
  have Y2 := (Y1.setCell (p := ⟨w.heap.size, 0, none⟩) (.inr (Nat.le_refl _)) (.int .i64 g.epoch)).setCell (p := ⟨w.heap.size, 1, none⟩) (.inr (Nat.le_refl _)) (.slice a g.mem.length cp)
  have Y3 : Ext (One w.heap.size) w2 _ := (((Ext.refl (One w.heap.size) w2).setCell (p := ⟨w.heap.size, 0, none⟩) (.inl rfl) (.int .i64 g.epoch)).setCell (p := ⟨w.heap.size, 1, none⟩) (.inl rfl) (.slice a g.mem.length cp))
  have nr : NoInts (One w.heap.size) w2 := by
    intro k s vs fr e
    have s : k = w.heap.size := s
    subst s
    rw [(Z1.block w.heap.size (by simp) id).trans (heap_alloc_new w _)] at e
    cases e
  exact ⟨a, cp, rfl, Y2, hI1.extT hf1.typed Y3 nr, fun k o e => by have := (hf1 k o e).1; exact ⟨by simp at this; omega, hf1.typed.ext Y3 nr k o e⟩⟩

theorem zeroF (w : World) : (zeroValue 41).run Try.prog w = .ok (.float .f64 0) w := by kernel_rfl
theorem ledger_Turn (b m : Nat) (g : Lg) (I : Inv g) (w : World) (h : LD w b m g) : Calls Try.prog 13 #[.pointer (some ⟨b, 0, none⟩)] w fun e w' =>
    e = .returned (.int .i64 (turnE g)) ∧ Ext (One b) w w' ∧ LD w' b m (turnL g) := by
  have HH := Go.Lib.hid h
  have II := Go.Lib.hid I
  cases hf : fullB g
  · have HF := Go.Lib.hid hf
    have HE := Go.Lib.hid (show turnE g = 18 by unfold turnE; rw [hf]; rfl)
    have HL := Go.Lib.hid (show turnL g = g by unfold turnL; rw [HE.out]; rfl)
    clear h I hf
    go_enter Try.func13, Try.ntmps13
    go_wp2_with fail
    refine (ledger_Full b m g II.out _ HH.out).mono ?_
    rintro e w1 ⟨rfl, n, rfl⟩
    rw [HF.out]
    go_wp2
    go_returns
    exact ⟨by rw [HE.out]; rfl, (Ext.refl _ _).drewN n, by rw [HL.out]; exact HH.out.extN ((Ext.refl _ _).drewN n)⟩
  · have HF := Go.Lib.hid hf
    obtain ⟨a1, c1, a2, c2, r, i1, i2, f1, f2⟩ := h.ex
    have q0 : ∀ n, (w.drewN n).cell? ⟨b, 0, none⟩ = some (.int .i64 g.epoch) := fun n => cell_of_heap r rfl
    by_cases h60 : g.epoch = 60
    · have HE := Go.Lib.hid (show turnE g = 3 by unfold turnE; rw [hf, if_neg (by simp), if_pos h60])
      have HL := Go.Lib.hid (show turnL g = g by unfold turnL; rw [HE.out]; rfl)
      rw [h60] at q0
      clear h I hf r i1 i2 f1 f2 h60
      go_enter Try.func13, Try.ntmps13
      go_wp2_with fail
      refine (ledger_Full b m g II.out _ HH.out).mono ?_
      rintro e w1 ⟨rfl, n, rfl⟩
      rw [HF.out]
      have q := q0 n; clear q0
      go_wp2
      go_returns
      exact ⟨by rw [HE.out]; rfl, (Ext.refl _ _).drewN n, by rw [HL.out]; exact HH.out.extN ((Ext.refl _ _).drewN n)⟩
    · have HE := Go.Lib.hid (show turnE g = 0 by unfold turnE; rw [hf, if_neg (by simp), if_neg h60])
      have HL := Go.Lib.hid (show turnL g = ⟨g.epoch + 1, g.next, g.next, g.done, g.keys, g.cl⟩ by unfold turnL; rw [HE.out]; rfl)
      have he := I.ep
      have h10 := (members_facts I.mn).2.2.2
      have HB := Go.Lib.hid (show g.next.length * 8 ≤ 140737488355328 by omega)
      have hne : g.next ≠ [] := by intro e; have := (members_facts I.mn).2.2.1; rw [e] at this; simp at this
      have wr : IntKind.i64.wrap (g.epoch + 1) = g.epoch + 1 := IntWalk.i64_in _ (by omega)
      have t60 : (g.epoch == 60) = false := by rw [beq_eq_false_iff_ne]; exact h60
      have hr : ∀ n, ((w.drewN n).setCell ⟨b, 0, none⟩ (.int .i64 (g.epoch + 1))).heap[b]? = some (.cells ((rowLg g a1 c1 a2 c2 m).set 0 (.int .i64 (g.epoch + 1))).toArray 81 (0, 0)) := fun n => heap_set_same (w := w.drewN n) r _
      have z0 : ∀ n, (w.drewN n).frozen? ⟨b, 0, none⟩ = false := fun n => froz_of_heap r
      have X : ∀ n, Ext (One b) w ((w.drewN n).setCell ⟨b, 0, none⟩ (.int .i64 (g.epoch + 1))) := fun n => ((Ext.refl _ _).drewN n).set1 _
      have HX := Go.Lib.hid X; have HR := Go.Lib.hid hr
      have hm4 : m < w.heap.size := HH.out.mp.lt
      have hbl := h.lt
      have i2' : ∀ n, Ints ((w.drewN n).setCell ⟨b, 0, none⟩ (.int .i64 (g.epoch + 1))) a2 c2 g.next := fun n => i2.extT f2 (X n) (fun k s => h.noInts k (.inl s))
      have I2 := Go.Lib.hid i2'
      have T2 := Go.Lib.hid f2
      clear h I hf r i1 i2 i2' f1 f2 he h10 X hr h60
      go_enter Try.func13, Try.ntmps13
      go_wp2_with fail
      refine (ledger_Full b m g II.out _ HH.out).mono ?_
      rintro e w1 ⟨rfl, n, rfl⟩
      rw [HF.out]
      have q := q0 n; have z := z0 n; clear q0 z0
      have q2 : ((w.drewN n).setCell ⟨b, 0, none⟩ (.int .i64 (g.epoch + 1))).cell? ⟨b, 2, none⟩ = some (.slice a2 g.next.length c2) := cell_of_heap (HR.out n) rfl
      go_wp2_with fail
      refine (slices_Clone _ _ _ HB.out _ (I2.out n)).mono ?_
      rintro e w2 ⟨a, cp, rfl, x, hI, hfr⟩
      have hsz : b < ((w.drewN n).setCell ⟨b, 0, none⟩ (.int .i64 (g.epoch + 1))).heap.size := by simpa using hbl
      have r2 : w2.heap[b]? = some (.cells ((rowLg g a1 c1 a2 c2 m).set 0 (.int .i64 (g.epoch + 1))).toArray 81 (0, 0)) := (x.block b hsz id).trans (HR.out n)
      have p1 : w2.cell? ⟨b, 1, none⟩ = some (.slice a1 g.mem.length c1) := cell_of_heap r2 rfl
      have p2 : w2.frozen? ⟨b, 1, none⟩ = false := froz_of_heap r2
      have R2 := Go.Lib.hid r2; clear r2
      go_wp2
      go_returns
      have r3 := heap_set_same (k := 1) R2.out (.slice a g.next.length cp)
      have X2 : Ext (One b) w w2 := (HX.out n).step x (fun _ _ f => f.elim)
      have n2 : NoInts (One b) w2 := fun k s vs fr e => by
        have s : k = b := s
        subst s
        rw [R2.out] at e; cases e
      have x3 : Ext (One b) w2 (w2.setCell ⟨b, 1, none⟩ (.slice a g.next.length cp)) := (Ext.refl (One b) w2).set1 _
      have t2 : intT w2 a2 := (T2.out.ext (HX.out n) (fun k s => HH.out.noInts k (.inl s))).ext x (NoInts.non _)
      refine ⟨by rw [HE.out]; rfl, X2.set1 _, ?_⟩
      rw [HL.out]
      refine ⟨⟨a, cp, a2, c2, r3, hI.extT hfr.typed x3 n2, ((I2.out n).extN x).extT t2 x3 n2, hfr.typed.ext x3 n2, t2.ext x3 n2⟩, ?_⟩
      exact HH.out.mp.ext (X2.set1 _) (fun s => HH.out.ne s.symm)
end Go.Proofs.Ytfefeepljbfcdaa
