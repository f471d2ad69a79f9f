/- Joined texts: LedgZ1. What each proves stands at its head; no conditions beside those in its theorems. -/
import Derived.Test.YtfefeepljbfcdaaGreatPjAU
/- Contracts of layer 12 (ledger), Turn: for ledgers whose rows do not lie in a given block. Printed by wip/genz.py. -/
namespace Go.Proofs.YtfefeepljbfcdaaGreat.Z
open Go.RowKit F64
set_option linter.unusedSimpArgs false
set_option linter.unusedVariables false
attribute [local go_sem] run_store_float
variable {zn : Nat}
def intZ (zn : Nat) (w : World) (a : Option Addr) : Prop := ∀ k o, a = some ⟨k, o, none⟩ → k ≠ zn ∧ ∃ vs fr, w.heap[k]? = some (.cells vs 3 fr)
theorem intZ.to {w : World} {a : Option Addr} (h : intZ zn w a) : intT w a := fun k o e => (h k o e).2
instance {w : World} {a : Option Addr} : CoeOut (intZ zn w a) (intT w a) := ⟨intZ.to⟩
theorem intZ.ext {S : Nat → Prop} {w w' : World} {a : Option Addr} (h : intZ zn w a) (x : Ext S w w') (hs : NoInts S w) : intZ zn w' a := fun k o e => ⟨(h k o e).1, h.to.ext x hs k o e⟩
theorem _root_.Go.Proofs.YtfefeepljbfcdaaGreat.fresh.typedZ {n : Nat} {w : World} {a : Option Addr} (h : fresh n w a) (hz : zn < n) : intZ zn w a := fun k o e => ⟨by have := (h k o e).1; omega, (h k o e).2⟩
structure LD (zn : Nat) (w : World) (b m : Nat) (g : Lg) : Prop where
 ex : ∃ a1 c1 a2 c2, w.heap[b]? = some (.cells (rowLg g a1 c1 a2 c2 m).toArray 64 (0, 0)) ∧ Ints w a1 c1 g.mem ∧ Ints w a2 c2 g.next ∧ intZ zn w a1 ∧ intZ zn w a2
 mp : MapW w m g.keys
 zlt : zn < w.heap.size
theorem LD.lt {w : World} {b m : Nat} {g : Lg} (h : LD zn w b m g) : b < w.heap.size := by
 obtain ⟨_, _, _, _, h, _⟩ := h.ex
 exact (Array.getElem?_eq_some_iff.1 h).1
theorem LD.ne {w : World} {b m : Nat} {g : Lg} (h : LD zn w b m g) : b ≠ m := by
 obtain ⟨_, _, _, _, h1, _⟩ := h.ex
 obtain ⟨_, _, h2, _⟩ := h.mp.ex
 intro e
 rw [e, h2] at h1
 cases h1
theorem LD.ext {S : Nat → Prop} {w w' : World} {b m : Nat} {g : Lg} (h : LD zn w b m g) (x : Ext S w w') (hb : ¬ S b) (hm : ¬ S m) (hs : NoInts S w) : LD zn w' b m g := by
 obtain ⟨a1, c1, a2, c2, hh, i1, i2, f1, f2⟩ := h.ex
 exact ⟨⟨a1, c1, a2, c2, (x.block b h.lt hb).trans hh, i1.extT f1 x hs, i2.extT f2 x hs, f1.ext x hs, f2.ext x hs⟩, h.mp.ext x hm, Nat.lt_of_lt_of_le h.zlt x.size⟩
theorem LD.noInts {w : World} {b m : Nat} {g : Lg} (h : LD zn w b m g) : NoInts (Two b m) w := by
 obtain ⟨_, _, _, _, h1, _⟩ := h.ex
 obtain ⟨_, _, h2, _⟩ := h.mp.ex
 rintro k (rfl | rfl) vs fr e
 ·rw [h1] at e; cases e
 ·rw [h2] at e; cases e
theorem LD.extN {w w' : World} {b m : Nat} {g : Lg} (h : LD zn w b m g) (x : Ext Non w w') : LD zn w' b m g := h.ext x (fun f => f) (fun f => f) (NoInts.non w)
theorem LD.to {w : World} {b m : Nat} {g : Lg} (h : LD zn w b m g) : Go.Proofs.YtfefeepljbfcdaaGreat.LD w b m g := by
 obtain ⟨a1, c1, a2, c2, hh, i1, i2, f1, f2⟩ := h.ex
 exact ⟨⟨a1, c1, a2, c2, hh, i1, i2, f1.to, f2.to⟩, h.mp⟩
theorem LD.of {w w' : World} {b m : Nat} {g : Lg} (h : Go.Proofs.YtfefeepljbfcdaaGreat.LD w b m g) (x : Ext Non w w') (h1 : w.heap.size ≤ zn) (h2 : zn < w'.heap.size) : LD zn w' b m g := by
 obtain ⟨a1, c1, a2, c2, hh, i1, i2, f1, f2⟩ := (h.extN x).ex
 obtain ⟨b1, d1, b2, d2, hh', -, -, e1, e2⟩ := h.ex
 have hb := (x.block b h.lt (fun f => f)).trans hh'
 have q1 : a1 = b1 := by
  have z1 : w'.cell? ⟨b, 1, none⟩ = some (.slice a1 g.mem.length c1) := cell_of_heap hh rfl
  have z2 : w'.cell? ⟨b, 1, none⟩ = some (.slice b1 g.mem.length d1) := cell_of_heap hb rfl
  rw [z1] at z2; injection z2 with z2; injection z2
 have q2 : a2 = b2 := by
  have z1 : w'.cell? ⟨b, 2, none⟩ = some (.slice a2 g.next.length c2) := cell_of_heap hh rfl
  have z2 : w'.cell? ⟨b, 2, none⟩ = some (.slice b2 g.next.length d2) := cell_of_heap hb rfl
  rw [z1] at z2; injection z2 with z2; injection z2
 exact ⟨⟨a1, c1, a2, c2, hh, i1, i2, fun k o e => ⟨fun ek => by have := e1.lt (q1.symm.trans e); omega, f1 k o e⟩, fun k o e => ⟨fun ek => by have := e2.lt (q2.symm.trans e); omega, f2 k o e⟩⟩, h.mp.ext x (fun f => f), h2⟩
theorem LD.set {w w' : World} {b m : Nat} {g g' : Lg} (h : LD zn w b m g) (x : Ext (One b) w w') {a1 : Option Addr} {c1 : Nat} {a2 : Option Addr} {c2 : Nat} (r : LRow w' b m g' a1 c1 a2 c2)
  (i1 : Ints w a1 c1 g'.mem) (i2 : Ints w a2 c2 g'.next) (f1 : intZ zn w a1) (f2 : intZ zn w a2) (hk : g'.keys = g.keys) : LD zn w' b m g' := by
 have ns : NoInts (One b) w := fun k s => h.noInts k (.inl s)
 refine ⟨⟨a1, c1, a2, c2, r, i1.extT f1 x ns, i2.extT f2 x ns, f1.ext x ns, f2.ext x ns⟩, ?_, Nat.lt_of_lt_of_le h.zlt x.size⟩
 rw [hk]
 exact h.mp.ext x (fun s => h.ne s.symm)
theorem ledger_Full (b m : Nat) (g : Lg) (I : Inv g) (w : World) (h : LD zn w b m g) : Calls Tryz.prog 27 #[.pointer (some ⟨b, 0, none⟩)] w fun e w' => e = .returned (.bool (fullB g)) ∧ ∃ n, w' = w.drewN n := by
 obtain ⟨a1, c1, a2, c2, r, _⟩ := h.ex
 have q0 : w.cell? ⟨b, 0, none⟩ = some (.int .i64 g.epoch) := cell_of_heap r rfl
 have q3 : w.cell? ⟨b, 3, none⟩ = some (.int .i64 g.done) := cell_of_heap r rfl
 have HF := hI_ (show fullB g = decide (g.done = (g.epoch + 1) * 4) from rfl)
 have he := I.ep
 have w1 : IntKind.i64.wrap (g.epoch + 1) = g.epoch + 1 := IntWalk.i64_in _ (by omega)
 have w2 : IntKind.i64.wrap ((g.epoch + 1) * 4) = (g.epoch + 1) * 4 := IntWalk.i64_in _ (by omega)
 clear r he I h
 go_enter Tryz.func27, Tryz.ntmps27
 go_wp2_with fail
 go_quiet (fail)
 go_wp2
 go_ret
 exact ⟨ret_bool (by rw [HF.out]; rfl), _, rfl⟩
theorem ledger_Turn (b m : Nat) (g : Lg) (I : Inv g) (w : World) (h : LD zn w b m g) : Calls Tryz.prog 19 #[.pointer (some ⟨b, 0, none⟩)] w fun e w' =>
  e = .returned (.int .i64 (turnE g)) ∧ Ext (One b) w w' ∧ LD zn w' b m (turnL g) := by
 have HH := hI_ h
 have II := hI_ I
 cases hf : fullB g
 ·have HF := hI_ hf
  have HE := hI_ (show turnE g = 18 by unfold turnE; rw [hf]; rfl)
  have HL := hI_ (show turnL g = g by unfold turnL; rw [HE.out]; rfl)
  clear h I hf
  go_enter Tryz.func19, Tryz.ntmps19
  go_wp2_with fail
  refine (ledger_Full b m g II.out _ HH.out).mono ?_
  rintro e w1 ⟨rfl, n, rfl⟩
  rw [HF.out]
  go_wp2
  go_returns
  exact ⟨by rw [HE.out]; rfl, (Ext.refl _ _).drewN n, by rw [HL.out]; exact HH.out.extN ((Ext.refl _ _).drewN n)⟩
 ·have HF := hI_ hf
  obtain ⟨a1, c1, a2, c2, r, i1, i2, f1, f2⟩ := h.ex
  have q0 : ∀ n, (w.drewN n).cell? ⟨b, 0, none⟩ = some (.int .i64 g.epoch) := fun n => cell_of_heap r rfl
  by_cases h60 : g.epoch = 60
  ·have HE := hI_ (show turnE g = 3 by unfold turnE; rw [hf, if_neg (by simp), if_pos h60])
   have HL := hI_ (show turnL g = g by unfold turnL; rw [HE.out]; rfl)
   rw [h60] at q0
   clear h I hf r i1 i2 f1 f2 h60
   go_enter Tryz.func19, Tryz.ntmps19
   go_wp2_with fail
   refine (ledger_Full b m g II.out _ HH.out).mono ?_
   rintro e w1 ⟨rfl, n, rfl⟩
   rw [HF.out]
   have q := q0 n; clear q0
   go_wp2
   go_returns
   exact ⟨by rw [HE.out]; rfl, (Ext.refl _ _).drewN n, by rw [HL.out]; exact HH.out.extN ((Ext.refl _ _).drewN n)⟩
  ·have HE := hI_ (show turnE g = 0 by unfold turnE; rw [hf, if_neg (by simp), if_neg h60])
   have HL := hI_ (show turnL g = ⟨g.epoch + 1, g.next, g.next, g.done, g.keys, g.cl⟩ by unfold turnL; rw [HE.out]; rfl)
   have he := I.ep
   have h10 := (members_facts I.mn).2.2.2
   have HB := hI_ (show g.next.length * 8 ≤ 140737488355328 by omega)
   have hne : g.next ≠ [] := by intro e; have := (members_facts I.mn).2.2.1; rw [e] at this; simp at this
   have wr : IntKind.i64.wrap (g.epoch + 1) = g.epoch + 1 := IntWalk.i64_in _ (by omega)
   have t60 : (g.epoch == 60) = false := by rw [beq_eq_false_iff_ne]; exact h60
   have hr : ∀ n, ((w.drewN n).setCell ⟨b, 0, none⟩ (.int .i64 (g.epoch + 1))).heap[b]? = some (.cells ((rowLg g a1 c1 a2 c2 m).set 0 (.int .i64 (g.epoch + 1))).toArray 64 (0, 0)) := fun n => heap_set_same (w := w.drewN n) r _
   have z0 : ∀ n, (w.drewN n).frozen? ⟨b, 0, none⟩ = false := fun n => froz_of_heap r
   have X : ∀ n, Ext (One b) w ((w.drewN n).setCell ⟨b, 0, none⟩ (.int .i64 (g.epoch + 1))) := fun n => ((Ext.refl _ _).drewN n).set1 _
   have HX := hI_ X; have HR := hI_ hr
   have hm4 : m < w.heap.size := HH.out.mp.lt
   have hbl := h.lt
   have i2' : ∀ n, Ints ((w.drewN n).setCell ⟨b, 0, none⟩ (.int .i64 (g.epoch + 1))) a2 c2 g.next := fun n => i2.extT f2 (X n) (fun k s => h.noInts k (.inl s))
   have I2 := hI_ i2'
   have T2 := hI_ f2
   clear h I hf r i1 i2 i2' f1 f2 he h10 X hr h60
   go_enter Tryz.func19, Tryz.ntmps19
   go_wp2_with fail
   refine (ledger_Full b m g II.out _ HH.out).mono ?_
   rintro e w1 ⟨rfl, n, rfl⟩
   rw [HF.out]
   have q := q0 n; have z := z0 n; clear q0 z0
   have q2 : ((w.drewN n).setCell ⟨b, 0, none⟩ (.int .i64 (g.epoch + 1))).cell? ⟨b, 2, none⟩ = some (.slice a2 g.next.length c2) := cell_of_heap (HR.out n) rfl
   go_wp2_with fail
   refine (slices_Clone _ _ _ HB.out _ (I2.out n)).mono ?_
   rintro e w2 ⟨a, cp, rfl, x, hI, hfr⟩
   have hsz : b < ((w.drewN n).setCell ⟨b, 0, none⟩ (.int .i64 (g.epoch + 1))).heap.size := by simpa using hbl
   have r2 : w2.heap[b]? = some (.cells ((rowLg g a1 c1 a2 c2 m).set 0 (.int .i64 (g.epoch + 1))).toArray 64 (0, 0)) := (x.block b hsz id).trans (HR.out n)
   have p1 : w2.cell? ⟨b, 1, none⟩ = some (.slice a1 g.mem.length c1) := cell_of_heap r2 rfl
   have p2 : w2.frozen? ⟨b, 1, none⟩ = false := froz_of_heap r2
   have R2 := hI_ r2; clear r2
   go_wp2
   go_returns
   have r3 := heap_set_same (k := 1) R2.out (.slice a g.next.length cp)
   have X2 : Ext (One b) w w2 := (HX.out n).step x (fun _ _ f => f.elim)
   have n2 : NoInts (One b) w2 := fun k s vs fr e => by
    have s : k = b := s
    subst s
    rw [R2.out] at e; cases e
   have x3 : Ext (One b) w2 (w2.setCell ⟨b, 1, none⟩ (.slice a g.next.length cp)) := (Ext.refl (One b) w2).set1 _
   have t2 : intZ zn w2 a2 := (T2.out.ext (HX.out n) (fun k s => HH.out.noInts k (.inl s))).ext x (NoInts.non _)
   refine ⟨by rw [HE.out]; rfl, X2.set1 _, ?_⟩
   rw [HL.out]
   refine ⟨⟨a, cp, a2, c2, r3, hI.extT hfr.typed x3 n2, ((I2.out n).extN x).extT t2 x3 n2, (hfr.typedZ (by have := HH.out.zlt; first | omega | (simp; omega))).ext x3 n2, t2.ext x3 n2⟩, ?_, Nat.lt_of_lt_of_le HH.out.zlt (X2.set1 _).size⟩
   exact HH.out.mp.ext (X2.set1 _) (fun s => HH.out.ne s.symm)
end Go.Proofs.YtfefeepljbfcdaaGreat.Z
