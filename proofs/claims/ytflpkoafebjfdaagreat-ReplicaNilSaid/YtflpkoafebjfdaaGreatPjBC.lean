/- Joined texts: Wire5. What each proves stands at its head; no conditions beside those in its theorems. -/
import Derived.Laws.CopyOwn
import Derived.Deep.OwnRows
import Derived.Deep.RegionLaw
import Derived.Test.YtflpkoafebjfdaaGreatPjAU
import Derived.Test.YtflpkoafebjfdaaGreatPjAW
/- Contracts of layer 13 (wire): which messages fit (kinds 1). Printed by wip/genwire.py. -/
namespace Go.Proofs.YtflpkoafebjfdaaGreat
open Go.RowKit Go.Lib F64
set_option linter.unusedSimpArgs false
set_option linter.unusedVariables false
attribute [local go_sem] run_store_float
attribute [local go_sem low] EW.cellN EW.frozN alloc_cell_or alloc_froz_or EW.cellF EW.frozF EW.cell1 EW.froz1
theorem wpList_build_is1 {P : Program} {ops : Array Oper} {rest : List Oper} {o : Oper} {a : Act} {w : World} {Q : Exit → Act → World → Prop} (hg : o.guard = none) (t : TypeId) (parts : Array (Nat × Operand)) (ho : o.op = .build t parts) (c : Array Value)
    (hb : P.built t (parts.map fun (i, x) => (i, a.eval x)).toList = some c) (h : wpList P ops Q rest (a.put o.dst (.agg c)) w) : wpList P ops Q (o :: rest) a w :=
  wpList_build hg t parts ho (by rw [hb]; rfl) (by rw [hb]; exact h)
theorem i64_01 : I64 0 := by unfold I64; omega
theorem nullR_ok1 : ReqOk nullR := ⟨i64_01, i64_01, i64_01, i64_01, by decide, by decide⟩
set_option maxHeartbeats 16000000 in
set_option maxRecDepth 100000 in
theorem wire_fits_1 (m : Ms) (A : MA) (w : World) (h : MsW w A m) (hk : m.kind = 1) (he : 0 ≤ m.ep ∧ m.ep ≤ 60) (hs : sigsB m.sigs = true) : Calls Tryz.prog 115 #[.agg (m.cells A).toArray] w fun e w' =>
    e = .returned (.bool (fitsM m)) ∧ Ext Non w w' := by
  have HE := Go.Lib.hid he
  have HW := Go.Lib.hid h
  have HO := Go.Lib.hid h.ok
  have HS := Go.Lib.hid hs
  have DF := Go.Lib.hid (show fitsM m = kindB m by unfold fitsM; rw [decide_eq_true he.1, decide_eq_true he.2, hs]; simp)
  have l1 := h.n.le; have l2 := h.n.small; have l3 := h.s.le; have l4 := h.s.small; have l5 := h.c.le; have l6 := h.c.small; have l7 := h.l.le; have l8 := h.l.small
  clear h hs
  obtain ⟨kind, ep, view, slot, ⟨rc, rs, ⟨rk, rkey, rx, rid⟩⟩, ⟨cd, rr⟩, text, next, sigs, chs, lks⟩ := m; obtain ⟨na, nc, sa, sc, ca, cc, la, lc⟩ := A
  unfold Ms.cells
  dsimp only at l1 l2 l3 l4 l5 l6 l7 l8 hk he HE HS ⊢
  obtain ⟨he1, he2⟩ := he
  have HK := Go.Lib.hid hk; clear hk
  have B0 := Go.Lib.hid (Bx.new w [.int .i64 kind, .int .i64 ep, .int .i64 view, .int .i64 slot, .int .i64 rc, .int .i64 rs, .int .i64 rk, .string rkey, .float .f64 rx, .int .i64 rid, .int .i64 cd, .float .f64 rr, .string text, .slice na next.length nc, .slice sa sigs.length sc, .slice ca chs.length cc, .slice la lks.length lc] 43)
  have X0 := Go.Lib.hid ((Ext.refl Non w).alloc (.cells #[.int .i64 kind, .int .i64 ep, .int .i64 view, .int .i64 slot, .int .i64 rc, .int .i64 rs, .int .i64 rk, .string rkey, .float .f64 rx, .int .i64 rid, .int .i64 cd, .float .f64 rr, .string text, .slice na next.length nc, .slice sa sigs.length sc, .slice ca chs.length cc, .slice la lks.length lc] 43))
  go_enter Tryz.func115, Tryz.ntmps115
  go_upto_region 1 with fail
  generalize w.alloc _ = W0 at *
  obtain ⟨b0, hb0⟩ : ∃ b0, b0 = w.heap.size := ⟨_, rfl⟩
  rw [← hb0] at B0 ⊢
  have HB0 := Go.Lib.hid hb0; clear hb0
  obtain ⟨L, hL⟩ : ∃ L : List Value, L = [.int .i64 kind, .int .i64 ep, .int .i64 view, .int .i64 slot, .int .i64 rc, .int .i64 rs, .int .i64 rk, .string rkey, .float .f64 rx, .int .i64 rid, .int .i64 cd, .float .f64 rr, .string text, .slice na next.length nc, .slice sa sigs.length sc, .slice ca chs.length cc, .slice la lks.length lc] := ⟨_, rfl⟩
  have HL := Go.Lib.hid hL
  have hag : (.agg #[.int .i64 kind, .int .i64 ep, .int .i64 view, .int .i64 slot, .int .i64 rc, .int .i64 rs, .int .i64 rk, .string rkey, .float .f64 rx, .int .i64 rid, .int .i64 cd, .float .f64 rr, .string text, .slice na next.length nc, .slice sa sigs.length sc, .slice ca chs.length cc, .slice la lks.length lc] : Value) = .agg L.toArray := by rw [hL]
  rw [← hL] at B0
  rw [hag]
  clear hL hag
  have XW := X0.out
  have m1 := B0.out.cell (j := 1) (by rw [HL.out]; rfl); have m8 := B0.out.cell (j := 14) (by rw [HL.out]; rfl)
  have BD := Go.Lib.hid (show Tryz.prog.built 258 [(0, .agg L.toArray)] = some L.toArray by rw [HL.out]; kernel_rfl)
  go_wp2_with fail
  refine Calls.ew (wire_signed sa sc sigs _ (HW.out.s.extN (by (repeat (first | with_reducible (first | exact Ext.refl _ _ | assumption | refine Ext.upN ?_ | refine Ext.alloc ?_ _ | refine Ext.drew ?_ | refine Ext.drewN ?_ _ | refine Ext.up1N (by first | omega | simp) ?_) | refine Ext.alloc ?_ _ | refine Ext.setCell ?_ (.inr (by first | omega | simp)) _))))) ?_
  rintro e x1 rfl
  rw [HS.out]
  have B1 := Go.Lib.hid (B0.out.extN x1.ext)
  have RG := Go.Lib.hid B1.out.range
  have XR : Hid (Ext Non w (x1.on.alloc (.cells L.toArray 258))) := Go.Lib.hid (by (repeat (first | with_reducible (first | exact Ext.refl _ _ | assumption | refine Ext.upN ?_ | refine Ext.alloc ?_ _ | refine Ext.drew ?_ | refine Ext.drewN ?_ _ | refine Ext.up1N (by first | omega | simp) ?_) | refine Ext.alloc ?_ _ | refine Ext.setCell ?_ (.inr (by first | omega | simp)) _)))
  have hr2 : b0 < x1.on.heap.size := Nat.lt_of_lt_of_le B0.out.lt x1.ext.size
  have BR := Go.Lib.hid (Bx.new x1.on L 258)
  have BM := Go.Lib.hid (B1.out.alloc (.cells L.toArray 258))
  clear m1 m8
  have HS1 := Go.Lib.hid (show L.toArray.all (·.oneCell') = true from all_oneCell_toArray (by rw [HL.out]; simp [Value.oneCell']))
  have HS2 := Go.Lib.hid (show (Tryz.prog.info? 258).map (·.size) = some L.toArray.size by rw [HL.out]; kernel_rfl)
  have HS3 := Go.Lib.hid (show 17 = L.toArray.size by rw [HL.out]; rfl)
  go_upto_region 3 with fail
  refine wp_region_lit ?_
  refine wpList_load_mid rfl 43 _ rfl b0 0 rfl L _ RG.out Tryz.underlying43 rfl (by rw [HL.out]; kernel_rfl) ?_
  simp only [Act.put, List.setIfInBounds_toArray, List.set_cons_zero, List.set_cons_succ]
  refine wpList_build_is1 rfl 258 _ rfl L.toArray (by simp only [List.map_toArray, List.map_cons, List.map_nil]; exact BD.out) ?_
  simp only [Act.put, List.setIfInBounds_toArray, List.set_cons_zero, List.set_cons_succ]
  go_upto_region 4 with (refine wpList_store_new rfl 258 _ _ rfl _ L.toArray rfl rfl HS2.out HS3.out HS1.out ?_)
  generalize x1.on.alloc _ = W2 at *
  generalize x1.on.heap.size = r2 at *
  clear RG B0 X0 XW BD
  have XW := XR.out
  have BRx := BR; have BMx := BM
  obtain ⟨m0, m4, m5, m6, m7, m8, m9, m14⟩ : _ ∧ _ ∧ _ ∧ _ ∧ _ ∧ _ ∧ _ ∧ _ := ⟨BMx.out.cell (j := 0) (by rw [HL.out]; rfl), BMx.out.cell (j := 4) (by rw [HL.out]; rfl), BMx.out.cell (j := 5) (by rw [HL.out]; rfl), BMx.out.cell (j := 6) (by rw [HL.out]; rfl), BMx.out.cell (j := 7) (by rw [HL.out]; rfl), BMx.out.cell (j := 8) (by rw [HL.out]; rfl), BMx.out.cell (j := 9) (by rw [HL.out]; rfl), BMx.out.cell (j := 14) (by rw [HL.out]; rfl)⟩
  have HH : Hid (w.heap.size ≤ r2) := Go.Lib.hid (by have := HB0.out; omega)
  have hk := HK.out
  subst hk
  have DK : Hid (kindB ⟨1, ep, view, slot, ⟨rc, rs, ⟨rk, rkey, rx, rid⟩⟩, ⟨cd, rr⟩, text, next, sigs, chs, lks⟩ = (rightB ⟨rc, rs, ⟨rk, rkey, rx, rid⟩⟩ && decide (sigs.length = 1) && emptyB ep view slot next.length 0 chs.length lks.length text nullR ⟨cd, rr⟩)) := Go.Lib.hid (by unfold kindB; simp only [Int.reduceEq, or_self, or_true, true_or, if_false, if_true])
  go_wp2_with fail
  refine Calls.ew (deeds_Right rc rs rk rkey rx rid _) ?_
  rintro e x2 rfl
  cases hr : rightB ⟨rc, rs, ⟨rk, rkey, rx, rid⟩⟩
  · have HR := Go.Lib.hid hr; clear hr
    have BRy := Go.Lib.hid (BRx.out.extN x2.ext)
    obtain ⟨r0_, r1_, r2_, r3_, r4_, r5_, r6_, r7_, r8_, r9_, r10_, r11_, r12_, r13_, r14_, r15_, r16_⟩ : _ ∧ _ ∧ _ ∧ _ ∧ _ ∧ _ ∧ _ ∧ _ ∧ _ ∧ _ ∧ _ ∧ _ ∧ _ ∧ _ ∧ _ ∧ _ ∧ _ := ⟨BRy.out.cell (j := 0) (by rw [HL.out]; rfl), BRy.out.cell (j := 1) (by rw [HL.out]; rfl), BRy.out.cell (j := 2) (by rw [HL.out]; rfl), BRy.out.cell (j := 3) (by rw [HL.out]; rfl), BRy.out.cell (j := 4) (by rw [HL.out]; rfl), BRy.out.cell (j := 5) (by rw [HL.out]; rfl), BRy.out.cell (j := 6) (by rw [HL.out]; rfl), BRy.out.cell (j := 7) (by rw [HL.out]; rfl), BRy.out.cell (j := 8) (by rw [HL.out]; rfl), BRy.out.cell (j := 9) (by rw [HL.out]; rfl), BRy.out.cell (j := 10) (by rw [HL.out]; rfl), BRy.out.cell (j := 11) (by rw [HL.out]; rfl), BRy.out.cell (j := 12) (by rw [HL.out]; rfl), BRy.out.cell (j := 13) (by rw [HL.out]; rfl), BRy.out.cell (j := 14) (by rw [HL.out]; rfl), BRy.out.cell (j := 15) (by rw [HL.out]; rfl), BRy.out.cell (j := 16) (by rw [HL.out]; rfl)⟩
    have rz : ∀ j, World.frozen? x2.on ⟨r2, j, none⟩ = false := fun j => froz_of_heap BRy.out.h
    go_wp2
    go_ret
    exact ⟨ret_bool (by rw [DF.out, DK.out, HR.out]; simp), ((((((((XW.trans x2.ext).setCell (.inr HH.out) _).setCell (.inr HH.out) _).setCell (.inr HH.out) _).setCell (.inr HH.out) _).setCell (.inr HH.out) _).setCell (.inr HH.out) _).setCell (.inr HH.out) _)⟩
  · have HR := Go.Lib.hid hr; clear hr
    by_cases h1 : sigs.length = 1
    · have H1 := Go.Lib.hid h1
      have BRy := Go.Lib.hid (BRx.out.extN x2.ext)
      obtain ⟨r0_, r1_, r2_, r3_, r4_, r5_, r6_, r7_, r8_, r9_, r10_, r11_, r12_, r13_, r14_, r15_, r16_⟩ : _ ∧ _ ∧ _ ∧ _ ∧ _ ∧ _ ∧ _ ∧ _ ∧ _ ∧ _ ∧ _ ∧ _ ∧ _ ∧ _ ∧ _ ∧ _ ∧ _ := ⟨BRy.out.cell (j := 0) (by rw [HL.out]; rfl), BRy.out.cell (j := 1) (by rw [HL.out]; rfl), BRy.out.cell (j := 2) (by rw [HL.out]; rfl), BRy.out.cell (j := 3) (by rw [HL.out]; rfl), BRy.out.cell (j := 4) (by rw [HL.out]; rfl), BRy.out.cell (j := 5) (by rw [HL.out]; rfl), BRy.out.cell (j := 6) (by rw [HL.out]; rfl), BRy.out.cell (j := 7) (by rw [HL.out]; rfl), BRy.out.cell (j := 8) (by rw [HL.out]; rfl), BRy.out.cell (j := 9) (by rw [HL.out]; rfl), BRy.out.cell (j := 10) (by rw [HL.out]; rfl), BRy.out.cell (j := 11) (by rw [HL.out]; rfl), BRy.out.cell (j := 12) (by rw [HL.out]; rfl), BRy.out.cell (j := 13) (by rw [HL.out]; rfl), BRy.out.cell (j := 14) (by rw [HL.out]; rfl), BRy.out.cell (j := 15) (by rw [HL.out]; rfl), BRy.out.cell (j := 16) (by rw [HL.out]; rfl)⟩
      have rz : ∀ j, World.frozen? x2.on ⟨r2, j, none⟩ = false := fun j => froz_of_heap BRy.out.h
      go_wp2_with fail
      have K9 := fun wz => wire_empty ⟨1, ep, view, slot, ⟨0, 0, ⟨0, ⟨#[]⟩, 0, 0⟩⟩, ⟨cd, rr⟩, text, next, [], chs, lks⟩ ⟨na, nc, none, 0, ca, cc, la, lc⟩ wz ⟨HO.out.k, HO.out.e, HO.out.v, HO.out.s, nullR_ok1, HO.out.c, HO.out.x, HO.out.t⟩ ⟨by dsimp only; omega, by simp, by dsimp only; omega, by dsimp only; omega⟩
      unfold Ms.cells at K9
      dsimp only [List.length_nil] at K9
      refine Calls.ew (K9 _) ?_
      clear K9
      rintro e x9 rfl
      go_wp2
      go_ret
      exact ⟨ret_bool (by rw [DF.out, DK.out, HR.out, decide_eq_true H1.out]; rfl), (((((((((XW.trans x2.ext).setCell (.inr HH.out) _).setCell (.inr HH.out) _).setCell (.inr HH.out) _).setCell (.inr HH.out) _).setCell (.inr HH.out) _).setCell (.inr HH.out) _).setCell (.inr HH.out) _)).trans x9.ext⟩
    · have H1 := Go.Lib.hid h1
      have hb : ((sigs.length : Int) == 1) = false := by rw [beq_eq_false_iff_ne]; omega
      clear h1
      have BRy := Go.Lib.hid (BRx.out.extN x2.ext)
      obtain ⟨r0_, r1_, r2_, r3_, r4_, r5_, r6_, r7_, r8_, r9_, r10_, r11_, r12_, r13_, r14_, r15_, r16_⟩ : _ ∧ _ ∧ _ ∧ _ ∧ _ ∧ _ ∧ _ ∧ _ ∧ _ ∧ _ ∧ _ ∧ _ ∧ _ ∧ _ ∧ _ ∧ _ ∧ _ := ⟨BRy.out.cell (j := 0) (by rw [HL.out]; rfl), BRy.out.cell (j := 1) (by rw [HL.out]; rfl), BRy.out.cell (j := 2) (by rw [HL.out]; rfl), BRy.out.cell (j := 3) (by rw [HL.out]; rfl), BRy.out.cell (j := 4) (by rw [HL.out]; rfl), BRy.out.cell (j := 5) (by rw [HL.out]; rfl), BRy.out.cell (j := 6) (by rw [HL.out]; rfl), BRy.out.cell (j := 7) (by rw [HL.out]; rfl), BRy.out.cell (j := 8) (by rw [HL.out]; rfl), BRy.out.cell (j := 9) (by rw [HL.out]; rfl), BRy.out.cell (j := 10) (by rw [HL.out]; rfl), BRy.out.cell (j := 11) (by rw [HL.out]; rfl), BRy.out.cell (j := 12) (by rw [HL.out]; rfl), BRy.out.cell (j := 13) (by rw [HL.out]; rfl), BRy.out.cell (j := 14) (by rw [HL.out]; rfl), BRy.out.cell (j := 15) (by rw [HL.out]; rfl), BRy.out.cell (j := 16) (by rw [HL.out]; rfl)⟩
      have rz : ∀ j, World.frozen? x2.on ⟨r2, j, none⟩ = false := fun j => froz_of_heap BRy.out.h
      go_wp2
      go_ret
      exact ⟨ret_bool (by rw [DF.out, DK.out, decide_eq_false H1.out]; simp), ((((((((XW.trans x2.ext).setCell (.inr HH.out) _).setCell (.inr HH.out) _).setCell (.inr HH.out) _).setCell (.inr HH.out) _).setCell (.inr HH.out) _).setCell (.inr HH.out) _).setCell (.inr HH.out) _)⟩
end Go.Proofs.YtflpkoafebjfdaaGreat
