/- The laws ChangeTexts, ChangeRight, ChangePicks: the walks. -/
import Derived.Test.YtakbkpklfihfiaaLives16
import Derived.Test.YtakbkpklfihfiaaRead16
namespace Go.Proofs.Ytakbkpklfihfiaa
open Go.RowKit Go.Lib F64
set_option linter.unusedSimpArgs false
set_option linter.unusedVariables false
attribute [local go_sem] run_store_float
attribute [local go_sem low] EW.cellN EW.frozN alloc_cell_or alloc_froz_or EW.cellF EW.frozF EW.cell1 EW.froz1
set_option maxHeartbeats 1000000 in
set_option maxRecDepth 100000 in
theorem walk_ChangeTexts (epoch from_ view by_ : Int) (text : ByteArray) (ca : Option Addr) (ccap : Nat) (certs : List Ct) (hie : I64 epoch) (hif : I64 from_) (hiv : I64 view) (w : World) (h : Certs w ca ccap certs) :
    Calls Try.prog 3 #[.int .i64 epoch, .agg #[.int .i64 from_, .int .i64 view, .slice ca certs.length ccap, .int .i64 by_, .string text]] w fun e w' => e = .returned (.bool true) ∧ Ext Non w w' := by
  have HH := Go.Lib.hid h; have HI := Go.Lib.hid (And.intro hie (And.intro hif hiv))
  clear h hie hif hiv
  go_enter Try.func3, Try.ntmps3
  go_wp2_with fail
  refine Calls.ew (law16_lives _) ?_
  rintro e x1 rfl
  go_wp2_with fail
  refine Calls.ew (change_Text epoch from_ view by_ text ca ccap certs HI.out.1 HI.out.2.1 HI.out.2.2 _ (HH.out.extN (by (repeat (first | with_reducible exact Ext.refl _ _ | assumption | with_reducible refine Ext.upN ?_ | with_reducible refine Ext.alloc ?_ _ | with_reducible refine Ext.upA (by assumption) ?_ | with_reducible refine Ext.upW ?_ | with_reducible refine Ext.drew ?_ | with_reducible refine Ext.drewN ?_ _ | with_reducible refine Ext.upF ?_ | with_reducible refine Ext.upFF (by first | omega | simp) ?_ | with_reducible refine Ext.setCellsF _ _ _ (by first | omega | simp) ?_ | with_reducible refine Ext.setCellF _ _ _ (by first | omega | simp) ?_ | with_reducible refine Ext.upFN (by first | omega | simp) ?_ | with_reducible refine Ext.up1F (by first | omega | simp) ?_ | with_reducible refine Ext.up1N (by first | omega | simp) ?_ | with_reducible refine Ext.setCell ?_ (.inr (by first | omega | simp)) _ | refine Ext.alloc ?_ _ | refine Ext.setCellF _ _ _ (by first | omega | simp) ?_ | refine Ext.setCell ?_ (.inr (by first | omega | simp)) _))))) ?_
  rintro e x2 rfl
  go_wp2_with fail
  refine Calls.ew (ref16_Text epoch from_ view by_ text ca ccap certs HI.out.1 HI.out.2.1 HI.out.2.2 _ (HH.out.extN (by (repeat (first | with_reducible exact Ext.refl _ _ | assumption | with_reducible refine Ext.upN ?_ | with_reducible refine Ext.alloc ?_ _ | with_reducible refine Ext.upA (by assumption) ?_ | with_reducible refine Ext.upW ?_ | with_reducible refine Ext.drew ?_ | with_reducible refine Ext.drewN ?_ _ | with_reducible refine Ext.upF ?_ | with_reducible refine Ext.upFF (by first | omega | simp) ?_ | with_reducible refine Ext.setCellsF _ _ _ (by first | omega | simp) ?_ | with_reducible refine Ext.setCellF _ _ _ (by first | omega | simp) ?_ | with_reducible refine Ext.upFN (by first | omega | simp) ?_ | with_reducible refine Ext.up1F (by first | omega | simp) ?_ | with_reducible refine Ext.up1N (by first | omega | simp) ?_ | with_reducible refine Ext.setCell ?_ (.inr (by first | omega | simp)) _ | refine Ext.alloc ?_ _ | refine Ext.setCellF _ _ _ (by first | omega | simp) ?_ | refine Ext.setCell ?_ (.inr (by first | omega | simp)) _))))) ?_
  rintro e x3 rfl
  generalize chS epoch ⟨from_, view, certs, by_, text⟩ = ts at *
  generalize chE epoch ⟨from_, view, certs, by_, text⟩ = te at *
  have b1 : (ts.toList == ts.toList) = true := by simp
  have b2 : (te == te) = true := by simp
  go_wp2
  go_ret
  exact ⟨rfl, by (repeat (first | with_reducible exact Ext.refl _ _ | assumption | with_reducible refine Ext.upN ?_ | with_reducible refine Ext.alloc ?_ _ | with_reducible refine Ext.upA (by assumption) ?_ | with_reducible refine Ext.upW ?_ | with_reducible refine Ext.drew ?_ | with_reducible refine Ext.drewN ?_ _ | with_reducible refine Ext.upF ?_ | with_reducible refine Ext.upFF (by first | omega | simp) ?_ | with_reducible refine Ext.setCellsF _ _ _ (by first | omega | simp) ?_ | with_reducible refine Ext.setCellF _ _ _ (by first | omega | simp) ?_ | with_reducible refine Ext.upFN (by first | omega | simp) ?_ | with_reducible refine Ext.up1F (by first | omega | simp) ?_ | with_reducible refine Ext.up1N (by first | omega | simp) ?_ | with_reducible refine Ext.setCell ?_ (.inr (by first | omega | simp)) _ | refine Ext.alloc ?_ _ | refine Ext.setCellF _ _ _ (by first | omega | simp) ?_ | refine Ext.setCell ?_ (.inr (by first | omega | simp)) _))⟩
set_option maxRecDepth 100000 in
open Go.ChangeShapes Go.WideShapes in
theorem law_ChangeTexts {H : Type} {enc : TypeId × Value → H} (W : World) {base : Nat} (v0 : Value) (d0 : DataW H) (p0 : List MemPlace) (v1 : Value) (d1 : DataW H) (p1 : List MemPlace)
    (h0 : DataW.Trod enc Try.prog W 0 (fun _ => true) true 3 v0 d0 p0) (ok0 : Value.okWide Try.prog W .any base 3 v0)
    (h1 : DataW.Trod enc Try.prog W 0 (fun _ => true) true 26 v1 d1 p1) (ok1 : Value.okWide Try.prog W .any base 26 v1) :
    Calls Try.prog 3 #[v0, v1] W fun e w' => e = .returned (.bool true) ∧ Below W.heap.size W w' := by
  obtain ⟨ep, rfl, hep⟩ := arg_int ok0 h0
  obtain ⟨⟨f, vw, certs, by_, text⟩, ca, ccap, rfl, hc, hf, hv⟩ := arg_change ok1 h1
  exact (walk_ChangeTexts ep f vw by_ text ca ccap certs hep hf hv W hc).mono fun _ _ ⟨a, b⟩ => ⟨a, b.toBelow⟩
end Go.Proofs.Ytakbkpklfihfiaa
