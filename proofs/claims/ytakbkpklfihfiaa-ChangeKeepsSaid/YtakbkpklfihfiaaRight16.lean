/- Contracts of layer 16: which changes are right. -/
import Derived.Test.YtakbkpklfihfiaaRText16
namespace Go.Proofs.Ytakbkpklfihfiaa
open Go.RowKit Go.Lib F64
set_option linter.unusedSimpArgs false
set_option linter.unusedVariables false
attribute [local go_sem] run_store_float
attribute [local go_sem low] EW.cellN EW.frozN alloc_cell_or alloc_froz_or
theorem conf_len {ep : Int} {xs : List Int} (h : confB ep xs = true) : xs.length ≤ 4611686018427387903 := by
  unfold confB at h
  rw [Bool.and_eq_true] at h
  have := (members_facts h.2).2.2.2
  omega
def sigE (ep : Int) (c : Ch) : Int := if c.by_ = c.from_ ∧ c.text = chS ep c then 0 else 16
def certsE (ep : Int) (xs : List Int) (view last : Int) : List Ct → Int
  | [] => last
  | y :: t => if view ≤ y.view then 13 else if provesB ep xs (prepS ep y.view y.slot y.req) y.sigs = true then certsE ep xs view last t else 15
theorem certsE_drop (ep : Int) (xs : List Int) (view last : Int) (l : List Ct) (i : Nat) (h : i < l.length) :
    certsE ep xs view last (l.drop i) = if view ≤ (ctAt l i).view then 13 else if provesB ep xs (prepS ep (ctAt l i).view (ctAt l i).slot (ctAt l i).req) (ctAt l i).sigs = true then certsE ep xs view last (l.drop (i + 1)) else 15 := by
  rw [List.drop_eq_getElem_cons h, ctAt_get h]; rfl
/-- The first error of a change. -/
def rightE (ep : Int) (xs : List Int) (c : Ch) : Int :=
  if confB ep xs = true then (if chE ep c = 0 then (if hasB xs c.from_ = true then certsE ep xs c.view (sigE ep c) c.certs else 8) else chE ep c) else 1
set_option maxHeartbeats 4000000 in
set_option maxRecDepth 100000 in
theorem change_Right (ep : Int) (a : Option Addr) (cap : Nat) (xs : List Int) (from_ view by_ : Int) (text : ByteArray) (ca : Option Addr) (ccap : Nat) (certs : List Ct) (hie : I64 ep) (hif : I64 from_) (hiv : I64 view) (w : World) (hi : Ints w a cap xs) (h : Certs w ca ccap certs) :
    Calls Try.prog 17 #[.agg #[.int .i64 ep, .slice a xs.length cap], .agg #[.int .i64 from_, .int .i64 view, .slice ca certs.length ccap, .int .i64 by_, .string text]] w fun e w' =>
    e = .returned (.int .i64 (rightE ep xs ⟨from_, view, certs, by_, text⟩)) ∧ Ext Non w w' := by
  have HH := Go.Lib.hid h; have HI := Go.Lib.hid hi
  have HE := Go.Lib.hid (And.intro hie (And.intro hif hiv))
  have hsm := h.small; have hsl := h.le
  have DF : Hid (rightE ep xs ⟨from_, view, certs, by_, text⟩ = if confB ep xs = true then (if chE ep ⟨from_, view, certs, by_, text⟩ = 0 then (if hasB xs from_ = true then certsE ep xs view (sigE ep ⟨from_, view, certs, by_, text⟩) certs else 8) else chE ep ⟨from_, view, certs, by_, text⟩) else 1) := Go.Lib.hid rfl
  have SG : Hid (sigE ep ⟨from_, view, certs, by_, text⟩ = if by_ = from_ ∧ text = chS ep ⟨from_, view, certs, by_, text⟩ then 0 else 16) := Go.Lib.hid rfl
  clear h hi hie hif hiv
  go_enter Try.func17, Try.ntmps17
  go_wp2_with fail
  refine Calls.ew (council_Right ep a cap xs _ (HI.out.extN (by (repeat (first | with_reducible exact Ext.refl _ _ | assumption | with_reducible refine Ext.upN ?_ | with_reducible refine Ext.alloc ?_ _ | with_reducible refine Ext.upA (by assumption) ?_ | with_reducible refine Ext.upW ?_ | with_reducible refine Ext.drew ?_ | with_reducible refine Ext.drewN ?_ _ | with_reducible refine Ext.upF ?_ | with_reducible refine Ext.upFF (by first | omega | simp) ?_ | with_reducible refine Ext.setCellsF _ _ _ (by first | omega | simp) ?_ | with_reducible refine Ext.setCellF _ _ _ (by first | omega | simp) ?_ | with_reducible refine Ext.upFN (by first | omega | simp) ?_ | with_reducible refine Ext.up1F (by first | omega | simp) ?_ | with_reducible refine Ext.up1N (by first | omega | simp) ?_ | with_reducible refine Ext.setCell ?_ (.inr (by first | omega | simp)) _ | refine Ext.alloc ?_ _ | refine Ext.setCellF _ _ _ (by first | omega | simp) ?_ | refine Ext.setCell ?_ (.inr (by first | omega | simp)) _))))) ?_
  rintro e x1 rfl
  cases hc : confB ep xs
  · as_aux_lemma =>
    rw [hc] at DF
    clear hc
    go_wp2
    go_ret
    exact ⟨by rw [DF.out]; rfl, by (repeat (first | with_reducible exact Ext.refl _ _ | assumption | with_reducible refine Ext.upN ?_ | with_reducible refine Ext.alloc ?_ _ | with_reducible refine Ext.upA (by assumption) ?_ | with_reducible refine Ext.upW ?_ | with_reducible refine Ext.drew ?_ | with_reducible refine Ext.drewN ?_ _ | with_reducible refine Ext.upF ?_ | with_reducible refine Ext.upFF (by first | omega | simp) ?_ | with_reducible refine Ext.setCellsF _ _ _ (by first | omega | simp) ?_ | with_reducible refine Ext.setCellF _ _ _ (by first | omega | simp) ?_ | with_reducible refine Ext.upFN (by first | omega | simp) ?_ | with_reducible refine Ext.up1F (by first | omega | simp) ?_ | with_reducible refine Ext.up1N (by first | omega | simp) ?_ | with_reducible refine Ext.setCell ?_ (.inr (by first | omega | simp)) _ | refine Ext.alloc ?_ _ | refine Ext.setCellF _ _ _ (by first | omega | simp) ?_ | refine Ext.setCell ?_ (.inr (by first | omega | simp)) _))⟩
  · rw [hc] at DF
    have HC := Go.Lib.hid hc
    have HL := Go.Lib.hid (conf_len hc)
    clear hc
    go_wp2_with fail
    refine Calls.ew (change_Text ep from_ view by_ text ca ccap certs HE.out.1 HE.out.2.1 HE.out.2.2 _ (HH.out.extN (by (repeat (first | with_reducible exact Ext.refl _ _ | assumption | with_reducible refine Ext.upN ?_ | with_reducible refine Ext.alloc ?_ _ | with_reducible refine Ext.upA (by assumption) ?_ | with_reducible refine Ext.upW ?_ | with_reducible refine Ext.drew ?_ | with_reducible refine Ext.drewN ?_ _ | with_reducible refine Ext.upF ?_ | with_reducible refine Ext.upFF (by first | omega | simp) ?_ | with_reducible refine Ext.setCellsF _ _ _ (by first | omega | simp) ?_ | with_reducible refine Ext.setCellF _ _ _ (by first | omega | simp) ?_ | with_reducible refine Ext.upFN (by first | omega | simp) ?_ | with_reducible refine Ext.up1F (by first | omega | simp) ?_ | with_reducible refine Ext.up1N (by first | omega | simp) ?_ | with_reducible refine Ext.setCell ?_ (.inr (by first | omega | simp)) _ | refine Ext.alloc ?_ _ | refine Ext.setCellF _ _ _ (by first | omega | simp) ?_ | refine Ext.setCell ?_ (.inr (by first | omega | simp)) _))))) ?_
    rintro e x2 rfl
    generalize hs : chS ep ⟨from_, view, certs, by_, text⟩ = ts at *
    generalize he : chE ep ⟨from_, view, certs, by_, text⟩ = te at *
    clear hs he
    by_cases h0 : te = 0
    · subst h0
      go_wp2_with fail
      refine Calls.ew (council_Has ep a cap xs from_ _ (HI.out.extN (by (repeat (first | with_reducible exact Ext.refl _ _ | assumption | with_reducible refine Ext.upN ?_ | with_reducible refine Ext.alloc ?_ _ | with_reducible refine Ext.upA (by assumption) ?_ | with_reducible refine Ext.upW ?_ | with_reducible refine Ext.drew ?_ | with_reducible refine Ext.drewN ?_ _ | with_reducible refine Ext.upF ?_ | with_reducible refine Ext.upFF (by first | omega | simp) ?_ | with_reducible refine Ext.setCellsF _ _ _ (by first | omega | simp) ?_ | with_reducible refine Ext.setCellF _ _ _ (by first | omega | simp) ?_ | with_reducible refine Ext.upFN (by first | omega | simp) ?_ | with_reducible refine Ext.up1F (by first | omega | simp) ?_ | with_reducible refine Ext.up1N (by first | omega | simp) ?_ | with_reducible refine Ext.setCell ?_ (.inr (by first | omega | simp)) _ | refine Ext.alloc ?_ _ | refine Ext.setCellF _ _ _ (by first | omega | simp) ?_ | refine Ext.setCell ?_ (.inr (by first | omega | simp)) _))))) ?_
      rintro e x3 rfl
      cases hh : hasB xs from_
      · as_aux_lemma =>
        rw [hh] at DF
        clear hh
        go_wp2
        go_ret
        exact ⟨by rw [DF.out]; rfl, by (repeat (first | with_reducible exact Ext.refl _ _ | assumption | with_reducible refine Ext.upN ?_ | with_reducible refine Ext.alloc ?_ _ | with_reducible refine Ext.upA (by assumption) ?_ | with_reducible refine Ext.upW ?_ | with_reducible refine Ext.drew ?_ | with_reducible refine Ext.drewN ?_ _ | with_reducible refine Ext.upF ?_ | with_reducible refine Ext.upFF (by first | omega | simp) ?_ | with_reducible refine Ext.setCellsF _ _ _ (by first | omega | simp) ?_ | with_reducible refine Ext.setCellF _ _ _ (by first | omega | simp) ?_ | with_reducible refine Ext.upFN (by first | omega | simp) ?_ | with_reducible refine Ext.up1F (by first | omega | simp) ?_ | with_reducible refine Ext.up1N (by first | omega | simp) ?_ | with_reducible refine Ext.setCell ?_ (.inr (by first | omega | simp)) _ | refine Ext.alloc ?_ _ | refine Ext.setCellF _ _ _ (by first | omega | simp) ?_ | refine Ext.setCell ?_ (.inr (by first | omega | simp)) _))⟩
      · rw [hh] at DF
        clear hh
        go_wp2_with fail
        generalize hse : sigE ep ⟨from_, view, certs, by_, text⟩ = se at *
        have DG : Hid (rightE ep xs ⟨from_, view, certs, by_, text⟩ = certsE ep xs view se certs) := Go.Lib.hid (by rw [DF.out]; rfl)
        clear hse DF
        go_loopw [32] (fun iv wr => ∃ (i : Nat) (z : EW Non x3.on), i ≤ certs.length ∧ iv = .int .i64 i ∧ wr = z.on ∧ Hid (certsE ep xs view se certs = certsE ep xs view se (certs.drop i))) (fun iv _ => certs.length - (intOf iv).toNat)
        case atStart => exact ⟨0, ⟨_, Ext.refl _ _⟩, Nat.zero_le _, rfl, rfl, Go.Lib.hid rfl⟩
        case round =>
          obtain ⟨i, z, hi, rfl, rfl, HD⟩ := hrel
          by_cases hlt : i < certs.length
          · obtain ⟨cb, co, sa, scap, rfl, hcb, hcells, hsg, hro, hvi, hsi⟩ := HH.out.at_ i hlt
            have HDr := Go.Lib.hid (certsE_drop ep xs view se certs i hlt)
            generalize hct : ctAt certs i = ct at *
            obtain ⟨cv, cs, ⟨rc, rs, ⟨rk, rkey, rx, rid⟩⟩, sl⟩ := ct
            clear hct
            have z0 : w.cell? ⟨cb, co + i * 9, none⟩ = some (.int .i64 cv) := hcells 0 _ rfl
            have z1 : w.cell? ⟨cb, co + i * 9 + 1, none⟩ = some (.int .i64 cs) := hcells 1 _ rfl
            have z2 : w.cell? ⟨cb, co + i * 9 + 2, none⟩ = some (.int .i64 rc) := hcells 2 _ rfl
            have z3 : w.cell? ⟨cb, co + i * 9 + 3, none⟩ = some (.int .i64 rs) := hcells 3 _ rfl
            have z4 : w.cell? ⟨cb, co + i * 9 + 4, none⟩ = some (.int .i64 rk) := hcells 4 _ rfl
            have z5 : w.cell? ⟨cb, co + i * 9 + 5, none⟩ = some (.string rkey) := hcells 5 _ rfl
            have z6 : w.cell? ⟨cb, co + i * 9 + 6, none⟩ = some (.float .f64 rx) := hcells 6 _ rfl
            have z7 : w.cell? ⟨cb, co + i * 9 + 7, none⟩ = some (.int .i64 rid) := hcells 7 _ rfl
            have z8 : w.cell? ⟨cb, co + i * 9 + 8, none⟩ = some (.slice sa sl.length scap) := hcells 8 _ rfl
            have HSg : Hid (Sigs w sa scap sl) := Go.Lib.hid hsg
            have HRo : Hid (ReqOk ⟨rc, rs, ⟨rk, rkey, rx, rid⟩⟩) := Go.Lib.hid hro; have HVS : Hid (I64 cv ∧ I64 cs) := Go.Lib.hid (And.intro hvi hsi)
            clear hcells hsg hro hvi hsi
            have HDf : Hid (certsE ep xs view se (certs.drop i) = if view ≤ cv then 13 else if provesB ep xs (prepS ep cv cs ⟨rc, rs, ⟨rk, rkey, rx, rid⟩⟩) sl = true then certsE ep xs view se (certs.drop (i + 1)) else 15) := Go.Lib.hid HDr.out
            clear HDr
            by_cases hv : view ≤ cv
            · as_aux_lemma =>
              have HV := Go.Lib.hid hv
              go_wp2_with fail
              refine Calls.ew (deeds_Prepared ep cv cs rc rs rk rkey rx rid HE.out.1 HVS.out.1 HVS.out.2 HRo.out.c HRo.out.s HRo.out.k HRo.out.id HRo.out.x HRo.out.key _) ?_
              rintro e x4 rfl
              generalize prepS ep cv cs ⟨rc, rs, ⟨rk, rkey, rx, rid⟩⟩ = pt at *
              generalize prepE ep cv cs ⟨rc, rs, ⟨rk, rkey, rx, rid⟩⟩ = pe at *
              go_wp2
              go_ret
              exact ⟨ret_int (by rw [DG.out, HD.out, HDf.out, if_pos HV.out]), by (repeat (first | with_reducible exact Ext.refl _ _ | assumption | with_reducible refine Ext.upN ?_ | with_reducible refine Ext.alloc ?_ _ | with_reducible refine Ext.upA (by assumption) ?_ | with_reducible refine Ext.upW ?_ | with_reducible refine Ext.drew ?_ | with_reducible refine Ext.drewN ?_ _ | with_reducible refine Ext.upF ?_ | with_reducible refine Ext.upFF (by first | omega | simp) ?_ | with_reducible refine Ext.setCellsF _ _ _ (by first | omega | simp) ?_ | with_reducible refine Ext.setCellF _ _ _ (by first | omega | simp) ?_ | with_reducible refine Ext.upFN (by first | omega | simp) ?_ | with_reducible refine Ext.up1F (by first | omega | simp) ?_ | with_reducible refine Ext.up1N (by first | omega | simp) ?_ | with_reducible refine Ext.setCell ?_ (.inr (by first | omega | simp)) _ | refine Ext.alloc ?_ _ | refine Ext.setCellF _ _ _ (by first | omega | simp) ?_ | refine Ext.setCell ?_ (.inr (by first | omega | simp)) _))⟩
            · have HV := Go.Lib.hid hv
              have hv' : cv < view := by omega
              go_wp2_with fail
              refine Calls.ew (deeds_Prepared ep cv cs rc rs rk rkey rx rid HE.out.1 HVS.out.1 HVS.out.2 HRo.out.c HRo.out.s HRo.out.k HRo.out.id HRo.out.x HRo.out.key _) ?_
              rintro e x4 rfl
              generalize prepS ep cv cs ⟨rc, rs, ⟨rk, rkey, rx, rid⟩⟩ = pt at *
              generalize prepE ep cv cs ⟨rc, rs, ⟨rk, rkey, rx, rid⟩⟩ = pe at *
              go_wp2_with fail
              refine Calls.ew (terms_Proves ep a cap xs _ sa scap sl _ (HI.out.extN (by (repeat (first | with_reducible exact Ext.refl _ _ | assumption | with_reducible refine Ext.upN ?_ | with_reducible refine Ext.alloc ?_ _ | with_reducible refine Ext.upA (by assumption) ?_ | with_reducible refine Ext.upW ?_ | with_reducible refine Ext.drew ?_ | with_reducible refine Ext.drewN ?_ _ | with_reducible refine Ext.upF ?_ | with_reducible refine Ext.upFF (by first | omega | simp) ?_ | with_reducible refine Ext.setCellsF _ _ _ (by first | omega | simp) ?_ | with_reducible refine Ext.setCellF _ _ _ (by first | omega | simp) ?_ | with_reducible refine Ext.upFN (by first | omega | simp) ?_ | with_reducible refine Ext.up1F (by first | omega | simp) ?_ | with_reducible refine Ext.up1N (by first | omega | simp) ?_ | with_reducible refine Ext.setCell ?_ (.inr (by first | omega | simp)) _ | refine Ext.alloc ?_ _ | refine Ext.setCellF _ _ _ (by first | omega | simp) ?_ | refine Ext.setCell ?_ (.inr (by first | omega | simp)) _)))) (HSg.out.extN (by (repeat (first | with_reducible exact Ext.refl _ _ | assumption | with_reducible refine Ext.upN ?_ | with_reducible refine Ext.alloc ?_ _ | with_reducible refine Ext.upA (by assumption) ?_ | with_reducible refine Ext.upW ?_ | with_reducible refine Ext.drew ?_ | with_reducible refine Ext.drewN ?_ _ | with_reducible refine Ext.upF ?_ | with_reducible refine Ext.upFF (by first | omega | simp) ?_ | with_reducible refine Ext.setCellsF _ _ _ (by first | omega | simp) ?_ | with_reducible refine Ext.setCellF _ _ _ (by first | omega | simp) ?_ | with_reducible refine Ext.upFN (by first | omega | simp) ?_ | with_reducible refine Ext.up1F (by first | omega | simp) ?_ | with_reducible refine Ext.up1N (by first | omega | simp) ?_ | with_reducible refine Ext.setCell ?_ (.inr (by first | omega | simp)) _ | refine Ext.alloc ?_ _ | refine Ext.setCellF _ _ _ (by first | omega | simp) ?_ | refine Ext.setCell ?_ (.inr (by first | omega | simp)) _))))) ?_
              rintro e x5 rfl
              cases hp : provesB ep xs pt sl
              · as_aux_lemma =>
                have HP := Go.Lib.hid hp; clear hp
                go_wp2
                go_ret
                exact ⟨ret_int (by rw [DG.out, HD.out, HDf.out, if_neg (show ¬ view ≤ cv by have := HV.out; omega), HP.out]; rfl), by (repeat (first | with_reducible exact Ext.refl _ _ | assumption | with_reducible refine Ext.upN ?_ | with_reducible refine Ext.alloc ?_ _ | with_reducible refine Ext.upA (by assumption) ?_ | with_reducible refine Ext.upW ?_ | with_reducible refine Ext.drew ?_ | with_reducible refine Ext.drewN ?_ _ | with_reducible refine Ext.upF ?_ | with_reducible refine Ext.upFF (by first | omega | simp) ?_ | with_reducible refine Ext.setCellsF _ _ _ (by first | omega | simp) ?_ | with_reducible refine Ext.setCellF _ _ _ (by first | omega | simp) ?_ | with_reducible refine Ext.upFN (by first | omega | simp) ?_ | with_reducible refine Ext.up1F (by first | omega | simp) ?_ | with_reducible refine Ext.up1N (by first | omega | simp) ?_ | with_reducible refine Ext.setCell ?_ (.inr (by first | omega | simp)) _ | refine Ext.alloc ?_ _ | refine Ext.setCellF _ _ _ (by first | omega | simp) ?_ | refine Ext.setCell ?_ (.inr (by first | omega | simp)) _))⟩
              · have HP := Go.Lib.hid hp; clear hp
                go_wp2_with fail
                go_roundw
                case rel => exact ⟨i + 1, ⟨_, by (repeat (first | with_reducible exact Ext.refl _ _ | assumption | with_reducible refine Ext.upN ?_ | with_reducible refine Ext.alloc ?_ _ | with_reducible refine Ext.upA (by assumption) ?_ | with_reducible refine Ext.upW ?_ | with_reducible refine Ext.drew ?_ | with_reducible refine Ext.drewN ?_ _ | with_reducible refine Ext.upF ?_ | with_reducible refine Ext.upFF (by first | omega | simp) ?_ | with_reducible refine Ext.setCellsF _ _ _ (by first | omega | simp) ?_ | with_reducible refine Ext.setCellF _ _ _ (by first | omega | simp) ?_ | with_reducible refine Ext.upFN (by first | omega | simp) ?_ | with_reducible refine Ext.up1F (by first | omega | simp) ?_ | with_reducible refine Ext.up1N (by first | omega | simp) ?_ | with_reducible refine Ext.setCell ?_ (.inr (by first | omega | simp)) _ | refine Ext.alloc ?_ _ | refine Ext.setCellF _ _ _ (by first | omega | simp) ?_ | refine Ext.setCell ?_ (.inr (by first | omega | simp)) _))⟩, hlt, by go_num, rfl, Go.Lib.hid (by rw [HD.out, HDf.out, if_neg (show ¬ view ≤ cv by have := HV.out; omega), HP.out]; rfl)⟩
                case measure => simp [intOf]; omega
          · have DZ : Hid (rightE ep xs ⟨from_, view, certs, by_, text⟩ = se) := Go.Lib.hid (by rw [DG.out, HD.out, List.drop_eq_nil_of_le (by omega)]; rfl)
            by_cases hb : by_ = from_
            · subst hb
              have hbb : (by_ != by_) = false := by simp
              by_cases ht : text = ts
              · have hte : (text.toList == ts.toList) = true := by rw [ht]; simp
                have hte2 : text.toList = ts.toList := by rw [ht]
                have HZ : Hid (se = 0) := Go.Lib.hid (by rw [SG.out, if_pos ⟨rfl, ht⟩])
                clear ht
                go_wp2
                go_ret
                exact ⟨ret_int (by rw [DZ.out, HZ.out]), by (repeat (first | with_reducible exact Ext.refl _ _ | assumption | with_reducible refine Ext.upN ?_ | with_reducible refine Ext.alloc ?_ _ | with_reducible refine Ext.upA (by assumption) ?_ | with_reducible refine Ext.upW ?_ | with_reducible refine Ext.drew ?_ | with_reducible refine Ext.drewN ?_ _ | with_reducible refine Ext.upF ?_ | with_reducible refine Ext.upFF (by first | omega | simp) ?_ | with_reducible refine Ext.setCellsF _ _ _ (by first | omega | simp) ?_ | with_reducible refine Ext.setCellF _ _ _ (by first | omega | simp) ?_ | with_reducible refine Ext.upFN (by first | omega | simp) ?_ | with_reducible refine Ext.up1F (by first | omega | simp) ?_ | with_reducible refine Ext.up1N (by first | omega | simp) ?_ | with_reducible refine Ext.setCell ?_ (.inr (by first | omega | simp)) _ | refine Ext.alloc ?_ _ | refine Ext.setCellF _ _ _ (by first | omega | simp) ?_ | refine Ext.setCell ?_ (.inr (by first | omega | simp)) _))⟩
              · have hte : (text.toList == ts.toList) = false := by rw [beq_eq_false_iff_ne]; intro h; exact ht (toList_inj h)
                have hte2 : ¬ text.toList = ts.toList := fun h => ht (toList_inj h)
                have HZ : Hid (se = 16) := Go.Lib.hid (by rw [SG.out, if_neg (fun h => ht h.2)])
                clear ht
                go_wp2
                go_ret
                exact ⟨ret_int (by rw [DZ.out, HZ.out]), by (repeat (first | with_reducible exact Ext.refl _ _ | assumption | with_reducible refine Ext.upN ?_ | with_reducible refine Ext.alloc ?_ _ | with_reducible refine Ext.upA (by assumption) ?_ | with_reducible refine Ext.upW ?_ | with_reducible refine Ext.drew ?_ | with_reducible refine Ext.drewN ?_ _ | with_reducible refine Ext.upF ?_ | with_reducible refine Ext.upFF (by first | omega | simp) ?_ | with_reducible refine Ext.setCellsF _ _ _ (by first | omega | simp) ?_ | with_reducible refine Ext.setCellF _ _ _ (by first | omega | simp) ?_ | with_reducible refine Ext.upFN (by first | omega | simp) ?_ | with_reducible refine Ext.up1F (by first | omega | simp) ?_ | with_reducible refine Ext.up1N (by first | omega | simp) ?_ | with_reducible refine Ext.setCell ?_ (.inr (by first | omega | simp)) _ | refine Ext.alloc ?_ _ | refine Ext.setCellF _ _ _ (by first | omega | simp) ?_ | refine Ext.setCell ?_ (.inr (by first | omega | simp)) _))⟩
            · have hbn : (by_ != from_) = true := by rw [bne_iff_ne]; exact hb
              have hbe : (by_ == from_) = false := by rw [beq_eq_false_iff_ne]; exact hb
              have HZ : Hid (se = 16) := Go.Lib.hid (by rw [SG.out, if_neg (fun h => hb h.1)])
              go_wp2
              go_ret
              exact ⟨ret_int (by rw [DZ.out, HZ.out]), by (repeat (first | with_reducible exact Ext.refl _ _ | assumption | with_reducible refine Ext.upN ?_ | with_reducible refine Ext.alloc ?_ _ | with_reducible refine Ext.upA (by assumption) ?_ | with_reducible refine Ext.upW ?_ | with_reducible refine Ext.drew ?_ | with_reducible refine Ext.drewN ?_ _ | with_reducible refine Ext.upF ?_ | with_reducible refine Ext.upFF (by first | omega | simp) ?_ | with_reducible refine Ext.setCellsF _ _ _ (by first | omega | simp) ?_ | with_reducible refine Ext.setCellF _ _ _ (by first | omega | simp) ?_ | with_reducible refine Ext.upFN (by first | omega | simp) ?_ | with_reducible refine Ext.up1F (by first | omega | simp) ?_ | with_reducible refine Ext.up1N (by first | omega | simp) ?_ | with_reducible refine Ext.setCell ?_ (.inr (by first | omega | simp)) _ | refine Ext.alloc ?_ _ | refine Ext.setCellF _ _ _ (by first | omega | simp) ?_ | refine Ext.setCell ?_ (.inr (by first | omega | simp)) _))⟩
    · as_aux_lemma =>
      have HN := Go.Lib.hid h0
      have hbe : (te != 0) = true := by rw [bne_iff_ne]; exact h0
      clear h0
      go_wp2
      go_ret
      exact ⟨ret_int (by rw [DF.out]; simp [show ¬ te = 0 from HN.out]), by (repeat (first | with_reducible exact Ext.refl _ _ | assumption | with_reducible refine Ext.upN ?_ | with_reducible refine Ext.alloc ?_ _ | with_reducible refine Ext.upA (by assumption) ?_ | with_reducible refine Ext.upW ?_ | with_reducible refine Ext.drew ?_ | with_reducible refine Ext.drewN ?_ _ | with_reducible refine Ext.upF ?_ | with_reducible refine Ext.upFF (by first | omega | simp) ?_ | with_reducible refine Ext.setCellsF _ _ _ (by first | omega | simp) ?_ | with_reducible refine Ext.setCellF _ _ _ (by first | omega | simp) ?_ | with_reducible refine Ext.upFN (by first | omega | simp) ?_ | with_reducible refine Ext.up1F (by first | omega | simp) ?_ | with_reducible refine Ext.up1N (by first | omega | simp) ?_ | with_reducible refine Ext.setCell ?_ (.inr (by first | omega | simp)) _ | refine Ext.alloc ?_ _ | refine Ext.setCellF _ _ _ (by first | omega | simp) ?_ | refine Ext.setCell ?_ (.inr (by first | omega | simp)) _))⟩
set_option maxHeartbeats 4000000 in
set_option maxRecDepth 100000 in
theorem ref16_Right (ep : Int) (a : Option Addr) (cap : Nat) (xs : List Int) (from_ view by_ : Int) (text : ByteArray) (ca : Option Addr) (ccap : Nat) (certs : List Ct) (hie : I64 ep) (hif : I64 from_) (hiv : I64 view) (w : World) (hi : Ints w a cap xs) (h : Certs w ca ccap certs) :
    Calls Try.prog 18 #[.agg #[.int .i64 ep, .slice a xs.length cap], .agg #[.int .i64 from_, .int .i64 view, .slice ca certs.length ccap, .int .i64 by_, .string text]] w fun e w' =>
    e = .returned (.int .i64 (rightE ep xs ⟨from_, view, certs, by_, text⟩)) ∧ Ext Non w w' := by
  have HH := Go.Lib.hid h; have HI := Go.Lib.hid hi
  have HE := Go.Lib.hid (And.intro hie (And.intro hif hiv))
  have hsm := h.small; have hsl := h.le
  have DF : Hid (rightE ep xs ⟨from_, view, certs, by_, text⟩ = if confB ep xs = true then (if chE ep ⟨from_, view, certs, by_, text⟩ = 0 then (if hasB xs from_ = true then certsE ep xs view (sigE ep ⟨from_, view, certs, by_, text⟩) certs else 8) else chE ep ⟨from_, view, certs, by_, text⟩) else 1) := Go.Lib.hid rfl
  have SG : Hid (sigE ep ⟨from_, view, certs, by_, text⟩ = if by_ = from_ ∧ text = chS ep ⟨from_, view, certs, by_, text⟩ then 0 else 16) := Go.Lib.hid rfl
  clear h hi hie hif hiv
  go_enter Try.func18, Try.ntmps18
  go_wp2_with fail
  refine Calls.ew (ref_Right07 ep a cap xs _ (HI.out.extN (by (repeat (first | with_reducible exact Ext.refl _ _ | assumption | with_reducible refine Ext.upN ?_ | with_reducible refine Ext.alloc ?_ _ | with_reducible refine Ext.upA (by assumption) ?_ | with_reducible refine Ext.upW ?_ | with_reducible refine Ext.drew ?_ | with_reducible refine Ext.drewN ?_ _ | with_reducible refine Ext.upF ?_ | with_reducible refine Ext.upFF (by first | omega | simp) ?_ | with_reducible refine Ext.setCellsF _ _ _ (by first | omega | simp) ?_ | with_reducible refine Ext.setCellF _ _ _ (by first | omega | simp) ?_ | with_reducible refine Ext.upFN (by first | omega | simp) ?_ | with_reducible refine Ext.up1F (by first | omega | simp) ?_ | with_reducible refine Ext.up1N (by first | omega | simp) ?_ | with_reducible refine Ext.setCell ?_ (.inr (by first | omega | simp)) _ | refine Ext.alloc ?_ _ | refine Ext.setCellF _ _ _ (by first | omega | simp) ?_ | refine Ext.setCell ?_ (.inr (by first | omega | simp)) _))))) ?_
  rintro e x1 rfl
  cases hc : confB ep xs
  · as_aux_lemma =>
    rw [hc] at DF
    clear hc
    go_wp2
    go_ret
    exact ⟨by rw [DF.out]; rfl, by (repeat (first | with_reducible exact Ext.refl _ _ | assumption | with_reducible refine Ext.upN ?_ | with_reducible refine Ext.alloc ?_ _ | with_reducible refine Ext.upA (by assumption) ?_ | with_reducible refine Ext.upW ?_ | with_reducible refine Ext.drew ?_ | with_reducible refine Ext.drewN ?_ _ | with_reducible refine Ext.upF ?_ | with_reducible refine Ext.upFF (by first | omega | simp) ?_ | with_reducible refine Ext.setCellsF _ _ _ (by first | omega | simp) ?_ | with_reducible refine Ext.setCellF _ _ _ (by first | omega | simp) ?_ | with_reducible refine Ext.upFN (by first | omega | simp) ?_ | with_reducible refine Ext.up1F (by first | omega | simp) ?_ | with_reducible refine Ext.up1N (by first | omega | simp) ?_ | with_reducible refine Ext.setCell ?_ (.inr (by first | omega | simp)) _ | refine Ext.alloc ?_ _ | refine Ext.setCellF _ _ _ (by first | omega | simp) ?_ | refine Ext.setCell ?_ (.inr (by first | omega | simp)) _))⟩
  · rw [hc] at DF
    have HC := Go.Lib.hid hc
    have HL := Go.Lib.hid (conf_len hc)
    clear hc
    go_wp2_with fail
    refine Calls.ew (ref16_Text ep from_ view by_ text ca ccap certs HE.out.1 HE.out.2.1 HE.out.2.2 _ (HH.out.extN (by (repeat (first | with_reducible exact Ext.refl _ _ | assumption | with_reducible refine Ext.upN ?_ | with_reducible refine Ext.alloc ?_ _ | with_reducible refine Ext.upA (by assumption) ?_ | with_reducible refine Ext.upW ?_ | with_reducible refine Ext.drew ?_ | with_reducible refine Ext.drewN ?_ _ | with_reducible refine Ext.upF ?_ | with_reducible refine Ext.upFF (by first | omega | simp) ?_ | with_reducible refine Ext.setCellsF _ _ _ (by first | omega | simp) ?_ | with_reducible refine Ext.setCellF _ _ _ (by first | omega | simp) ?_ | with_reducible refine Ext.upFN (by first | omega | simp) ?_ | with_reducible refine Ext.up1F (by first | omega | simp) ?_ | with_reducible refine Ext.up1N (by first | omega | simp) ?_ | with_reducible refine Ext.setCell ?_ (.inr (by first | omega | simp)) _ | refine Ext.alloc ?_ _ | refine Ext.setCellF _ _ _ (by first | omega | simp) ?_ | refine Ext.setCell ?_ (.inr (by first | omega | simp)) _))))) ?_
    rintro e x2 rfl
    generalize hs : chS ep ⟨from_, view, certs, by_, text⟩ = ts at *
    generalize he : chE ep ⟨from_, view, certs, by_, text⟩ = te at *
    clear hs he
    by_cases h0 : te = 0
    · subst h0
      go_wp2_with fail
      refine Calls.ewD (ref_Has a cap xs from_ _ (HI.out.extN (by (repeat (first | with_reducible exact Ext.refl _ _ | assumption | with_reducible refine Ext.upN ?_ | with_reducible refine Ext.alloc ?_ _ | with_reducible refine Ext.upA (by assumption) ?_ | with_reducible refine Ext.upW ?_ | with_reducible refine Ext.drew ?_ | with_reducible refine Ext.drewN ?_ _ | with_reducible refine Ext.upF ?_ | with_reducible refine Ext.upFF (by first | omega | simp) ?_ | with_reducible refine Ext.setCellsF _ _ _ (by first | omega | simp) ?_ | with_reducible refine Ext.setCellF _ _ _ (by first | omega | simp) ?_ | with_reducible refine Ext.upFN (by first | omega | simp) ?_ | with_reducible refine Ext.up1F (by first | omega | simp) ?_ | with_reducible refine Ext.up1N (by first | omega | simp) ?_ | with_reducible refine Ext.setCell ?_ (.inr (by first | omega | simp)) _ | refine Ext.alloc ?_ _ | refine Ext.setCellF _ _ _ (by first | omega | simp) ?_ | refine Ext.setCell ?_ (.inr (by first | omega | simp)) _))))) ?_
      rintro e x3 rfl
      cases hh : hasB xs from_
      · as_aux_lemma =>
        rw [hh] at DF
        clear hh
        go_wp2
        go_ret
        exact ⟨by rw [DF.out]; rfl, by (repeat (first | with_reducible exact Ext.refl _ _ | assumption | with_reducible refine Ext.upN ?_ | with_reducible refine Ext.alloc ?_ _ | with_reducible refine Ext.upA (by assumption) ?_ | with_reducible refine Ext.upW ?_ | with_reducible refine Ext.drew ?_ | with_reducible refine Ext.drewN ?_ _ | with_reducible refine Ext.upF ?_ | with_reducible refine Ext.upFF (by first | omega | simp) ?_ | with_reducible refine Ext.setCellsF _ _ _ (by first | omega | simp) ?_ | with_reducible refine Ext.setCellF _ _ _ (by first | omega | simp) ?_ | with_reducible refine Ext.upFN (by first | omega | simp) ?_ | with_reducible refine Ext.up1F (by first | omega | simp) ?_ | with_reducible refine Ext.up1N (by first | omega | simp) ?_ | with_reducible refine Ext.setCell ?_ (.inr (by first | omega | simp)) _ | refine Ext.alloc ?_ _ | refine Ext.setCellF _ _ _ (by first | omega | simp) ?_ | refine Ext.setCell ?_ (.inr (by first | omega | simp)) _))⟩
      · rw [hh] at DF
        clear hh
        go_wp2_with fail
        generalize hse : sigE ep ⟨from_, view, certs, by_, text⟩ = se at *
        have DG : Hid (rightE ep xs ⟨from_, view, certs, by_, text⟩ = certsE ep xs view se certs) := Go.Lib.hid (by rw [DF.out]; rfl)
        clear hse DF
        go_loopw [7] (fun iv wr => ∃ (i : Nat) (z : EW Non x3.on), i ≤ certs.length ∧ iv = .int .i64 i ∧ wr = z.on ∧ Hid (certsE ep xs view se certs = certsE ep xs view se (certs.drop i))) (fun iv _ => certs.length - (intOf iv).toNat)
        case atStart => exact ⟨0, ⟨_, Ext.refl _ _⟩, Nat.zero_le _, rfl, rfl, Go.Lib.hid rfl⟩
        case round =>
          obtain ⟨i, z, hi, rfl, rfl, HD⟩ := hrel
          by_cases hlt : i < certs.length
          · obtain ⟨cb, co, sa, scap, rfl, hcb, hcells, hsg, hro, hvi, hsi⟩ := HH.out.at_ i hlt
            have HDr := Go.Lib.hid (certsE_drop ep xs view se certs i hlt)
            generalize hct : ctAt certs i = ct at *
            obtain ⟨cv, cs, ⟨rc, rs, ⟨rk, rkey, rx, rid⟩⟩, sl⟩ := ct
            clear hct
            have z0 : w.cell? ⟨cb, co + i * 9, none⟩ = some (.int .i64 cv) := hcells 0 _ rfl
            have z1 : w.cell? ⟨cb, co + i * 9 + 1, none⟩ = some (.int .i64 cs) := hcells 1 _ rfl
            have z2 : w.cell? ⟨cb, co + i * 9 + 2, none⟩ = some (.int .i64 rc) := hcells 2 _ rfl
            have z3 : w.cell? ⟨cb, co + i * 9 + 3, none⟩ = some (.int .i64 rs) := hcells 3 _ rfl
            have z4 : w.cell? ⟨cb, co + i * 9 + 4, none⟩ = some (.int .i64 rk) := hcells 4 _ rfl
            have z5 : w.cell? ⟨cb, co + i * 9 + 5, none⟩ = some (.string rkey) := hcells 5 _ rfl
            have z6 : w.cell? ⟨cb, co + i * 9 + 6, none⟩ = some (.float .f64 rx) := hcells 6 _ rfl
            have z7 : w.cell? ⟨cb, co + i * 9 + 7, none⟩ = some (.int .i64 rid) := hcells 7 _ rfl
            have z8 : w.cell? ⟨cb, co + i * 9 + 8, none⟩ = some (.slice sa sl.length scap) := hcells 8 _ rfl
            have HSg : Hid (Sigs w sa scap sl) := Go.Lib.hid hsg
            have HRo : Hid (ReqOk ⟨rc, rs, ⟨rk, rkey, rx, rid⟩⟩) := Go.Lib.hid hro; have HVS : Hid (I64 cv ∧ I64 cs) := Go.Lib.hid (And.intro hvi hsi)
            clear hcells hsg hro hvi hsi
            have HDf : Hid (certsE ep xs view se (certs.drop i) = if view ≤ cv then 13 else if provesB ep xs (prepS ep cv cs ⟨rc, rs, ⟨rk, rkey, rx, rid⟩⟩) sl = true then certsE ep xs view se (certs.drop (i + 1)) else 15) := Go.Lib.hid HDr.out
            clear HDr
            by_cases hv : view ≤ cv
            · as_aux_lemma =>
              have HV := Go.Lib.hid hv
              go_wp2
              go_ret
              exact ⟨ret_int (by rw [DG.out, HD.out, HDf.out, if_pos HV.out]), by (repeat (first | with_reducible exact Ext.refl _ _ | assumption | with_reducible refine Ext.upN ?_ | with_reducible refine Ext.alloc ?_ _ | with_reducible refine Ext.upA (by assumption) ?_ | with_reducible refine Ext.upW ?_ | with_reducible refine Ext.drew ?_ | with_reducible refine Ext.drewN ?_ _ | with_reducible refine Ext.upF ?_ | with_reducible refine Ext.upFF (by first | omega | simp) ?_ | with_reducible refine Ext.setCellsF _ _ _ (by first | omega | simp) ?_ | with_reducible refine Ext.setCellF _ _ _ (by first | omega | simp) ?_ | with_reducible refine Ext.upFN (by first | omega | simp) ?_ | with_reducible refine Ext.up1F (by first | omega | simp) ?_ | with_reducible refine Ext.up1N (by first | omega | simp) ?_ | with_reducible refine Ext.setCell ?_ (.inr (by first | omega | simp)) _ | refine Ext.alloc ?_ _ | refine Ext.setCellF _ _ _ (by first | omega | simp) ?_ | refine Ext.setCell ?_ (.inr (by first | omega | simp)) _))⟩
            · have HV := Go.Lib.hid hv
              have hv' : cv < view := by omega
              go_wp2_with fail
              refine Calls.ew (ref_Prepared ep cv cs rc rs rk rkey rx rid HE.out.1 HVS.out.1 HVS.out.2 HRo.out.c HRo.out.s HRo.out.k HRo.out.id HRo.out.x HRo.out.key _) ?_
              rintro e x4 rfl
              generalize prepS ep cv cs ⟨rc, rs, ⟨rk, rkey, rx, rid⟩⟩ = pt at *
              generalize prepE ep cv cs ⟨rc, rs, ⟨rk, rkey, rx, rid⟩⟩ = pe at *
              go_wp2_with fail
              refine Calls.ew (ref_Proves ep a cap xs HL.out _ sa scap sl _ (HI.out.extN (by (repeat (first | with_reducible exact Ext.refl _ _ | assumption | with_reducible refine Ext.upN ?_ | with_reducible refine Ext.alloc ?_ _ | with_reducible refine Ext.upA (by assumption) ?_ | with_reducible refine Ext.upW ?_ | with_reducible refine Ext.drew ?_ | with_reducible refine Ext.drewN ?_ _ | with_reducible refine Ext.upF ?_ | with_reducible refine Ext.upFF (by first | omega | simp) ?_ | with_reducible refine Ext.setCellsF _ _ _ (by first | omega | simp) ?_ | with_reducible refine Ext.setCellF _ _ _ (by first | omega | simp) ?_ | with_reducible refine Ext.upFN (by first | omega | simp) ?_ | with_reducible refine Ext.up1F (by first | omega | simp) ?_ | with_reducible refine Ext.up1N (by first | omega | simp) ?_ | with_reducible refine Ext.setCell ?_ (.inr (by first | omega | simp)) _ | refine Ext.alloc ?_ _ | refine Ext.setCellF _ _ _ (by first | omega | simp) ?_ | refine Ext.setCell ?_ (.inr (by first | omega | simp)) _)))) (HSg.out.extN (by (repeat (first | with_reducible exact Ext.refl _ _ | assumption | with_reducible refine Ext.upN ?_ | with_reducible refine Ext.alloc ?_ _ | with_reducible refine Ext.upA (by assumption) ?_ | with_reducible refine Ext.upW ?_ | with_reducible refine Ext.drew ?_ | with_reducible refine Ext.drewN ?_ _ | with_reducible refine Ext.upF ?_ | with_reducible refine Ext.upFF (by first | omega | simp) ?_ | with_reducible refine Ext.setCellsF _ _ _ (by first | omega | simp) ?_ | with_reducible refine Ext.setCellF _ _ _ (by first | omega | simp) ?_ | with_reducible refine Ext.upFN (by first | omega | simp) ?_ | with_reducible refine Ext.up1F (by first | omega | simp) ?_ | with_reducible refine Ext.up1N (by first | omega | simp) ?_ | with_reducible refine Ext.setCell ?_ (.inr (by first | omega | simp)) _ | refine Ext.alloc ?_ _ | refine Ext.setCellF _ _ _ (by first | omega | simp) ?_ | refine Ext.setCell ?_ (.inr (by first | omega | simp)) _))))) ?_
              rintro e x5 rfl
              cases hp : provesB ep xs pt sl
              · as_aux_lemma =>
                have HP := Go.Lib.hid hp; clear hp
                go_wp2
                go_ret
                exact ⟨ret_int (by rw [DG.out, HD.out, HDf.out, if_neg (show ¬ view ≤ cv by have := HV.out; omega), HP.out]; rfl), by (repeat (first | with_reducible exact Ext.refl _ _ | assumption | with_reducible refine Ext.upN ?_ | with_reducible refine Ext.alloc ?_ _ | with_reducible refine Ext.upA (by assumption) ?_ | with_reducible refine Ext.upW ?_ | with_reducible refine Ext.drew ?_ | with_reducible refine Ext.drewN ?_ _ | with_reducible refine Ext.upF ?_ | with_reducible refine Ext.upFF (by first | omega | simp) ?_ | with_reducible refine Ext.setCellsF _ _ _ (by first | omega | simp) ?_ | with_reducible refine Ext.setCellF _ _ _ (by first | omega | simp) ?_ | with_reducible refine Ext.upFN (by first | omega | simp) ?_ | with_reducible refine Ext.up1F (by first | omega | simp) ?_ | with_reducible refine Ext.up1N (by first | omega | simp) ?_ | with_reducible refine Ext.setCell ?_ (.inr (by first | omega | simp)) _ | refine Ext.alloc ?_ _ | refine Ext.setCellF _ _ _ (by first | omega | simp) ?_ | refine Ext.setCell ?_ (.inr (by first | omega | simp)) _))⟩
              · have HP := Go.Lib.hid hp; clear hp
                go_wp2_with fail
                go_roundw
                case rel => exact ⟨i + 1, ⟨_, by (repeat (first | with_reducible exact Ext.refl _ _ | assumption | with_reducible refine Ext.upN ?_ | with_reducible refine Ext.alloc ?_ _ | with_reducible refine Ext.upA (by assumption) ?_ | with_reducible refine Ext.upW ?_ | with_reducible refine Ext.drew ?_ | with_reducible refine Ext.drewN ?_ _ | with_reducible refine Ext.upF ?_ | with_reducible refine Ext.upFF (by first | omega | simp) ?_ | with_reducible refine Ext.setCellsF _ _ _ (by first | omega | simp) ?_ | with_reducible refine Ext.setCellF _ _ _ (by first | omega | simp) ?_ | with_reducible refine Ext.upFN (by first | omega | simp) ?_ | with_reducible refine Ext.up1F (by first | omega | simp) ?_ | with_reducible refine Ext.up1N (by first | omega | simp) ?_ | with_reducible refine Ext.setCell ?_ (.inr (by first | omega | simp)) _ | refine Ext.alloc ?_ _ | refine Ext.setCellF _ _ _ (by first | omega | simp) ?_ | refine Ext.setCell ?_ (.inr (by first | omega | simp)) _))⟩, hlt, by go_num, rfl, Go.Lib.hid (by rw [HD.out, HDf.out, if_neg (show ¬ view ≤ cv by have := HV.out; omega), HP.out]; rfl)⟩
                case measure => simp [intOf]; omega
          · have DZ : Hid (rightE ep xs ⟨from_, view, certs, by_, text⟩ = se) := Go.Lib.hid (by rw [DG.out, HD.out, List.drop_eq_nil_of_le (by omega)]; rfl)
            by_cases hb : by_ = from_
            · subst hb
              have hbb : (by_ != by_) = false := by simp
              by_cases ht : text = ts
              · have hte : (text.toList == ts.toList) = true := by rw [ht]; simp
                have hte2 : text.toList = ts.toList := by rw [ht]
                have HZ : Hid (se = 0) := Go.Lib.hid (by rw [SG.out, if_pos ⟨rfl, ht⟩])
                clear ht
                go_wp2
                go_ret
                exact ⟨ret_int (by rw [DZ.out, HZ.out]), by (repeat (first | with_reducible exact Ext.refl _ _ | assumption | with_reducible refine Ext.upN ?_ | with_reducible refine Ext.alloc ?_ _ | with_reducible refine Ext.upA (by assumption) ?_ | with_reducible refine Ext.upW ?_ | with_reducible refine Ext.drew ?_ | with_reducible refine Ext.drewN ?_ _ | with_reducible refine Ext.upF ?_ | with_reducible refine Ext.upFF (by first | omega | simp) ?_ | with_reducible refine Ext.setCellsF _ _ _ (by first | omega | simp) ?_ | with_reducible refine Ext.setCellF _ _ _ (by first | omega | simp) ?_ | with_reducible refine Ext.upFN (by first | omega | simp) ?_ | with_reducible refine Ext.up1F (by first | omega | simp) ?_ | with_reducible refine Ext.up1N (by first | omega | simp) ?_ | with_reducible refine Ext.setCell ?_ (.inr (by first | omega | simp)) _ | refine Ext.alloc ?_ _ | refine Ext.setCellF _ _ _ (by first | omega | simp) ?_ | refine Ext.setCell ?_ (.inr (by first | omega | simp)) _))⟩
              · have hte : (text.toList == ts.toList) = false := by rw [beq_eq_false_iff_ne]; intro h; exact ht (toList_inj h)
                have hte2 : ¬ text.toList = ts.toList := fun h => ht (toList_inj h)
                have HZ : Hid (se = 16) := Go.Lib.hid (by rw [SG.out, if_neg (fun h => ht h.2)])
                clear ht
                go_wp2
                go_ret
                exact ⟨ret_int (by rw [DZ.out, HZ.out]), by (repeat (first | with_reducible exact Ext.refl _ _ | assumption | with_reducible refine Ext.upN ?_ | with_reducible refine Ext.alloc ?_ _ | with_reducible refine Ext.upA (by assumption) ?_ | with_reducible refine Ext.upW ?_ | with_reducible refine Ext.drew ?_ | with_reducible refine Ext.drewN ?_ _ | with_reducible refine Ext.upF ?_ | with_reducible refine Ext.upFF (by first | omega | simp) ?_ | with_reducible refine Ext.setCellsF _ _ _ (by first | omega | simp) ?_ | with_reducible refine Ext.setCellF _ _ _ (by first | omega | simp) ?_ | with_reducible refine Ext.upFN (by first | omega | simp) ?_ | with_reducible refine Ext.up1F (by first | omega | simp) ?_ | with_reducible refine Ext.up1N (by first | omega | simp) ?_ | with_reducible refine Ext.setCell ?_ (.inr (by first | omega | simp)) _ | refine Ext.alloc ?_ _ | refine Ext.setCellF _ _ _ (by first | omega | simp) ?_ | refine Ext.setCell ?_ (.inr (by first | omega | simp)) _))⟩
            · have hbn : (by_ != from_) = true := by rw [bne_iff_ne]; exact hb
              have hbe : (by_ == from_) = false := by rw [beq_eq_false_iff_ne]; exact hb
              have HZ : Hid (se = 16) := Go.Lib.hid (by rw [SG.out, if_neg (fun h => hb h.1)])
              go_wp2
              go_ret
              exact ⟨ret_int (by rw [DZ.out, HZ.out]), by (repeat (first | with_reducible exact Ext.refl _ _ | assumption | with_reducible refine Ext.upN ?_ | with_reducible refine Ext.alloc ?_ _ | with_reducible refine Ext.upA (by assumption) ?_ | with_reducible refine Ext.upW ?_ | with_reducible refine Ext.drew ?_ | with_reducible refine Ext.drewN ?_ _ | with_reducible refine Ext.upF ?_ | with_reducible refine Ext.upFF (by first | omega | simp) ?_ | with_reducible refine Ext.setCellsF _ _ _ (by first | omega | simp) ?_ | with_reducible refine Ext.setCellF _ _ _ (by first | omega | simp) ?_ | with_reducible refine Ext.upFN (by first | omega | simp) ?_ | with_reducible refine Ext.up1F (by first | omega | simp) ?_ | with_reducible refine Ext.up1N (by first | omega | simp) ?_ | with_reducible refine Ext.setCell ?_ (.inr (by first | omega | simp)) _ | refine Ext.alloc ?_ _ | refine Ext.setCellF _ _ _ (by first | omega | simp) ?_ | refine Ext.setCell ?_ (.inr (by first | omega | simp)) _))⟩
    · as_aux_lemma =>
      have HN := Go.Lib.hid h0
      have hbe : (te != 0) = true := by rw [bne_iff_ne]; exact h0
      clear h0
      go_wp2
      go_ret
      exact ⟨ret_int (by rw [DF.out]; simp [show ¬ te = 0 from HN.out]), by (repeat (first | with_reducible exact Ext.refl _ _ | assumption | with_reducible refine Ext.upN ?_ | with_reducible refine Ext.alloc ?_ _ | with_reducible refine Ext.upA (by assumption) ?_ | with_reducible refine Ext.upW ?_ | with_reducible refine Ext.drew ?_ | with_reducible refine Ext.drewN ?_ _ | with_reducible refine Ext.upF ?_ | with_reducible refine Ext.upFF (by first | omega | simp) ?_ | with_reducible refine Ext.setCellsF _ _ _ (by first | omega | simp) ?_ | with_reducible refine Ext.setCellF _ _ _ (by first | omega | simp) ?_ | with_reducible refine Ext.upFN (by first | omega | simp) ?_ | with_reducible refine Ext.up1F (by first | omega | simp) ?_ | with_reducible refine Ext.up1N (by first | omega | simp) ?_ | with_reducible refine Ext.setCell ?_ (.inr (by first | omega | simp)) _ | refine Ext.alloc ?_ _ | refine Ext.setCellF _ _ _ (by first | omega | simp) ?_ | refine Ext.setCell ?_ (.inr (by first | omega | simp)) _))⟩
end Go.Proofs.Ytakbkpklfihfiaa
