/- Contracts of layer 16: the first error of a list of changes. -/
import Derived.Test.YtakbkpklfihfiaaPickP
namespace Go.Proofs.Ytakbkpklfihfiaa
open Go.RowKit Go.Lib F64
set_option linter.unusedSimpArgs false
set_option linter.unusedVariables false
attribute [local go_sem] run_store_float
attribute [local go_sem low] EW.cellN EW.frozN alloc_cell_or alloc_froz_or
set_option maxHeartbeats 4000000 in
set_option maxRecDepth 100000 in
theorem change_check (ep : Int) (a : Option Addr) (cap : Nat) (xs : List Int) (view : Int) (la : Option Addr) (lcap : Nat) (l : List Ch) (hie : I64 ep) (w : World) (hi : Ints w a cap xs) (h : Chs w la lcap l) :
    Calls Try.prog 73 #[.agg #[.int .i64 ep, .slice a xs.length cap], .int .i64 view, .slice la l.length lcap] w fun e w' =>
    e = .returned (.int .i64 (checkE ep xs view l)) ∧ Ext Non w w' := by
  have HH := Go.Lib.hid h; have HI := Go.Lib.hid hi
  have HE := Go.Lib.hid hie
  have hsm := h.small; have hsl := h.le
  have DF : Hid (checkE ep xs view l = if confB ep xs = true then (if viewsB view l = true then (if rightsE ep xs l = 0 then (if riseB (-1) l = true then (if (l.length : Int) < quorumI xs.length then 15 else 0) else 17) else rightsE ep xs l) else 13) else 1) := Go.Lib.hid rfl
  clear h hi hie
  go_enter Try.func73, Try.ntmps73
  go_wp2_with fail
  refine Calls.ew (council_Right ep a cap xs _ (HI.out.extN (by (repeat (first | with_reducible exact Ext.refl _ _ | assumption | with_reducible refine Ext.upN ?_ | with_reducible refine Ext.alloc ?_ _ | with_reducible refine Ext.upA (by assumption) ?_ | with_reducible refine Ext.upW ?_ | with_reducible refine Ext.drew ?_ | with_reducible refine Ext.drewN ?_ _ | with_reducible refine Ext.upF ?_ | with_reducible refine Ext.upFF (by first | omega | simp) ?_ | with_reducible refine Ext.setCellsF _ _ _ (by first | omega | simp) ?_ | with_reducible refine Ext.setCellF _ _ _ (by first | omega | simp) ?_ | with_reducible refine Ext.upFN (by first | omega | simp) ?_ | with_reducible refine Ext.up1F (by first | omega | simp) ?_ | with_reducible refine Ext.up1N (by first | omega | simp) ?_ | with_reducible refine Ext.setCell ?_ (.inr (by first | omega | simp)) _ | refine Ext.alloc ?_ _ | refine Ext.setCellF _ _ _ (by first | omega | simp) ?_ | refine Ext.setCell ?_ (.inr (by first | omega | simp)) _))))) ?_
  rintro e x1 rfl
  cases hc : confB ep xs
  · as_aux_lemma =>
    rw [hc] at DF
    clear hc
    go_wp2
    go_ret
    exact ⟨by rw [DF.out]; rfl, by (repeat (first | with_reducible exact Ext.refl _ _ | assumption | with_reducible refine Ext.upN ?_ | with_reducible refine Ext.alloc ?_ _ | with_reducible refine Ext.upA (by assumption) ?_ | with_reducible refine Ext.upW ?_ | with_reducible refine Ext.drew ?_ | with_reducible refine Ext.drewN ?_ _ | with_reducible refine Ext.upF ?_ | with_reducible refine Ext.upFF (by first | omega | simp) ?_ | with_reducible refine Ext.setCellsF _ _ _ (by first | omega | simp) ?_ | with_reducible refine Ext.setCellF _ _ _ (by first | omega | simp) ?_ | with_reducible refine Ext.upFN (by first | omega | simp) ?_ | with_reducible refine Ext.up1F (by first | omega | simp) ?_ | with_reducible refine Ext.up1N (by first | omega | simp) ?_ | with_reducible refine Ext.setCell ?_ (.inr (by first | omega | simp)) _ | refine Ext.alloc ?_ _ | refine Ext.setCellF _ _ _ (by first | omega | simp) ?_ | refine Ext.setCell ?_ (.inr (by first | omega | simp)) _))⟩
  · rw [hc] at DF
    have HC := Go.Lib.hid hc
    have HL := Go.Lib.hid (conf_len hc)
    clear hc
    by_cases h1 : 1 ≤ view
    · by_cases h2 : view ≤ 15
      · go_wp2_with fail
        go_loopw [7, 26] (fun okv iv wr => ∃ (i : Nat) (ok : Bool) (z : EW Non x1.on), i ≤ l.length ∧ okv = .bool ok ∧ iv = .int .i64 i ∧ wr = z.on ∧ Hid (viewsB view l = (ok && sameViews view (l.drop i)))) (fun _ iv _ => l.length - (intOf iv).toNat)
        case atStart => exact ⟨0, true, ⟨_, Ext.refl _ _⟩, Nat.zero_le _, rfl, rfl, rfl, Go.Lib.hid (by unfold viewsB viewB; rw [decide_eq_true h1, decide_eq_true h2]; simp)⟩
        case round =>
          obtain ⟨i, ok, z, hi, rfl, rfl, rfl, HV⟩ := hrel
          by_cases hlt : i < l.length
          · obtain ⟨cb, co, ca, ccap, rfl, hcb, hcells, hcs, hif, hiv, hiy, hit⟩ := HH.out.at_ i hlt
            have HD := Go.Lib.hid (sameViews_drop view l i hlt)
            generalize hct : chAt l i = cc at *
            obtain ⟨cf, cv, certs, cy, ct⟩ := cc
            clear hct
            have z0 : w.cell? ⟨cb, co + i * 5, none⟩ = some (.int .i64 cf) := hcells 0 _ rfl
            have z1 : w.cell? ⟨cb, co + i * 5 + 1, none⟩ = some (.int .i64 cv) := hcells 1 _ rfl
            have z2 : w.cell? ⟨cb, co + i * 5 + 2, none⟩ = some (.slice ca certs.length ccap) := hcells 2 _ rfl
            have z3 : w.cell? ⟨cb, co + i * 5 + 3, none⟩ = some (.int .i64 cy) := hcells 3 _ rfl
            have z4 : w.cell? ⟨cb, co + i * 5 + 4, none⟩ = some (.string ct) := hcells 4 _ rfl
            clear hcells hcs hif hiv hiy hit
            cases ok
            · have HW : Hid (viewsB view l = (false && sameViews view (l.drop (i + 1)))) := Go.Lib.hid (by rw [HV.out]; rfl)
              go_wp2_with fail
              go_roundw
              case rel => exact ⟨i + 1, false, ⟨_, by (repeat (first | with_reducible exact Ext.refl _ _ | assumption | with_reducible refine Ext.upN ?_ | with_reducible refine Ext.alloc ?_ _ | with_reducible refine Ext.upA (by assumption) ?_ | with_reducible refine Ext.upW ?_ | with_reducible refine Ext.drew ?_ | with_reducible refine Ext.drewN ?_ _ | with_reducible refine Ext.upF ?_ | with_reducible refine Ext.upFF (by first | omega | simp) ?_ | with_reducible refine Ext.setCellsF _ _ _ (by first | omega | simp) ?_ | with_reducible refine Ext.setCellF _ _ _ (by first | omega | simp) ?_ | with_reducible refine Ext.upFN (by first | omega | simp) ?_ | with_reducible refine Ext.up1F (by first | omega | simp) ?_ | with_reducible refine Ext.up1N (by first | omega | simp) ?_ | with_reducible refine Ext.setCell ?_ (.inr (by first | omega | simp)) _ | refine Ext.alloc ?_ _ | refine Ext.setCellF _ _ _ (by first | omega | simp) ?_ | refine Ext.setCell ?_ (.inr (by first | omega | simp)) _))⟩, hlt, rfl, by go_num, rfl, HW⟩
              case measure => simp [intOf]; omega
            · by_cases hv : cv = view
              · subst hv
                have HW : Hid (viewsB cv l = (true && sameViews cv (l.drop (i + 1)))) := Go.Lib.hid (by rw [HV.out, HD.out]; simp)
                have hbe : (cv == cv) = true := beq_self_eq_true _
                go_wp2_with fail
                go_roundw
                case rel => exact ⟨i + 1, true, ⟨_, by (repeat (first | with_reducible exact Ext.refl _ _ | assumption | with_reducible refine Ext.upN ?_ | with_reducible refine Ext.alloc ?_ _ | with_reducible refine Ext.upA (by assumption) ?_ | with_reducible refine Ext.upW ?_ | with_reducible refine Ext.drew ?_ | with_reducible refine Ext.drewN ?_ _ | with_reducible refine Ext.upF ?_ | with_reducible refine Ext.upFF (by first | omega | simp) ?_ | with_reducible refine Ext.setCellsF _ _ _ (by first | omega | simp) ?_ | with_reducible refine Ext.setCellF _ _ _ (by first | omega | simp) ?_ | with_reducible refine Ext.upFN (by first | omega | simp) ?_ | with_reducible refine Ext.up1F (by first | omega | simp) ?_ | with_reducible refine Ext.up1N (by first | omega | simp) ?_ | with_reducible refine Ext.setCell ?_ (.inr (by first | omega | simp)) _ | refine Ext.alloc ?_ _ | refine Ext.setCellF _ _ _ (by first | omega | simp) ?_ | refine Ext.setCell ?_ (.inr (by first | omega | simp)) _))⟩, hlt, rfl, by go_num, rfl, HW⟩
                case measure => simp [intOf]; omega
              · have HW : Hid (viewsB view l = (false && sameViews view (l.drop (i + 1)))) := Go.Lib.hid (by rw [HV.out, HD.out, decide_eq_false hv]; rfl)
                have hbe : (cv == view) = false := by rw [beq_eq_false_iff_ne]; exact hv
                go_wp2_with fail
                go_roundw
                case rel => exact ⟨i + 1, false, ⟨_, by (repeat (first | with_reducible exact Ext.refl _ _ | assumption | with_reducible refine Ext.upN ?_ | with_reducible refine Ext.alloc ?_ _ | with_reducible refine Ext.upA (by assumption) ?_ | with_reducible refine Ext.upW ?_ | with_reducible refine Ext.drew ?_ | with_reducible refine Ext.drewN ?_ _ | with_reducible refine Ext.upF ?_ | with_reducible refine Ext.upFF (by first | omega | simp) ?_ | with_reducible refine Ext.setCellsF _ _ _ (by first | omega | simp) ?_ | with_reducible refine Ext.setCellF _ _ _ (by first | omega | simp) ?_ | with_reducible refine Ext.upFN (by first | omega | simp) ?_ | with_reducible refine Ext.up1F (by first | omega | simp) ?_ | with_reducible refine Ext.up1N (by first | omega | simp) ?_ | with_reducible refine Ext.setCell ?_ (.inr (by first | omega | simp)) _ | refine Ext.alloc ?_ _ | refine Ext.setCellF _ _ _ (by first | omega | simp) ?_ | refine Ext.setCell ?_ (.inr (by first | omega | simp)) _))⟩, hlt, rfl, by go_num, rfl, HW⟩
                case measure => simp [intOf]; omega
          · have HV' : Hid (viewsB view l = ok) := Go.Lib.hid (by rw [HV.out, List.drop_eq_nil_of_le (by omega)]; simp [sameViews])
            clear HV
            cases ok
            · as_aux_lemma =>
              go_wp2
              go_ret
              exact ⟨ret_int (by rw [DF.out, HV'.out]; rfl), by (repeat (first | with_reducible exact Ext.refl _ _ | assumption | with_reducible refine Ext.upN ?_ | with_reducible refine Ext.alloc ?_ _ | with_reducible refine Ext.upA (by assumption) ?_ | with_reducible refine Ext.upW ?_ | with_reducible refine Ext.drew ?_ | with_reducible refine Ext.drewN ?_ _ | with_reducible refine Ext.upF ?_ | with_reducible refine Ext.upFF (by first | omega | simp) ?_ | with_reducible refine Ext.setCellsF _ _ _ (by first | omega | simp) ?_ | with_reducible refine Ext.setCellF _ _ _ (by first | omega | simp) ?_ | with_reducible refine Ext.upFN (by first | omega | simp) ?_ | with_reducible refine Ext.up1F (by first | omega | simp) ?_ | with_reducible refine Ext.up1N (by first | omega | simp) ?_ | with_reducible refine Ext.setCell ?_ (.inr (by first | omega | simp)) _ | refine Ext.alloc ?_ _ | refine Ext.setCellF _ _ _ (by first | omega | simp) ?_ | refine Ext.setCell ?_ (.inr (by first | omega | simp)) _))⟩
            · as_aux_lemma =>
              have DG : Hid (checkE ep xs view l = if rightsE ep xs l = 0 then (if riseB (-1) l = true then (if (l.length : Int) < quorumI xs.length then 15 else 0) else 17) else rightsE ep xs l) := Go.Lib.hid (by rw [DF.out, HV'.out]; rfl)
              clear HV' DF hi
              go_wp2_with fail
              go_loopw [10, 11, 42] (fun rv lv iv wr => ∃ (i : Nat) (ri : Bool) (last : Int) (z2 : EW Non z.on), i ≤ l.length ∧ rv = .bool ri ∧ lv = .int .i64 last ∧ iv = .int .i64 i ∧ wr = z2.on ∧ Hid (riseB (-1) l = (ri && riseB last (l.drop i))) ∧ Hid (rightsE ep xs l = rightsE ep xs (l.drop i))) (fun _ _ iv _ => l.length - (intOf iv).toNat)
              case atStart => exact ⟨0, true, -1, ⟨_, Ext.refl _ _⟩, Nat.zero_le _, rfl, rfl, rfl, rfl, Go.Lib.hid (by simp), Go.Lib.hid rfl⟩
              case round =>
                obtain ⟨i, ri, last, z2, hi, rfl, rfl, rfl, rfl, HR, HG⟩ := hrel
                by_cases hlt : i < l.length
                · obtain ⟨cb, co, ca, ccap, rfl, hcb, hcells, hcs, hif, hiv, hiy, hit⟩ := HH.out.at_ i hlt
                  have HDr := Go.Lib.hid (riseB_drop last l i hlt); have HDe := Go.Lib.hid (rightsE_drop ep xs l i hlt)
                  generalize hct : chAt l i = cc at *
                  obtain ⟨cf, cv, certs, cy, ct⟩ := cc
                  clear hct
                  have z0 : w.cell? ⟨cb, co + i * 5, none⟩ = some (.int .i64 cf) := hcells 0 _ rfl
                  have z1 : w.cell? ⟨cb, co + i * 5 + 1, none⟩ = some (.int .i64 cv) := hcells 1 _ rfl
                  have z2 : w.cell? ⟨cb, co + i * 5 + 2, none⟩ = some (.slice ca certs.length ccap) := hcells 2 _ rfl
                  have z3 : w.cell? ⟨cb, co + i * 5 + 3, none⟩ = some (.int .i64 cy) := hcells 3 _ rfl
                  have z4 : w.cell? ⟨cb, co + i * 5 + 4, none⟩ = some (.string ct) := hcells 4 _ rfl
                  have HCs : Hid (Certs w ca ccap certs) := Go.Lib.hid hcs
                  have HIx : Hid (I64 cf ∧ I64 cv) := Go.Lib.hid ⟨hif, hiv⟩
                  clear hcells hcs hif hiv hiy hit
                  go_wp2_with fail
                  refine Calls.ew (change_Right ep a cap xs cf cv cy ct ca ccap certs HE.out HIx.out.1 HIx.out.2 _ (HI.out.extN (by (repeat (first | with_reducible exact Ext.refl _ _ | assumption | with_reducible refine Ext.upN ?_ | with_reducible refine Ext.alloc ?_ _ | with_reducible refine Ext.upA (by assumption) ?_ | with_reducible refine Ext.upW ?_ | with_reducible refine Ext.drew ?_ | with_reducible refine Ext.drewN ?_ _ | with_reducible refine Ext.upF ?_ | with_reducible refine Ext.upFF (by first | omega | simp) ?_ | with_reducible refine Ext.setCellsF _ _ _ (by first | omega | simp) ?_ | with_reducible refine Ext.setCellF _ _ _ (by first | omega | simp) ?_ | with_reducible refine Ext.upFN (by first | omega | simp) ?_ | with_reducible refine Ext.up1F (by first | omega | simp) ?_ | with_reducible refine Ext.up1N (by first | omega | simp) ?_ | with_reducible refine Ext.setCell ?_ (.inr (by first | omega | simp)) _ | refine Ext.alloc ?_ _ | refine Ext.setCellF _ _ _ (by first | omega | simp) ?_ | refine Ext.setCell ?_ (.inr (by first | omega | simp)) _)))) (HCs.out.extN (by (repeat (first | with_reducible exact Ext.refl _ _ | assumption | with_reducible refine Ext.upN ?_ | with_reducible refine Ext.alloc ?_ _ | with_reducible refine Ext.upA (by assumption) ?_ | with_reducible refine Ext.upW ?_ | with_reducible refine Ext.drew ?_ | with_reducible refine Ext.drewN ?_ _ | with_reducible refine Ext.upF ?_ | with_reducible refine Ext.upFF (by first | omega | simp) ?_ | with_reducible refine Ext.setCellsF _ _ _ (by first | omega | simp) ?_ | with_reducible refine Ext.setCellF _ _ _ (by first | omega | simp) ?_ | with_reducible refine Ext.upFN (by first | omega | simp) ?_ | with_reducible refine Ext.up1F (by first | omega | simp) ?_ | with_reducible refine Ext.up1N (by first | omega | simp) ?_ | with_reducible refine Ext.setCell ?_ (.inr (by first | omega | simp)) _ | refine Ext.alloc ?_ _ | refine Ext.setCellF _ _ _ (by first | omega | simp) ?_ | refine Ext.setCell ?_ (.inr (by first | omega | simp)) _))))) ?_
                  rintro e z3 rfl
                  generalize hre : rightE ep xs ⟨cf, cv, certs, cy, ct⟩ = re at *
                  clear hre
                  by_cases h0 : re = 0
                  · subst h0
                    have HG' : Hid (rightsE ep xs l = rightsE ep xs (l.drop (i + 1))) := Go.Lib.hid (by rw [HG.out, HDe.out]; rfl)
                    cases ri
                    · have HR' : Hid (riseB (-1) l = (false && riseB cf (l.drop (i + 1)))) := Go.Lib.hid (by rw [HR.out]; rfl)
                      go_wp2_with fail
                      go_roundw
                      case rel => exact ⟨i + 1, false, cf, ⟨_, by (repeat (first | with_reducible exact Ext.refl _ _ | assumption | with_reducible refine Ext.upN ?_ | with_reducible refine Ext.alloc ?_ _ | with_reducible refine Ext.upA (by assumption) ?_ | with_reducible refine Ext.upW ?_ | with_reducible refine Ext.drew ?_ | with_reducible refine Ext.drewN ?_ _ | with_reducible refine Ext.upF ?_ | with_reducible refine Ext.upFF (by first | omega | simp) ?_ | with_reducible refine Ext.setCellsF _ _ _ (by first | omega | simp) ?_ | with_reducible refine Ext.setCellF _ _ _ (by first | omega | simp) ?_ | with_reducible refine Ext.upFN (by first | omega | simp) ?_ | with_reducible refine Ext.up1F (by first | omega | simp) ?_ | with_reducible refine Ext.up1N (by first | omega | simp) ?_ | with_reducible refine Ext.setCell ?_ (.inr (by first | omega | simp)) _ | refine Ext.alloc ?_ _ | refine Ext.setCellF _ _ _ (by first | omega | simp) ?_ | refine Ext.setCell ?_ (.inr (by first | omega | simp)) _))⟩, hlt, rfl, rfl, by go_num, rfl, HR', HG'⟩
                      case measure => simp [intOf]; omega
                    · by_cases hv : last < cf
                      · have HR' : Hid (riseB (-1) l = (true && riseB cf (l.drop (i + 1)))) := Go.Lib.hid (by rw [HR.out, HDr.out]; simp [hv])
                        have hbe : decide (last < cf) = true := decide_eq_true hv
                        go_wp2_with fail
                        go_roundw
                        case rel => exact ⟨i + 1, true, cf, ⟨_, by (repeat (first | with_reducible exact Ext.refl _ _ | assumption | with_reducible refine Ext.upN ?_ | with_reducible refine Ext.alloc ?_ _ | with_reducible refine Ext.upA (by assumption) ?_ | with_reducible refine Ext.upW ?_ | with_reducible refine Ext.drew ?_ | with_reducible refine Ext.drewN ?_ _ | with_reducible refine Ext.upF ?_ | with_reducible refine Ext.upFF (by first | omega | simp) ?_ | with_reducible refine Ext.setCellsF _ _ _ (by first | omega | simp) ?_ | with_reducible refine Ext.setCellF _ _ _ (by first | omega | simp) ?_ | with_reducible refine Ext.upFN (by first | omega | simp) ?_ | with_reducible refine Ext.up1F (by first | omega | simp) ?_ | with_reducible refine Ext.up1N (by first | omega | simp) ?_ | with_reducible refine Ext.setCell ?_ (.inr (by first | omega | simp)) _ | refine Ext.alloc ?_ _ | refine Ext.setCellF _ _ _ (by first | omega | simp) ?_ | refine Ext.setCell ?_ (.inr (by first | omega | simp)) _))⟩, hlt, rfl, rfl, by go_num, rfl, HR', HG'⟩
                        case measure => simp [intOf]; omega
                      · have HR' : Hid (riseB (-1) l = (false && riseB cf (l.drop (i + 1)))) := Go.Lib.hid (by rw [HR.out, HDr.out]; simp [hv])
                        have hbe : decide (last < cf) = false := decide_eq_false hv
                        go_wp2_with fail
                        go_roundw
                        case rel => exact ⟨i + 1, false, cf, ⟨_, by (repeat (first | with_reducible exact Ext.refl _ _ | assumption | with_reducible refine Ext.upN ?_ | with_reducible refine Ext.alloc ?_ _ | with_reducible refine Ext.upA (by assumption) ?_ | with_reducible refine Ext.upW ?_ | with_reducible refine Ext.drew ?_ | with_reducible refine Ext.drewN ?_ _ | with_reducible refine Ext.upF ?_ | with_reducible refine Ext.upFF (by first | omega | simp) ?_ | with_reducible refine Ext.setCellsF _ _ _ (by first | omega | simp) ?_ | with_reducible refine Ext.setCellF _ _ _ (by first | omega | simp) ?_ | with_reducible refine Ext.upFN (by first | omega | simp) ?_ | with_reducible refine Ext.up1F (by first | omega | simp) ?_ | with_reducible refine Ext.up1N (by first | omega | simp) ?_ | with_reducible refine Ext.setCell ?_ (.inr (by first | omega | simp)) _ | refine Ext.alloc ?_ _ | refine Ext.setCellF _ _ _ (by first | omega | simp) ?_ | refine Ext.setCell ?_ (.inr (by first | omega | simp)) _))⟩, hlt, rfl, rfl, by go_num, rfl, HR', HG'⟩
                        case measure => simp [intOf]; omega
                  · as_aux_lemma =>
                    have HN := Go.Lib.hid h0
                    have hbe : (re != 0) = true := by rw [bne_iff_ne]; exact h0
                    clear h0
                    go_wp2
                    go_ret
                    exact ⟨ret_int (by rw [DG.out, HG.out, HDe.out, if_neg (show ¬ re = 0 from HN.out), if_neg (show ¬ re = 0 from HN.out)]), by (repeat (first | with_reducible exact Ext.refl _ _ | assumption | with_reducible refine Ext.upN ?_ | with_reducible refine Ext.alloc ?_ _ | with_reducible refine Ext.upA (by assumption) ?_ | with_reducible refine Ext.upW ?_ | with_reducible refine Ext.drew ?_ | with_reducible refine Ext.drewN ?_ _ | with_reducible refine Ext.upF ?_ | with_reducible refine Ext.upFF (by first | omega | simp) ?_ | with_reducible refine Ext.setCellsF _ _ _ (by first | omega | simp) ?_ | with_reducible refine Ext.setCellF _ _ _ (by first | omega | simp) ?_ | with_reducible refine Ext.upFN (by first | omega | simp) ?_ | with_reducible refine Ext.up1F (by first | omega | simp) ?_ | with_reducible refine Ext.up1N (by first | omega | simp) ?_ | with_reducible refine Ext.setCell ?_ (.inr (by first | omega | simp)) _ | refine Ext.alloc ?_ _ | refine Ext.setCellF _ _ _ (by first | omega | simp) ?_ | refine Ext.setCell ?_ (.inr (by first | omega | simp)) _))⟩
                · have HR' : Hid (riseB (-1) l = ri) := Go.Lib.hid (by rw [HR.out, List.drop_eq_nil_of_le (by omega)]; simp [riseB])
                  have DH : Hid (checkE ep xs view l = if riseB (-1) l = true then (if (l.length : Int) < quorumI xs.length then 15 else 0) else 17) := Go.Lib.hid (by rw [DG.out, HG.out, List.drop_eq_nil_of_le (by omega)]; rfl)
                  clear HR HG DG
                  cases ri
                  · as_aux_lemma =>
                    go_wp2
                    go_ret
                    exact ⟨ret_int (by rw [DH.out, HR'.out]; rfl), by (repeat (first | with_reducible exact Ext.refl _ _ | assumption | with_reducible refine Ext.upN ?_ | with_reducible refine Ext.alloc ?_ _ | with_reducible refine Ext.upA (by assumption) ?_ | with_reducible refine Ext.upW ?_ | with_reducible refine Ext.drew ?_ | with_reducible refine Ext.drewN ?_ _ | with_reducible refine Ext.upF ?_ | with_reducible refine Ext.upFF (by first | omega | simp) ?_ | with_reducible refine Ext.setCellsF _ _ _ (by first | omega | simp) ?_ | with_reducible refine Ext.setCellF _ _ _ (by first | omega | simp) ?_ | with_reducible refine Ext.upFN (by first | omega | simp) ?_ | with_reducible refine Ext.up1F (by first | omega | simp) ?_ | with_reducible refine Ext.up1N (by first | omega | simp) ?_ | with_reducible refine Ext.setCell ?_ (.inr (by first | omega | simp)) _ | refine Ext.alloc ?_ _ | refine Ext.setCellF _ _ _ (by first | omega | simp) ?_ | refine Ext.setCell ?_ (.inr (by first | omega | simp)) _))⟩
                  · as_aux_lemma =>
                    go_wp2_with fail
                    refine (council_Quorum xs.length (by omega) (by have := HL.out; omega) _).mono ?_
                    rintro e _ ⟨rfl, rfl⟩
                    by_cases hq : (l.length : Int) < quorumI xs.length
                    · have HQ := Go.Lib.hid hq
                      generalize quorumI xs.length = q at *
                      have hbe : decide ((l.length : Int) < q) = true := decide_eq_true hq
                      go_wp2
                      go_ret
                      exact ⟨ret_int (by rw [DH.out, HR'.out]; simp [show (l.length : Int) < q from HQ.out]), by (repeat (first | with_reducible exact Ext.refl _ _ | assumption | with_reducible refine Ext.upN ?_ | with_reducible refine Ext.alloc ?_ _ | with_reducible refine Ext.upA (by assumption) ?_ | with_reducible refine Ext.upW ?_ | with_reducible refine Ext.drew ?_ | with_reducible refine Ext.drewN ?_ _ | with_reducible refine Ext.upF ?_ | with_reducible refine Ext.upFF (by first | omega | simp) ?_ | with_reducible refine Ext.setCellsF _ _ _ (by first | omega | simp) ?_ | with_reducible refine Ext.setCellF _ _ _ (by first | omega | simp) ?_ | with_reducible refine Ext.upFN (by first | omega | simp) ?_ | with_reducible refine Ext.up1F (by first | omega | simp) ?_ | with_reducible refine Ext.up1N (by first | omega | simp) ?_ | with_reducible refine Ext.setCell ?_ (.inr (by first | omega | simp)) _ | refine Ext.alloc ?_ _ | refine Ext.setCellF _ _ _ (by first | omega | simp) ?_ | refine Ext.setCell ?_ (.inr (by first | omega | simp)) _))⟩
                    · have HQ := Go.Lib.hid hq
                      generalize quorumI xs.length = q at *
                      have hbe : decide ((l.length : Int) < q) = false := decide_eq_false hq
                      go_wp2
                      go_ret
                      exact ⟨ret_int (by rw [DH.out, HR'.out]; simp [show ¬ (l.length : Int) < q by have := HQ.out; omega]), by (repeat (first | with_reducible exact Ext.refl _ _ | assumption | with_reducible refine Ext.upN ?_ | with_reducible refine Ext.alloc ?_ _ | with_reducible refine Ext.upA (by assumption) ?_ | with_reducible refine Ext.upW ?_ | with_reducible refine Ext.drew ?_ | with_reducible refine Ext.drewN ?_ _ | with_reducible refine Ext.upF ?_ | with_reducible refine Ext.upFF (by first | omega | simp) ?_ | with_reducible refine Ext.setCellsF _ _ _ (by first | omega | simp) ?_ | with_reducible refine Ext.setCellF _ _ _ (by first | omega | simp) ?_ | with_reducible refine Ext.upFN (by first | omega | simp) ?_ | with_reducible refine Ext.up1F (by first | omega | simp) ?_ | with_reducible refine Ext.up1N (by first | omega | simp) ?_ | with_reducible refine Ext.setCell ?_ (.inr (by first | omega | simp)) _ | refine Ext.alloc ?_ _ | refine Ext.setCellF _ _ _ (by first | omega | simp) ?_ | refine Ext.setCell ?_ (.inr (by first | omega | simp)) _))⟩
      · have hn2 : decide (view ≤ 15) = false := decide_eq_false h2
        go_wp2_with fail
        go_loopw [7, 26] (fun okv iv wr => ∃ (i : Nat) (ok : Bool) (z : EW Non x1.on), i ≤ l.length ∧ okv = .bool ok ∧ iv = .int .i64 i ∧ wr = z.on ∧ Hid (viewsB view l = (ok && sameViews view (l.drop i)))) (fun _ iv _ => l.length - (intOf iv).toNat)
        case atStart => exact ⟨0, false, ⟨_, Ext.refl _ _⟩, Nat.zero_le _, rfl, rfl, rfl, Go.Lib.hid (by unfold viewsB viewB; rw [show decide (view ≤ 15) = false by rw [decide_eq_false_iff_not]; omega]; simp)⟩
        case round =>
          obtain ⟨i, ok, z, hi, rfl, rfl, rfl, HV⟩ := hrel
          by_cases hlt : i < l.length
          · obtain ⟨cb, co, ca, ccap, rfl, hcb, hcells, hcs, hif, hiv, hiy, hit⟩ := HH.out.at_ i hlt
            have HD := Go.Lib.hid (sameViews_drop view l i hlt)
            generalize hct : chAt l i = cc at *
            obtain ⟨cf, cv, certs, cy, ct⟩ := cc
            clear hct
            have z0 : w.cell? ⟨cb, co + i * 5, none⟩ = some (.int .i64 cf) := hcells 0 _ rfl
            have z1 : w.cell? ⟨cb, co + i * 5 + 1, none⟩ = some (.int .i64 cv) := hcells 1 _ rfl
            have z2 : w.cell? ⟨cb, co + i * 5 + 2, none⟩ = some (.slice ca certs.length ccap) := hcells 2 _ rfl
            have z3 : w.cell? ⟨cb, co + i * 5 + 3, none⟩ = some (.int .i64 cy) := hcells 3 _ rfl
            have z4 : w.cell? ⟨cb, co + i * 5 + 4, none⟩ = some (.string ct) := hcells 4 _ rfl
            clear hcells hcs hif hiv hiy hit
            cases ok
            · have HW : Hid (viewsB view l = (false && sameViews view (l.drop (i + 1)))) := Go.Lib.hid (by rw [HV.out]; rfl)
              go_wp2_with fail
              go_roundw
              case rel => exact ⟨i + 1, false, ⟨_, by (repeat (first | with_reducible exact Ext.refl _ _ | assumption | with_reducible refine Ext.upN ?_ | with_reducible refine Ext.alloc ?_ _ | with_reducible refine Ext.upA (by assumption) ?_ | with_reducible refine Ext.upW ?_ | with_reducible refine Ext.drew ?_ | with_reducible refine Ext.drewN ?_ _ | with_reducible refine Ext.upF ?_ | with_reducible refine Ext.upFF (by first | omega | simp) ?_ | with_reducible refine Ext.setCellsF _ _ _ (by first | omega | simp) ?_ | with_reducible refine Ext.setCellF _ _ _ (by first | omega | simp) ?_ | with_reducible refine Ext.upFN (by first | omega | simp) ?_ | with_reducible refine Ext.up1F (by first | omega | simp) ?_ | with_reducible refine Ext.up1N (by first | omega | simp) ?_ | with_reducible refine Ext.setCell ?_ (.inr (by first | omega | simp)) _ | refine Ext.alloc ?_ _ | refine Ext.setCellF _ _ _ (by first | omega | simp) ?_ | refine Ext.setCell ?_ (.inr (by first | omega | simp)) _))⟩, hlt, rfl, by go_num, rfl, HW⟩
              case measure => simp [intOf]; omega
            · by_cases hv : cv = view
              · subst hv
                have HW : Hid (viewsB cv l = (true && sameViews cv (l.drop (i + 1)))) := Go.Lib.hid (by rw [HV.out, HD.out]; simp)
                have hbe : (cv == cv) = true := beq_self_eq_true _
                go_wp2_with fail
                go_roundw
                case rel => exact ⟨i + 1, true, ⟨_, by (repeat (first | with_reducible exact Ext.refl _ _ | assumption | with_reducible refine Ext.upN ?_ | with_reducible refine Ext.alloc ?_ _ | with_reducible refine Ext.upA (by assumption) ?_ | with_reducible refine Ext.upW ?_ | with_reducible refine Ext.drew ?_ | with_reducible refine Ext.drewN ?_ _ | with_reducible refine Ext.upF ?_ | with_reducible refine Ext.upFF (by first | omega | simp) ?_ | with_reducible refine Ext.setCellsF _ _ _ (by first | omega | simp) ?_ | with_reducible refine Ext.setCellF _ _ _ (by first | omega | simp) ?_ | with_reducible refine Ext.upFN (by first | omega | simp) ?_ | with_reducible refine Ext.up1F (by first | omega | simp) ?_ | with_reducible refine Ext.up1N (by first | omega | simp) ?_ | with_reducible refine Ext.setCell ?_ (.inr (by first | omega | simp)) _ | refine Ext.alloc ?_ _ | refine Ext.setCellF _ _ _ (by first | omega | simp) ?_ | refine Ext.setCell ?_ (.inr (by first | omega | simp)) _))⟩, hlt, rfl, by go_num, rfl, HW⟩
                case measure => simp [intOf]; omega
              · have HW : Hid (viewsB view l = (false && sameViews view (l.drop (i + 1)))) := Go.Lib.hid (by rw [HV.out, HD.out, decide_eq_false hv]; rfl)
                have hbe : (cv == view) = false := by rw [beq_eq_false_iff_ne]; exact hv
                go_wp2_with fail
                go_roundw
                case rel => exact ⟨i + 1, false, ⟨_, by (repeat (first | with_reducible exact Ext.refl _ _ | assumption | with_reducible refine Ext.upN ?_ | with_reducible refine Ext.alloc ?_ _ | with_reducible refine Ext.upA (by assumption) ?_ | with_reducible refine Ext.upW ?_ | with_reducible refine Ext.drew ?_ | with_reducible refine Ext.drewN ?_ _ | with_reducible refine Ext.upF ?_ | with_reducible refine Ext.upFF (by first | omega | simp) ?_ | with_reducible refine Ext.setCellsF _ _ _ (by first | omega | simp) ?_ | with_reducible refine Ext.setCellF _ _ _ (by first | omega | simp) ?_ | with_reducible refine Ext.upFN (by first | omega | simp) ?_ | with_reducible refine Ext.up1F (by first | omega | simp) ?_ | with_reducible refine Ext.up1N (by first | omega | simp) ?_ | with_reducible refine Ext.setCell ?_ (.inr (by first | omega | simp)) _ | refine Ext.alloc ?_ _ | refine Ext.setCellF _ _ _ (by first | omega | simp) ?_ | refine Ext.setCell ?_ (.inr (by first | omega | simp)) _))⟩, hlt, rfl, by go_num, rfl, HW⟩
                case measure => simp [intOf]; omega
          · have HV' : Hid (viewsB view l = ok) := Go.Lib.hid (by rw [HV.out, List.drop_eq_nil_of_le (by omega)]; simp [sameViews])
            clear HV
            cases ok
            · as_aux_lemma =>
              go_wp2
              go_ret
              exact ⟨ret_int (by rw [DF.out, HV'.out]; rfl), by (repeat (first | with_reducible exact Ext.refl _ _ | assumption | with_reducible refine Ext.upN ?_ | with_reducible refine Ext.alloc ?_ _ | with_reducible refine Ext.upA (by assumption) ?_ | with_reducible refine Ext.upW ?_ | with_reducible refine Ext.drew ?_ | with_reducible refine Ext.drewN ?_ _ | with_reducible refine Ext.upF ?_ | with_reducible refine Ext.upFF (by first | omega | simp) ?_ | with_reducible refine Ext.setCellsF _ _ _ (by first | omega | simp) ?_ | with_reducible refine Ext.setCellF _ _ _ (by first | omega | simp) ?_ | with_reducible refine Ext.upFN (by first | omega | simp) ?_ | with_reducible refine Ext.up1F (by first | omega | simp) ?_ | with_reducible refine Ext.up1N (by first | omega | simp) ?_ | with_reducible refine Ext.setCell ?_ (.inr (by first | omega | simp)) _ | refine Ext.alloc ?_ _ | refine Ext.setCellF _ _ _ (by first | omega | simp) ?_ | refine Ext.setCell ?_ (.inr (by first | omega | simp)) _))⟩
            · as_aux_lemma =>
              exfalso
              have := HV'.out
              unfold viewsB viewB at this
              rw [show decide (view ≤ 15) = false by rw [decide_eq_false_iff_not]; omega] at this
              simp at this
    · have hn1 : decide (1 ≤ view) = false := decide_eq_false h1
      go_wp2_with fail
      go_loopw [7, 26] (fun okv iv wr => ∃ (i : Nat) (ok : Bool) (z : EW Non x1.on), i ≤ l.length ∧ okv = .bool ok ∧ iv = .int .i64 i ∧ wr = z.on ∧ Hid (viewsB view l = (ok && sameViews view (l.drop i)))) (fun _ iv _ => l.length - (intOf iv).toNat)
      case atStart => exact ⟨0, false, ⟨_, Ext.refl _ _⟩, Nat.zero_le _, rfl, rfl, rfl, Go.Lib.hid (by unfold viewsB viewB; rw [show decide (1 ≤ view) = false by rw [decide_eq_false_iff_not]; omega]; simp)⟩
      case round =>
        obtain ⟨i, ok, z, hi, rfl, rfl, rfl, HV⟩ := hrel
        by_cases hlt : i < l.length
        · obtain ⟨cb, co, ca, ccap, rfl, hcb, hcells, hcs, hif, hiv, hiy, hit⟩ := HH.out.at_ i hlt
          have HD := Go.Lib.hid (sameViews_drop view l i hlt)
          generalize hct : chAt l i = cc at *
          obtain ⟨cf, cv, certs, cy, ct⟩ := cc
          clear hct
          have z0 : w.cell? ⟨cb, co + i * 5, none⟩ = some (.int .i64 cf) := hcells 0 _ rfl
          have z1 : w.cell? ⟨cb, co + i * 5 + 1, none⟩ = some (.int .i64 cv) := hcells 1 _ rfl
          have z2 : w.cell? ⟨cb, co + i * 5 + 2, none⟩ = some (.slice ca certs.length ccap) := hcells 2 _ rfl
          have z3 : w.cell? ⟨cb, co + i * 5 + 3, none⟩ = some (.int .i64 cy) := hcells 3 _ rfl
          have z4 : w.cell? ⟨cb, co + i * 5 + 4, none⟩ = some (.string ct) := hcells 4 _ rfl
          clear hcells hcs hif hiv hiy hit
          cases ok
          · have HW : Hid (viewsB view l = (false && sameViews view (l.drop (i + 1)))) := Go.Lib.hid (by rw [HV.out]; rfl)
            go_wp2_with fail
            go_roundw
            case rel => exact ⟨i + 1, false, ⟨_, by (repeat (first | with_reducible exact Ext.refl _ _ | assumption | with_reducible refine Ext.upN ?_ | with_reducible refine Ext.alloc ?_ _ | with_reducible refine Ext.upA (by assumption) ?_ | with_reducible refine Ext.upW ?_ | with_reducible refine Ext.drew ?_ | with_reducible refine Ext.drewN ?_ _ | with_reducible refine Ext.upF ?_ | with_reducible refine Ext.upFF (by first | omega | simp) ?_ | with_reducible refine Ext.setCellsF _ _ _ (by first | omega | simp) ?_ | with_reducible refine Ext.setCellF _ _ _ (by first | omega | simp) ?_ | with_reducible refine Ext.upFN (by first | omega | simp) ?_ | with_reducible refine Ext.up1F (by first | omega | simp) ?_ | with_reducible refine Ext.up1N (by first | omega | simp) ?_ | with_reducible refine Ext.setCell ?_ (.inr (by first | omega | simp)) _ | refine Ext.alloc ?_ _ | refine Ext.setCellF _ _ _ (by first | omega | simp) ?_ | refine Ext.setCell ?_ (.inr (by first | omega | simp)) _))⟩, hlt, rfl, by go_num, rfl, HW⟩
            case measure => simp [intOf]; omega
          · by_cases hv : cv = view
            · subst hv
              have HW : Hid (viewsB cv l = (true && sameViews cv (l.drop (i + 1)))) := Go.Lib.hid (by rw [HV.out, HD.out]; simp)
              have hbe : (cv == cv) = true := beq_self_eq_true _
              go_wp2_with fail
              go_roundw
              case rel => exact ⟨i + 1, true, ⟨_, by (repeat (first | with_reducible exact Ext.refl _ _ | assumption | with_reducible refine Ext.upN ?_ | with_reducible refine Ext.alloc ?_ _ | with_reducible refine Ext.upA (by assumption) ?_ | with_reducible refine Ext.upW ?_ | with_reducible refine Ext.drew ?_ | with_reducible refine Ext.drewN ?_ _ | with_reducible refine Ext.upF ?_ | with_reducible refine Ext.upFF (by first | omega | simp) ?_ | with_reducible refine Ext.setCellsF _ _ _ (by first | omega | simp) ?_ | with_reducible refine Ext.setCellF _ _ _ (by first | omega | simp) ?_ | with_reducible refine Ext.upFN (by first | omega | simp) ?_ | with_reducible refine Ext.up1F (by first | omega | simp) ?_ | with_reducible refine Ext.up1N (by first | omega | simp) ?_ | with_reducible refine Ext.setCell ?_ (.inr (by first | omega | simp)) _ | refine Ext.alloc ?_ _ | refine Ext.setCellF _ _ _ (by first | omega | simp) ?_ | refine Ext.setCell ?_ (.inr (by first | omega | simp)) _))⟩, hlt, rfl, by go_num, rfl, HW⟩
              case measure => simp [intOf]; omega
            · have HW : Hid (viewsB view l = (false && sameViews view (l.drop (i + 1)))) := Go.Lib.hid (by rw [HV.out, HD.out, decide_eq_false hv]; rfl)
              have hbe : (cv == view) = false := by rw [beq_eq_false_iff_ne]; exact hv
              go_wp2_with fail
              go_roundw
              case rel => exact ⟨i + 1, false, ⟨_, by (repeat (first | with_reducible exact Ext.refl _ _ | assumption | with_reducible refine Ext.upN ?_ | with_reducible refine Ext.alloc ?_ _ | with_reducible refine Ext.upA (by assumption) ?_ | with_reducible refine Ext.upW ?_ | with_reducible refine Ext.drew ?_ | with_reducible refine Ext.drewN ?_ _ | with_reducible refine Ext.upF ?_ | with_reducible refine Ext.upFF (by first | omega | simp) ?_ | with_reducible refine Ext.setCellsF _ _ _ (by first | omega | simp) ?_ | with_reducible refine Ext.setCellF _ _ _ (by first | omega | simp) ?_ | with_reducible refine Ext.upFN (by first | omega | simp) ?_ | with_reducible refine Ext.up1F (by first | omega | simp) ?_ | with_reducible refine Ext.up1N (by first | omega | simp) ?_ | with_reducible refine Ext.setCell ?_ (.inr (by first | omega | simp)) _ | refine Ext.alloc ?_ _ | refine Ext.setCellF _ _ _ (by first | omega | simp) ?_ | refine Ext.setCell ?_ (.inr (by first | omega | simp)) _))⟩, hlt, rfl, by go_num, rfl, HW⟩
              case measure => simp [intOf]; omega
        · have HV' : Hid (viewsB view l = ok) := Go.Lib.hid (by rw [HV.out, List.drop_eq_nil_of_le (by omega)]; simp [sameViews])
          clear HV
          cases ok
          · as_aux_lemma =>
            go_wp2
            go_ret
            exact ⟨ret_int (by rw [DF.out, HV'.out]; rfl), by (repeat (first | with_reducible exact Ext.refl _ _ | assumption | with_reducible refine Ext.upN ?_ | with_reducible refine Ext.alloc ?_ _ | with_reducible refine Ext.upA (by assumption) ?_ | with_reducible refine Ext.upW ?_ | with_reducible refine Ext.drew ?_ | with_reducible refine Ext.drewN ?_ _ | with_reducible refine Ext.upF ?_ | with_reducible refine Ext.upFF (by first | omega | simp) ?_ | with_reducible refine Ext.setCellsF _ _ _ (by first | omega | simp) ?_ | with_reducible refine Ext.setCellF _ _ _ (by first | omega | simp) ?_ | with_reducible refine Ext.upFN (by first | omega | simp) ?_ | with_reducible refine Ext.up1F (by first | omega | simp) ?_ | with_reducible refine Ext.up1N (by first | omega | simp) ?_ | with_reducible refine Ext.setCell ?_ (.inr (by first | omega | simp)) _ | refine Ext.alloc ?_ _ | refine Ext.setCellF _ _ _ (by first | omega | simp) ?_ | refine Ext.setCell ?_ (.inr (by first | omega | simp)) _))⟩
          · as_aux_lemma =>
            exfalso
            have := HV'.out
            unfold viewsB viewB at this
            rw [show decide (1 ≤ view) = false by rw [decide_eq_false_iff_not]; omega] at this
            simp at this
end Go.Proofs.Ytakbkpklfihfiaa
