/- Contracts of the reference of layer 16: Pick. -/
import Derived.Test.YtakbkpklfihfiaaPickW
namespace Go.Proofs.Ytakbkpklfihfiaa
open Go.RowKit Go.Lib F64
set_option linter.unusedSimpArgs false
set_option linter.unusedVariables false
attribute [local go_sem] run_store_float
attribute [local go_sem low] EW.cellN EW.frozN alloc_cell_or alloc_froz_or EW.cellF EW.frozF EW.cell1 EW.froz1
set_option maxHeartbeats 4000000 in
set_option maxRecDepth 100000 in
theorem ref16_Pick (ep : Int) (a : Option Addr) (cap : Nat) (xs : List Int) (view : Int) (la : Option Addr) (lcap : Nat) (l : List Ch) (hie : I64 ep) (w : World) (hi : Ints w a cap xs) (h : Chs w la lcap l) :
    Calls Try.prog 20 #[.agg #[.int .i64 ep, .slice a xs.length cap], .int .i64 view, .slice la l.length lcap] w fun e w' =>
    ∃ v, e = .returned (.tuple #[v, .int .i64 (checkE ep xs view l)]) ∧ w'.ownsRow w.heap.size 49 6 v (pickL ep xs view l).length (reqCells (pickL ep xs view l)) ∧ Ext Non w w' := by
  have HH := Go.Lib.hid h; have HI := Go.Lib.hid hi
  have HE := Go.Lib.hid hie
  have hsm := h.small; have hsl := h.le
  have DP : Hid (checkE ep xs view l ≠ 0 → pickL ep xs view l = []) := Go.Lib.hid (fun h => if_neg h)
  have DQ : Hid (checkE ep xs view l = 0 → pickL ep xs view l = pickR ep l) := Go.Lib.hid (fun h => if_pos h)
  have DF : Hid (checkE ep xs view l = if confB ep xs = true then (if viewsB view l = true then (if rightsE ep xs l = 0 then (if riseB (-1) l = true then (if (l.length : Int) < quorumI xs.length then 15 else 0) else 17) else rightsE ep xs l) else 13) else 1) := Go.Lib.hid rfl
  have DV : Hid (viewsB view l = (decide (1 ≤ view) && decide (view ≤ 15) && sameViews view l)) := Go.Lib.hid rfl
  clear h hi hie
  go_enter Try.func20, Try.ntmps20
  go_wp2_with fail
  refine Calls.ew (ref_Right07 ep a cap xs _ (HI.out.extN (by (repeat (first | with_reducible exact Ext.refl _ _ | assumption | with_reducible refine Ext.upN ?_ | with_reducible refine Ext.alloc ?_ _ | with_reducible refine Ext.upA (by assumption) ?_ | with_reducible refine Ext.upW ?_ | with_reducible refine Ext.drew ?_ | with_reducible refine Ext.drewN ?_ _ | with_reducible refine Ext.upF ?_ | with_reducible refine Ext.upFF (by first | omega | simp) ?_ | with_reducible refine Ext.setCellsF _ _ _ (by first | omega | simp) ?_ | with_reducible refine Ext.setCellF _ _ _ (by first | omega | simp) ?_ | with_reducible refine Ext.upFN (by first | omega | simp) ?_ | with_reducible refine Ext.up1F (by first | omega | simp) ?_ | with_reducible refine Ext.up1N (by first | omega | simp) ?_ | with_reducible refine Ext.setCell ?_ (.inr (by first | omega | simp)) _ | refine Ext.alloc ?_ _ | refine Ext.setCellF _ _ _ (by first | omega | simp) ?_ | refine Ext.setCell ?_ (.inr (by first | omega | simp)) _))))) ?_
  rintro e x1 rfl
  cases hc : confB ep xs
  · as_aux_lemma =>
    have HC := Go.Lib.hid hc; clear hc
    go_wp2
    go_returns
    have e : checkE ep xs view l = 1 := by rw [DF.out, HC.out]; rfl
    exact ⟨.slice none 0 0, by rw [e]; rfl, by rw [DP.out (by rw [e]; omega)]; exact World.ownsRow_nil _ _ _ _, by (repeat (first | with_reducible exact Ext.refl _ _ | assumption | with_reducible refine Ext.upN ?_ | with_reducible refine Ext.alloc ?_ _ | with_reducible refine Ext.upA (by assumption) ?_ | with_reducible refine Ext.upW ?_ | with_reducible refine Ext.drew ?_ | with_reducible refine Ext.drewN ?_ _ | with_reducible refine Ext.upF ?_ | with_reducible refine Ext.upFF (by first | omega | simp) ?_ | with_reducible refine Ext.setCellsF _ _ _ (by first | omega | simp) ?_ | with_reducible refine Ext.setCellF _ _ _ (by first | omega | simp) ?_ | with_reducible refine Ext.upFN (by first | omega | simp) ?_ | with_reducible refine Ext.up1F (by first | omega | simp) ?_ | with_reducible refine Ext.up1N (by first | omega | simp) ?_ | with_reducible refine Ext.setCell ?_ (.inr (by first | omega | simp)) _ | refine Ext.alloc ?_ _ | refine Ext.setCellF _ _ _ (by first | omega | simp) ?_ | refine Ext.setCell ?_ (.inr (by first | omega | simp)) _))⟩
  · have HC := Go.Lib.hid hc
    have HL := Go.Lib.hid (conf_len hc)
    clear hc
    by_cases h1 : 1 ≤ view
    · by_cases h2 : view ≤ 15
      · have DV2 : Hid (viewsB view l = sameViews view l) := Go.Lib.hid (by rw [DV.out, decide_eq_true h1, decide_eq_true h2]; rfl)
        have hep := conf_ep HC.out
        go_wp2_with fail
        go_loopw [8] (fun iv wr => ∃ (i : Nat) (z : EW Non x1.on), i ≤ l.length ∧ iv = .int .i64 i ∧ wr = z.on ∧ Hid (viewsB view l = sameViews view (l.drop i))) (fun iv _ => l.length - (intOf iv).toNat)
        case atStart => exact ⟨0, ⟨_, by (repeat (first | with_reducible exact Ext.refl _ _ | assumption | with_reducible refine Ext.upN ?_ | with_reducible refine Ext.alloc ?_ _ | with_reducible refine Ext.upA (by assumption) ?_ | with_reducible refine Ext.upW ?_ | with_reducible refine Ext.drew ?_ | with_reducible refine Ext.drewN ?_ _ | with_reducible refine Ext.upF ?_ | with_reducible refine Ext.upFF (by first | omega | simp) ?_ | with_reducible refine Ext.setCellsF _ _ _ (by first | omega | simp) ?_ | with_reducible refine Ext.setCellF _ _ _ (by first | omega | simp) ?_ | with_reducible refine Ext.upFN (by first | omega | simp) ?_ | with_reducible refine Ext.up1F (by first | omega | simp) ?_ | with_reducible refine Ext.up1N (by first | omega | simp) ?_ | with_reducible refine Ext.setCell ?_ (.inr (by first | omega | simp)) _ | refine Ext.alloc ?_ _ | refine Ext.setCellF _ _ _ (by first | omega | simp) ?_ | refine Ext.setCell ?_ (.inr (by first | omega | simp)) _))⟩, Nat.zero_le _, rfl, rfl, DV2⟩
        case round =>
          obtain ⟨i, z, hi, rfl, rfl, HV⟩ := hrel
          by_cases hlt : i < l.length
          · obtain ⟨lb, lo, ca, ccap, rfl, hlb, hrow, hcs, hif, hiv, hiy, hit⟩ := HH.out.at_ i hlt
            have HD := Go.Lib.hid (sameViews_drop view l i hlt)
            generalize hcc : chAt l i = cc at *
            obtain ⟨cf, cv, certs, cy, ct⟩ := cc
            clear hcc
            have r0 : w.cell? ⟨lb, lo + i * 5, none⟩ = some (.int .i64 cf) := hrow 0 _ rfl
            have r1 : w.cell? ⟨lb, lo + i * 5 + 1, none⟩ = some (.int .i64 cv) := hrow 1 _ rfl
            have r2 : w.cell? ⟨lb, lo + i * 5 + 2, none⟩ = some (.slice ca certs.length ccap) := hrow 2 _ rfl
            have r3 : w.cell? ⟨lb, lo + i * 5 + 3, none⟩ = some (.int .i64 cy) := hrow 3 _ rfl
            have r4 : w.cell? ⟨lb, lo + i * 5 + 4, none⟩ = some (.string ct) := hrow 4 _ rfl
            have HCs : Hid (Certs w ca ccap certs) := Go.Lib.hid hcs
            have HIx : Hid (I64 cf ∧ I64 cv) := Go.Lib.hid ⟨hif, hiv⟩
            clear hrow hcs hif hiv hiy hit
            by_cases hv : cv = view
            · have HW : Hid (viewsB view l = sameViews view (l.drop (i + 1))) := Go.Lib.hid (by rw [HV.out, HD.out, decide_eq_true (show _ = view from hv)]; rfl)
              have hbe : (cv != view) = false := by rw [bne_eq_false_iff_eq]; exact hv
              clear hv
              go_wp2_with fail
              go_roundw
              case rel => exact ⟨i + 1, ⟨_, by (repeat (first | with_reducible exact Ext.refl _ _ | assumption | with_reducible refine Ext.upN ?_ | with_reducible refine Ext.alloc ?_ _ | with_reducible refine Ext.upA (by assumption) ?_ | with_reducible refine Ext.upW ?_ | with_reducible refine Ext.drew ?_ | with_reducible refine Ext.drewN ?_ _ | with_reducible refine Ext.upF ?_ | with_reducible refine Ext.upFF (by first | omega | simp) ?_ | with_reducible refine Ext.setCellsF _ _ _ (by first | omega | simp) ?_ | with_reducible refine Ext.setCellF _ _ _ (by first | omega | simp) ?_ | with_reducible refine Ext.upFN (by first | omega | simp) ?_ | with_reducible refine Ext.up1F (by first | omega | simp) ?_ | with_reducible refine Ext.up1N (by first | omega | simp) ?_ | with_reducible refine Ext.setCell ?_ (.inr (by first | omega | simp)) _ | refine Ext.alloc ?_ _ | refine Ext.setCellF _ _ _ (by first | omega | simp) ?_ | refine Ext.setCell ?_ (.inr (by first | omega | simp)) _))⟩, hlt, by go_num, rfl, HW⟩
              case measure => simp [intOf]; omega
            · as_aux_lemma =>
              have HW : Hid (viewsB view l = false) := Go.Lib.hid (by rw [HV.out, HD.out, decide_eq_false (show ¬ _ = view from hv)]; rfl)
              have hbe : (cv != view) = true := by rw [bne_iff_ne]; exact hv
              clear hv
              go_wp2
              go_returns
              have e : checkE ep xs view l = 13 := by rw [DF.out, HC.out, HW.out]; rfl
              exact ⟨.slice none 0 0, by rw [e]; rfl, by rw [DP.out (by rw [e]; omega)]; exact World.ownsRow_nil _ _ _ _, by (repeat (first | with_reducible exact Ext.refl _ _ | assumption | with_reducible refine Ext.upN ?_ | with_reducible refine Ext.alloc ?_ _ | with_reducible refine Ext.upA (by assumption) ?_ | with_reducible refine Ext.upW ?_ | with_reducible refine Ext.drew ?_ | with_reducible refine Ext.drewN ?_ _ | with_reducible refine Ext.upF ?_ | with_reducible refine Ext.upFF (by first | omega | simp) ?_ | with_reducible refine Ext.setCellsF _ _ _ (by first | omega | simp) ?_ | with_reducible refine Ext.setCellF _ _ _ (by first | omega | simp) ?_ | with_reducible refine Ext.upFN (by first | omega | simp) ?_ | with_reducible refine Ext.up1F (by first | omega | simp) ?_ | with_reducible refine Ext.up1N (by first | omega | simp) ?_ | with_reducible refine Ext.setCell ?_ (.inr (by first | omega | simp)) _ | refine Ext.alloc ?_ _ | refine Ext.setCellF _ _ _ (by first | omega | simp) ?_ | refine Ext.setCell ?_ (.inr (by first | omega | simp)) _))⟩
          · have HV' : Hid (viewsB view l = true) := Go.Lib.hid (by rw [HV.out, List.drop_eq_nil_of_le (by omega)]; rfl)
            have DG : Hid (checkE ep xs view l = if rightsE ep xs l = 0 then (if riseB (-1) l = true then (if (l.length : Int) < quorumI xs.length then 15 else 0) else 17) else rightsE ep xs l) := Go.Lib.hid (by rw [DF.out, HC.out, HV'.out]; rfl)
            clear HV
            go_wp2_with fail
            go_loopw [9] (fun iv wr => ∃ (i : Nat) (z2 : EW Non z.on), i ≤ l.length ∧ iv = .int .i64 i ∧ wr = z2.on ∧ Hid (rightsE ep xs l = rightsE ep xs (l.drop i))) (fun iv _ => l.length - (intOf iv).toNat)
            case atStart => exact ⟨0, ⟨_, by (repeat (first | with_reducible exact Ext.refl _ _ | assumption | with_reducible refine Ext.upN ?_ | with_reducible refine Ext.alloc ?_ _ | with_reducible refine Ext.upA (by assumption) ?_ | with_reducible refine Ext.upW ?_ | with_reducible refine Ext.drew ?_ | with_reducible refine Ext.drewN ?_ _ | with_reducible refine Ext.upF ?_ | with_reducible refine Ext.upFF (by first | omega | simp) ?_ | with_reducible refine Ext.setCellsF _ _ _ (by first | omega | simp) ?_ | with_reducible refine Ext.setCellF _ _ _ (by first | omega | simp) ?_ | with_reducible refine Ext.upFN (by first | omega | simp) ?_ | with_reducible refine Ext.up1F (by first | omega | simp) ?_ | with_reducible refine Ext.up1N (by first | omega | simp) ?_ | with_reducible refine Ext.setCell ?_ (.inr (by first | omega | simp)) _ | refine Ext.alloc ?_ _ | refine Ext.setCellF _ _ _ (by first | omega | simp) ?_ | refine Ext.setCell ?_ (.inr (by first | omega | simp)) _))⟩, Nat.zero_le _, rfl, rfl, Go.Lib.hid rfl⟩
            case round =>
              obtain ⟨i, z2, hi, rfl, rfl, HG⟩ := hrel
              by_cases hlt : i < l.length
              · obtain ⟨lb, lo, ca, ccap, rfl, hlb, hrow, hcs, hif, hiv, hiy, hit⟩ := HH.out.at_ i hlt
                have HDe := Go.Lib.hid (rightsE_drop ep xs l i hlt)
                generalize hcc : chAt l i = cc at *
                obtain ⟨cf, cv, certs, cy, ct⟩ := cc
                clear hcc
                have r0 : w.cell? ⟨lb, lo + i * 5, none⟩ = some (.int .i64 cf) := hrow 0 _ rfl
                have r1 : w.cell? ⟨lb, lo + i * 5 + 1, none⟩ = some (.int .i64 cv) := hrow 1 _ rfl
                have r2 : w.cell? ⟨lb, lo + i * 5 + 2, none⟩ = some (.slice ca certs.length ccap) := hrow 2 _ rfl
                have r3 : w.cell? ⟨lb, lo + i * 5 + 3, none⟩ = some (.int .i64 cy) := hrow 3 _ rfl
                have r4 : w.cell? ⟨lb, lo + i * 5 + 4, none⟩ = some (.string ct) := hrow 4 _ rfl
                have HCs : Hid (Certs w ca ccap certs) := Go.Lib.hid hcs
                have HIx : Hid (I64 cf ∧ I64 cv) := Go.Lib.hid ⟨hif, hiv⟩
                clear hrow hcs hif hiv hiy hit
                go_upto_region 13 with fail
                (refine wp_region_ext_lit (by kernel_rfl) (by kernel_rfl) ?_; (repeat (go_big_quiet_step ((go_at_call 18; exact Calls.ext_of (ref16_Right ep a cap xs cf cv cy ct ca ccap certs HE.out HIx.out.1 HIx.out.2 _ (HI.out.extN (by (repeat (first | with_reducible exact Ext.refl _ _ | assumption | with_reducible refine Ext.upN ?_ | with_reducible refine Ext.alloc ?_ _ | with_reducible refine Ext.upA (by assumption) ?_ | with_reducible refine Ext.upW ?_ | with_reducible refine Ext.drew ?_ | with_reducible refine Ext.drewN ?_ _ | with_reducible refine Ext.upF ?_ | with_reducible refine Ext.upFF (by first | omega | simp) ?_ | with_reducible refine Ext.setCellsF _ _ _ (by first | omega | simp) ?_ | with_reducible refine Ext.setCellF _ _ _ (by first | omega | simp) ?_ | with_reducible refine Ext.upFN (by first | omega | simp) ?_ | with_reducible refine Ext.up1F (by first | omega | simp) ?_ | with_reducible refine Ext.up1N (by first | omega | simp) ?_ | with_reducible refine Ext.setCell ?_ (.inr (by first | omega | simp)) _ | refine Ext.alloc ?_ _ | refine Ext.setCellF _ _ _ (by first | omega | simp) ?_ | refine Ext.setCell ?_ (.inr (by first | omega | simp)) _)))) (HCs.out.extN (by (repeat (first | with_reducible exact Ext.refl _ _ | assumption | with_reducible refine Ext.upN ?_ | with_reducible refine Ext.alloc ?_ _ | with_reducible refine Ext.upA (by assumption) ?_ | with_reducible refine Ext.upW ?_ | with_reducible refine Ext.drew ?_ | with_reducible refine Ext.drewN ?_ _ | with_reducible refine Ext.upF ?_ | with_reducible refine Ext.upFF (by first | omega | simp) ?_ | with_reducible refine Ext.setCellsF _ _ _ (by first | omega | simp) ?_ | with_reducible refine Ext.setCellF _ _ _ (by first | omega | simp) ?_ | with_reducible refine Ext.upFN (by first | omega | simp) ?_ | with_reducible refine Ext.up1F (by first | omega | simp) ?_ | with_reducible refine Ext.up1N (by first | omega | simp) ?_ | with_reducible refine Ext.setCell ?_ (.inr (by first | omega | simp)) _ | refine Ext.alloc ?_ _ | refine Ext.setCellF _ _ _ (by first | omega | simp) ?_ | refine Ext.setCell ?_ (.inr (by first | omega | simp)) _))))))))); refine wpQuiet_nil ?_; intro _ hw'; obtain ⟨xq, hw''⟩ := hw'; subst hw'')
                generalize hre : rightE ep xs ⟨cf, cv, certs, cy, ct⟩ = re at *
                clear hre
                by_cases h0 : re = 0
                · subst h0
                  have HG' : Hid (rightsE ep xs l = rightsE ep xs (l.drop (i + 1))) := Go.Lib.hid (by rw [HG.out, HDe.out]; rfl)
                  go_wp2_with fail
                  go_roundw
                  case rel => exact ⟨i + 1, ⟨_, by (repeat (first | with_reducible exact Ext.refl _ _ | assumption | with_reducible refine Ext.upN ?_ | with_reducible refine Ext.alloc ?_ _ | with_reducible refine Ext.upA (by assumption) ?_ | with_reducible refine Ext.upW ?_ | with_reducible refine Ext.drew ?_ | with_reducible refine Ext.drewN ?_ _ | with_reducible refine Ext.upF ?_ | with_reducible refine Ext.upFF (by first | omega | simp) ?_ | with_reducible refine Ext.setCellsF _ _ _ (by first | omega | simp) ?_ | with_reducible refine Ext.setCellF _ _ _ (by first | omega | simp) ?_ | with_reducible refine Ext.upFN (by first | omega | simp) ?_ | with_reducible refine Ext.up1F (by first | omega | simp) ?_ | with_reducible refine Ext.up1N (by first | omega | simp) ?_ | with_reducible refine Ext.setCell ?_ (.inr (by first | omega | simp)) _ | refine Ext.alloc ?_ _ | refine Ext.setCellF _ _ _ (by first | omega | simp) ?_ | refine Ext.setCell ?_ (.inr (by first | omega | simp)) _))⟩, hlt, by go_num, rfl, HG'⟩
                  case measure => simp [intOf]; omega
                · as_aux_lemma =>
                  have HN := Go.Lib.hid h0
                  have hbe : (re != 0) = true := by rw [bne_iff_ne]; exact h0
                  clear h0
                  go_wp2
                  go_returns
                  have e : checkE ep xs view l = re := by rw [DG.out, HG.out, HDe.out, if_neg (show ¬ re = 0 from HN.out), if_neg (show ¬ re = 0 from HN.out)]
                  exact ⟨.slice none 0 0, by rw [e]; rfl, by rw [DP.out (by rw [e]; exact HN.out)]; exact World.ownsRow_nil _ _ _ _, by (repeat (first | with_reducible exact Ext.refl _ _ | assumption | with_reducible refine Ext.upN ?_ | with_reducible refine Ext.alloc ?_ _ | with_reducible refine Ext.upA (by assumption) ?_ | with_reducible refine Ext.upW ?_ | with_reducible refine Ext.drew ?_ | with_reducible refine Ext.drewN ?_ _ | with_reducible refine Ext.upF ?_ | with_reducible refine Ext.upFF (by first | omega | simp) ?_ | with_reducible refine Ext.setCellsF _ _ _ (by first | omega | simp) ?_ | with_reducible refine Ext.setCellF _ _ _ (by first | omega | simp) ?_ | with_reducible refine Ext.upFN (by first | omega | simp) ?_ | with_reducible refine Ext.up1F (by first | omega | simp) ?_ | with_reducible refine Ext.up1N (by first | omega | simp) ?_ | with_reducible refine Ext.setCell ?_ (.inr (by first | omega | simp)) _ | refine Ext.alloc ?_ _ | refine Ext.setCellF _ _ _ (by first | omega | simp) ?_ | refine Ext.setCell ?_ (.inr (by first | omega | simp)) _))⟩
              · have HR0 : Hid (rightsE ep xs l = 0) := Go.Lib.hid (by rw [HG.out, List.drop_eq_nil_of_le (by omega)]; rfl)
                have DH : Hid (checkE ep xs view l = if riseB (-1) l = true then (if (l.length : Int) < quorumI xs.length then 15 else 0) else 17) := Go.Lib.hid (by rw [DG.out, HR0.out]; rfl)
                clear HG DG
                go_wp2_with fail
                go_loopw [11] (fun iv wr => ∃ (i : Nat) (z3 : EW Non z2.on), 1 ≤ i ∧ i ≤ l.length + 1 ∧ iv = .int .i64 i ∧ wr = z3.on ∧ Hid (riseB (-1) l = riseB (chAt l (i - 1)).from_ (l.drop i))) (fun iv _ => l.length - (intOf iv).toNat)
                case atStart =>
                  refine ⟨1, ⟨_, by (repeat (first | with_reducible exact Ext.refl _ _ | assumption | with_reducible refine Ext.upN ?_ | with_reducible refine Ext.alloc ?_ _ | with_reducible refine Ext.upA (by assumption) ?_ | with_reducible refine Ext.upW ?_ | with_reducible refine Ext.drew ?_ | with_reducible refine Ext.drewN ?_ _ | with_reducible refine Ext.upF ?_ | with_reducible refine Ext.upFF (by first | omega | simp) ?_ | with_reducible refine Ext.setCellsF _ _ _ (by first | omega | simp) ?_ | with_reducible refine Ext.setCellF _ _ _ (by first | omega | simp) ?_ | with_reducible refine Ext.upFN (by first | omega | simp) ?_ | with_reducible refine Ext.up1F (by first | omega | simp) ?_ | with_reducible refine Ext.up1N (by first | omega | simp) ?_ | with_reducible refine Ext.setCell ?_ (.inr (by first | omega | simp)) _ | refine Ext.alloc ?_ _ | refine Ext.setCellF _ _ _ (by first | omega | simp) ?_ | refine Ext.setCell ?_ (.inr (by first | omega | simp)) _))⟩, Nat.le_refl _, by omega, rfl, rfl, Go.Lib.hid ?_⟩
                  rcases Nat.eq_zero_or_pos l.length with hz | hz
                  · rw [List.length_eq_zero_iff] at hz; rw [hz]; rfl
                  · exact rise_start HR0.out hz
                case round =>
                  obtain ⟨i, z3, hi1, hi, rfl, rfl, HRs⟩ := hrel
                  by_cases hlt : i < l.length
                  · obtain ⟨k, rfl⟩ : ∃ k, i = k + 1 := ⟨i - 1, by omega⟩
                    obtain ⟨lb, lo, ca, ccap, hla, hlb, hrow, -⟩ := HH.out.at_ (k + 1) hlt
                    obtain ⟨lb2, lo2, ca2, ccap2, hla2, hlb2, hrow2, -⟩ := HH.out.at_ k (by omega)
                    rw [hla] at hla2
                    injection hla2 with e2; injection e2 with e3 e4; subst e3; subst e4
                    subst hla
                    have HDr := Go.Lib.hid (riseB_drop (chAt l (k + 1 - 1)).from_ l (k + 1) hlt)
                    have HK1 : Hid (chAt l (k + 1 - 1) = chAt l k) := Go.Lib.hid rfl
                    rw [HK1.out] at HDr HRs
                    have r0 : w.cell? ⟨lb, lo + (k + 1) * 5, none⟩ = some (.int .i64 (chAt l (k + 1)).from_) := hrow 0 _ rfl
                    have s0 : w.cell? ⟨lb, lo + k * 5, none⟩ = some (.int .i64 (chAt l k).from_) := hrow2 0 _ rfl
                    have hw1 : IntKind.i64.wrap (((k + 1 : Nat) : Int) - 1) = ((k : Nat) : Int) := by rw [show ((k + 1 : Nat) : Int) - 1 = (k : Int) by omega]; exact IntWalk.i64_in _ (by omega)
                    clear hrow hrow2
                    generalize hp : (chAt l k).from_ = pf at *
                    generalize hq : (chAt l (k + 1)).from_ = cf at *
                    have HQ := Go.Lib.hid hq
                    clear hp hq
                    by_cases hv : cf ≤ pf
                    · as_aux_lemma =>
                      have HW : Hid (riseB (-1) l = false) := Go.Lib.hid (by rw [HRs.out, HDr.out, decide_eq_false (by omega)]; rfl)
                      go_upto_region 19 with fail
                      (refine wp_region_ext_lit (by kernel_rfl) (by kernel_rfl) ?_; (repeat (go_big_quiet_step (fail))); refine wpQuiet_nil ?_; intro _ hw'; obtain ⟨xq, hw''⟩ := hw'; subst hw'')
                      go_wp2
                      go_returns
                      have e : checkE ep xs view l = 17 := by rw [DH.out, HW.out]; rfl
                      exact ⟨.slice none 0 0, by rw [e]; rfl, by rw [DP.out (by rw [e]; omega)]; exact World.ownsRow_nil _ _ _ _, by (repeat (first | with_reducible exact Ext.refl _ _ | assumption | with_reducible refine Ext.upN ?_ | with_reducible refine Ext.alloc ?_ _ | with_reducible refine Ext.upA (by assumption) ?_ | with_reducible refine Ext.upW ?_ | with_reducible refine Ext.drew ?_ | with_reducible refine Ext.drewN ?_ _ | with_reducible refine Ext.upF ?_ | with_reducible refine Ext.upFF (by first | omega | simp) ?_ | with_reducible refine Ext.setCellsF _ _ _ (by first | omega | simp) ?_ | with_reducible refine Ext.setCellF _ _ _ (by first | omega | simp) ?_ | with_reducible refine Ext.upFN (by first | omega | simp) ?_ | with_reducible refine Ext.up1F (by first | omega | simp) ?_ | with_reducible refine Ext.up1N (by first | omega | simp) ?_ | with_reducible refine Ext.setCell ?_ (.inr (by first | omega | simp)) _ | refine Ext.alloc ?_ _ | refine Ext.setCellF _ _ _ (by first | omega | simp) ?_ | refine Ext.setCell ?_ (.inr (by first | omega | simp)) _))⟩
                    · have HW : Hid (riseB (-1) l = riseB (chAt l (k + 1 + 1 - 1)).from_ (l.drop (k + 1 + 1))) := Go.Lib.hid (by rw [HRs.out, HDr.out, decide_eq_true (by omega), show k + 1 + 1 - 1 = k + 1 from rfl, HQ.out]; rfl)
                      have hvb : decide (cf ≤ pf) = false := decide_eq_false hv
                      go_upto_region 19 with fail
                      (refine wp_region_ext_lit (by kernel_rfl) (by kernel_rfl) ?_; (repeat (go_big_quiet_step (fail))); refine wpQuiet_nil ?_; intro _ hw'; obtain ⟨xq, hw''⟩ := hw'; subst hw'')
                      go_wp2_with fail
                      go_roundw
                      case rel => exact ⟨k + 1 + 1, ⟨_, by (repeat (first | with_reducible exact Ext.refl _ _ | assumption | with_reducible refine Ext.upN ?_ | with_reducible refine Ext.alloc ?_ _ | with_reducible refine Ext.upA (by assumption) ?_ | with_reducible refine Ext.upW ?_ | with_reducible refine Ext.drew ?_ | with_reducible refine Ext.drewN ?_ _ | with_reducible refine Ext.upF ?_ | with_reducible refine Ext.upFF (by first | omega | simp) ?_ | with_reducible refine Ext.setCellsF _ _ _ (by first | omega | simp) ?_ | with_reducible refine Ext.setCellF _ _ _ (by first | omega | simp) ?_ | with_reducible refine Ext.upFN (by first | omega | simp) ?_ | with_reducible refine Ext.up1F (by first | omega | simp) ?_ | with_reducible refine Ext.up1N (by first | omega | simp) ?_ | with_reducible refine Ext.setCell ?_ (.inr (by first | omega | simp)) _ | refine Ext.alloc ?_ _ | refine Ext.setCellF _ _ _ (by first | omega | simp) ?_ | refine Ext.setCell ?_ (.inr (by first | omega | simp)) _))⟩, by omega, by omega, by go_num, rfl, HW⟩
                      case measure => simp [intOf]; omega
                  · have HR1 : Hid (riseB (-1) l = true) := Go.Lib.hid (by rw [HRs.out, List.drop_eq_nil_of_le (by omega)]; rfl)
                    have DI : Hid (checkE ep xs view l = if (l.length : Int) < quorumI xs.length then 15 else 0) := Go.Lib.hid (by rw [DH.out, HR1.out]; rfl)
                    clear HRs DH
                    go_wp2_with fail
                    refine (ref_Quorum xs.length (by omega) (by have := HL.out; omega) _).mono ?_
                    rintro e _ ⟨rfl, rfl⟩
                    by_cases hq : (l.length : Int) < quorumI xs.length
                    · as_aux_lemma =>
                      have HQ := Go.Lib.hid hq
                      have DJ : Hid (checkE ep xs view l = 15) := Go.Lib.hid (by rw [DI.out, if_pos hq])
                      generalize quorumI xs.length = q at *
                      have hbe : decide ((l.length : Int) < q) = true := decide_eq_true hq
                      go_wp2
                      go_returns
                      have e : checkE ep xs view l = 15 := by exact DJ.out
                      exact ⟨.slice none 0 0, by rw [e]; rfl, by rw [DP.out (by rw [e]; omega)]; exact World.ownsRow_nil _ _ _ _, by (repeat (first | with_reducible exact Ext.refl _ _ | assumption | with_reducible refine Ext.upN ?_ | with_reducible refine Ext.alloc ?_ _ | with_reducible refine Ext.upA (by assumption) ?_ | with_reducible refine Ext.upW ?_ | with_reducible refine Ext.drew ?_ | with_reducible refine Ext.drewN ?_ _ | with_reducible refine Ext.upF ?_ | with_reducible refine Ext.upFF (by first | omega | simp) ?_ | with_reducible refine Ext.setCellsF _ _ _ (by first | omega | simp) ?_ | with_reducible refine Ext.setCellF _ _ _ (by first | omega | simp) ?_ | with_reducible refine Ext.upFN (by first | omega | simp) ?_ | with_reducible refine Ext.up1F (by first | omega | simp) ?_ | with_reducible refine Ext.up1N (by first | omega | simp) ?_ | with_reducible refine Ext.setCell ?_ (.inr (by first | omega | simp)) _ | refine Ext.alloc ?_ _ | refine Ext.setCellF _ _ _ (by first | omega | simp) ?_ | refine Ext.setCell ?_ (.inr (by first | omega | simp)) _))⟩
                    · have DJ : Hid (checkE ep xs view l = 0) := Go.Lib.hid (by rw [DI.out, if_neg hq])
                      generalize quorumI xs.length = q at *
                      have hbe : decide ((l.length : Int) < q) = false := decide_eq_false hq
                      clear DI
                      have HPk : Hid (pickL ep xs view l = pickR ep l) := Go.Lib.hid (DQ.out DJ.out)
                      have HTk := Go.Lib.hid (fun k => pickR_take ep l k)
                      have HLn := Go.Lib.hid (pickR_length ep l)
                      have HBL : Hid (∀ n : Nat, bestL (4 * ep + (n + 1)) l = bestC (slotN ep n) (l.flatMap (·.certs))) := Go.Lib.hid (fun n => by unfold bestL slotN; rw [show 4 * ep + ((n : Int) + 1) = 4 * ep + 1 + n by omega])
                      have HF4 := Go.Lib.hid (lastTo_four ep (l.flatMap (·.certs)))
                      have HLe := Go.Lib.hid (lastTo_le ep (l.flatMap (·.certs)))
                      have HS1 : Hid (∀ n, lastTo ep (l.flatMap (·.certs)) (n + 1) = if (bestC (slotN ep n) (l.flatMap (·.certs))).isSome then n + 1 else lastTo ep (l.flatMap (·.certs)) n) := Go.Lib.hid (fun n => rfl)
                      generalize hP : l.flatMap (·.certs) = P at *
                      clear hP
                      have hw0 : IntKind.i64.wrap (4 * ep) = 4 * ep := IntWalk.i64_in _ (by omega)
                      go_wp2_with fail
                      go_loopw [13, 14] (fun lv iv wr => ∃ (n : Nat) (z4 : EW Non z3.on), n ≤ 4 ∧ lv = .int .i64 (lastTo ep P n) ∧ iv = .int .i64 ((n + 1 : Nat) : Int) ∧ wr = z4.on) (fun _ iv _ => 5 - (intOf iv).toNat)
                      case atStart => exact ⟨0, ⟨_, by (repeat (first | with_reducible exact Ext.refl _ _ | assumption | with_reducible refine Ext.upN ?_ | with_reducible refine Ext.alloc ?_ _ | with_reducible refine Ext.upA (by assumption) ?_ | with_reducible refine Ext.upW ?_ | with_reducible refine Ext.drew ?_ | with_reducible refine Ext.drewN ?_ _ | with_reducible refine Ext.upF ?_ | with_reducible refine Ext.upFF (by first | omega | simp) ?_ | with_reducible refine Ext.setCellsF _ _ _ (by first | omega | simp) ?_ | with_reducible refine Ext.setCellF _ _ _ (by first | omega | simp) ?_ | with_reducible refine Ext.upFN (by first | omega | simp) ?_ | with_reducible refine Ext.up1F (by first | omega | simp) ?_ | with_reducible refine Ext.up1N (by first | omega | simp) ?_ | with_reducible refine Ext.setCell ?_ (.inr (by first | omega | simp)) _ | refine Ext.alloc ?_ _ | refine Ext.setCellF _ _ _ (by first | omega | simp) ?_ | refine Ext.setCell ?_ (.inr (by first | omega | simp)) _))⟩, by omega, rfl, rfl, rfl⟩
                      case round =>
                        obtain ⟨n, z4, hn, rfl, rfl, rfl⟩ := hrel
                        have hle := HLe.out n
                        have HLe4 := HLe.out 4
                        have hw5 : IntKind.i64.wrap (4 * ep + ((n + 1 : Nat) : Int)) = 4 * ep + ((n + 1 : Nat) : Int) := IntWalk.i64_in _ (by omega)
                        by_cases hn4 : n < 4
                        · have hcc : decide (((n + 1 : Nat) : Int) ≤ 4) = true := decide_eq_true (by omega)
                          have HSn := Go.Lib.hid (HS1.out n)
                          have HBn := Go.Lib.hid (HBL.out n)
                          go_wp2_with fail
                          refine (ref16_best (4 * ep + ((n : Int) + 1)) la lcap l _ (HH.out.extN (by (repeat (first | with_reducible exact Ext.refl _ _ | assumption | with_reducible refine Ext.upN ?_ | with_reducible refine Ext.alloc ?_ _ | with_reducible refine Ext.upA (by assumption) ?_ | with_reducible refine Ext.upW ?_ | with_reducible refine Ext.drew ?_ | with_reducible refine Ext.drewN ?_ _ | with_reducible refine Ext.upF ?_ | with_reducible refine Ext.upFF (by first | omega | simp) ?_ | with_reducible refine Ext.setCellsF _ _ _ (by first | omega | simp) ?_ | with_reducible refine Ext.setCellF _ _ _ (by first | omega | simp) ?_ | with_reducible refine Ext.upFN (by first | omega | simp) ?_ | with_reducible refine Ext.up1F (by first | omega | simp) ?_ | with_reducible refine Ext.up1N (by first | omega | simp) ?_ | with_reducible refine Ext.setCell ?_ (.inr (by first | omega | simp)) _ | refine Ext.alloc ?_ _ | refine Ext.setCellF _ _ _ (by first | omega | simp) ?_ | refine Ext.setCell ?_ (.inr (by first | omega | simp)) _))))).mono ?_
                          rintro e _ ⟨sa, scap, rfl, x⟩
                          obtain ⟨z5, rfl⟩ := x.ew
                          rw [HBn.out]
                          generalize hbo : bestC (slotN ep n) P = bo at *
                          clear hbo
                          generalize ctOf bo = oo at *
                          generalize bo.isSome = fb at *
                          obtain ⟨ov, os, ⟨oc, ot, ⟨ok, okey, ox, oid⟩⟩, ol⟩ := oo
                          dsimp only [Ct.cells]
                          cases fb
                          · have HL1 : Hid (lastTo ep P (n + 1) = lastTo ep P n) := Go.Lib.hid (by rw [HSn.out]; simp)
                            go_wp2_with fail
                            go_roundw
                            case rel => exact ⟨n + 1, ⟨_, by (repeat (first | with_reducible exact Ext.refl _ _ | assumption | with_reducible refine Ext.upN ?_ | with_reducible refine Ext.alloc ?_ _ | with_reducible refine Ext.upA (by assumption) ?_ | with_reducible refine Ext.upW ?_ | with_reducible refine Ext.drew ?_ | with_reducible refine Ext.drewN ?_ _ | with_reducible refine Ext.upF ?_ | with_reducible refine Ext.upFF (by first | omega | simp) ?_ | with_reducible refine Ext.setCellsF _ _ _ (by first | omega | simp) ?_ | with_reducible refine Ext.setCellF _ _ _ (by first | omega | simp) ?_ | with_reducible refine Ext.upFN (by first | omega | simp) ?_ | with_reducible refine Ext.up1F (by first | omega | simp) ?_ | with_reducible refine Ext.up1N (by first | omega | simp) ?_ | with_reducible refine Ext.setCell ?_ (.inr (by first | omega | simp)) _ | refine Ext.alloc ?_ _ | refine Ext.setCellF _ _ _ (by first | omega | simp) ?_ | refine Ext.setCell ?_ (.inr (by first | omega | simp)) _))⟩, by omega, by rw [HL1.out], by go_num, rfl⟩
                            case measure => simp [intOf]; omega
                          · have HL1 : Hid (lastTo ep P (n + 1) = n + 1) := Go.Lib.hid (by rw [HSn.out]; simp)
                            go_wp2_with fail
                            go_roundw
                            case rel => exact ⟨n + 1, ⟨_, by (repeat (first | with_reducible exact Ext.refl _ _ | assumption | with_reducible refine Ext.upN ?_ | with_reducible refine Ext.alloc ?_ _ | with_reducible refine Ext.upA (by assumption) ?_ | with_reducible refine Ext.upW ?_ | with_reducible refine Ext.drew ?_ | with_reducible refine Ext.drewN ?_ _ | with_reducible refine Ext.upF ?_ | with_reducible refine Ext.upFF (by first | omega | simp) ?_ | with_reducible refine Ext.setCellsF _ _ _ (by first | omega | simp) ?_ | with_reducible refine Ext.setCellF _ _ _ (by first | omega | simp) ?_ | with_reducible refine Ext.upFN (by first | omega | simp) ?_ | with_reducible refine Ext.up1F (by first | omega | simp) ?_ | with_reducible refine Ext.up1N (by first | omega | simp) ?_ | with_reducible refine Ext.setCell ?_ (.inr (by first | omega | simp)) _ | refine Ext.alloc ?_ _ | refine Ext.setCellF _ _ _ (by first | omega | simp) ?_ | refine Ext.setCell ?_ (.inr (by first | omega | simp)) _))⟩, by omega, by rw [HL1.out], by go_num, rfl⟩
                            case measure => simp [intOf]; omega
                        · have hn5 : n = 4 := by omega
                          subst hn5
                          have HLn' : Hid ((pickR ep l).length = lastC ep P) := HLn
                          have hcc : decide (((4 + 1 : Nat) : Int) ≤ 4) = false := by decide
                          rw [HF4.out] at *
                          generalize hcn : lastC ep P = cnt at *
                          clear hcn
                          have hws : w.heap.size < z4.on.heap.size := by have h1 := x1.ext.size; have h2 := z.ext.size; have h3 := z2.ext.size; have h4 := z3.ext.size; have h5 := z4.ext.size; simp at h1; omega
                          go_wp2_with fail
                          go_loopw [12, 17] (fun ov iv wr => ∃ (k : Nat) (v : Value) (z5 : EW (From z4.on.heap.size) z4.on), k ≤ cnt ∧ v = ov ∧ iv = .int .i64 ((k + 1 : Nat) : Int) ∧ wr = z5.on ∧ Hid (wr.ownsRow z4.on.heap.size 49 6 v k (reqCells ((pickR ep l).take k)))) (fun _ iv _ => cnt + 1 - (intOf iv).toNat)
                          case atStart => exact ⟨0, _, ⟨_, Ext.refl _ _⟩, Nat.zero_le _, rfl, rfl, rfl, Go.Lib.hid (by rw [List.take_zero]; exact World.ownsRow_nil _ _ _ _)⟩
                          case round =>
                            obtain ⟨k, v, z5, hk, rfl, rfl, rfl, HO⟩ := hrel
                            by_cases hkl : k < cnt
                            · have hcc : decide (((k + 1 : Nat) : Int) ≤ (cnt : Int)) = true := decide_eq_true (by omega)
                              have hw5 : IntKind.i64.wrap (4 * ep + ((k + 1 : Nat) : Int)) = 4 * ep + ((k + 1 : Nat) : Int) := IntWalk.i64_in _ (by omega)
                              have HBn := Go.Lib.hid (HBL.out k)
                              have HT := Go.Lib.hid (HTk.out k hkl)
                              have HRq := Go.Lib.hid (ctOf_req (bestC (slotN ep k) P))
                              go_wp2_with fail
                              refine (ref16_best (4 * ep + ((k : Int) + 1)) la lcap l _ (HH.out.extN (by (repeat (first | with_reducible exact Ext.refl _ _ | assumption | with_reducible refine Ext.upN ?_ | with_reducible refine Ext.alloc ?_ _ | with_reducible refine Ext.upA (by assumption) ?_ | with_reducible refine Ext.upW ?_ | with_reducible refine Ext.drew ?_ | with_reducible refine Ext.drewN ?_ _ | with_reducible refine Ext.upF ?_ | with_reducible refine Ext.upFF (by first | omega | simp) ?_ | with_reducible refine Ext.setCellsF _ _ _ (by first | omega | simp) ?_ | with_reducible refine Ext.setCellF _ _ _ (by first | omega | simp) ?_ | with_reducible refine Ext.upFN (by first | omega | simp) ?_ | with_reducible refine Ext.up1F (by first | omega | simp) ?_ | with_reducible refine Ext.up1N (by first | omega | simp) ?_ | with_reducible refine Ext.setCell ?_ (.inr (by first | omega | simp)) _ | refine Ext.alloc ?_ _ | refine Ext.setCellF _ _ _ (by first | omega | simp) ?_ | refine Ext.setCell ?_ (.inr (by first | omega | simp)) _))))).mono ?_
                              rintro e _ ⟨sa, scap, rfl, x⟩
                              obtain ⟨z6, rfl⟩ := x.ew
                              rw [HBn.out]
                              generalize bestC (slotN ep k) P = bo at *
                              generalize ctOf bo = oo at *
                              generalize bo.isSome = fb at *
                              obtain ⟨ov, os, ⟨oc, ot, ⟨ok, okey, ox, oid⟩⟩, ol⟩ := oo
                              dsimp only [Ct.cells]
                              have hz3 : z4.on.heap.size ≤ z6.on.heap.size := Nat.le_trans z5.ext.size z6.ext.size
                              go_wp2_with (at_builtin; refine wpList_append_ew rfl _ _ 38 rfl z4.on.heap.size 49 6 56 _ Try.underlying38 info_req (by rfl) (by omega) (by omega) _ k _ rfl (ownR_extN HO.out (by (repeat (first | with_reducible exact Ext.refl _ _ | assumption | with_reducible refine Ext.upN ?_ | with_reducible refine Ext.alloc ?_ _ | with_reducible refine Ext.upA (by assumption) ?_ | with_reducible refine Ext.upW ?_ | with_reducible refine Ext.drew ?_ | with_reducible refine Ext.drewN ?_ _ | with_reducible refine Ext.upF ?_ | with_reducible refine Ext.upFF (by first | omega | simp) ?_ | with_reducible refine Ext.setCellsF _ _ _ (by first | omega | simp) ?_ | with_reducible refine Ext.setCellF _ _ _ (by first | omega | simp) ?_ | with_reducible refine Ext.upFN (by first | omega | simp) ?_ | with_reducible refine Ext.up1F (by first | omega | simp) ?_ | with_reducible refine Ext.up1N (by first | omega | simp) ?_ | with_reducible refine Ext.setCell ?_ (.inr (by first | omega | simp)) _ | refine Ext.alloc ?_ _ | refine Ext.setCellF _ _ _ (by first | omega | simp) ?_ | refine Ext.setCell ?_ (.inr (by first | omega | simp)) _)))) _ [.int .i64 oc, .int .i64 ot, .int .i64 ok, .string okey, .float .f64 ox, .int .i64 oid] _ rfl (Bx.newAt _ _ _ _ (by simp)) rfl (by simp [Value.oneCell']) (by omega) (by simp <;> omega) (fun v' W2 hO => ?_); have HO2 := Go.Lib.hid hO; clear hO)
                              have HO3 : Hid (W2.on.ownsRow z4.on.heap.size 49 6 v' (k + 1) (reqCells ((pickR ep l).take (k + 1)))) := Go.Lib.hid (by rw [HT.out, reqCells_snoc, ← HRq.out]; exact HO2.out)
                              go_roundw
                              case rel => exact ⟨k + 1, v', ⟨_, by (repeat (first | with_reducible exact Ext.refl _ _ | assumption | with_reducible refine Ext.upN ?_ | with_reducible refine Ext.alloc ?_ _ | with_reducible refine Ext.upA (by assumption) ?_ | with_reducible refine Ext.upW ?_ | with_reducible refine Ext.drew ?_ | with_reducible refine Ext.drewN ?_ _ | with_reducible refine Ext.upF ?_ | with_reducible refine Ext.upFF (by first | omega | simp) ?_ | with_reducible refine Ext.setCellsF _ _ _ (by first | omega | simp) ?_ | with_reducible refine Ext.setCellF _ _ _ (by first | omega | simp) ?_ | with_reducible refine Ext.upFN (by first | omega | simp) ?_ | with_reducible refine Ext.up1F (by first | omega | simp) ?_ | with_reducible refine Ext.up1N (by first | omega | simp) ?_ | with_reducible refine Ext.setCell ?_ (.inr (by first | omega | simp)) _ | refine Ext.alloc ?_ _ | refine Ext.setCellF _ _ _ (by first | omega | simp) ?_ | refine Ext.setCell ?_ (.inr (by first | omega | simp)) _))⟩, hkl, rfl, by go_num, rfl, HO3⟩
                              case measure => simp [intOf]; omega
                            · have HKC : Hid (k = cnt) := Go.Lib.hid (by omega)
                              have hcc : decide (((k + 1 : Nat) : Int) ≤ (cnt : Int)) = false := decide_eq_false (by omega)
                              go_wp2
                              go_returns
                              refine ⟨v, by rw [DJ.out]; rfl, ?_, Ext.trans (by (repeat (first | with_reducible exact Ext.refl _ _ | assumption | with_reducible refine Ext.upN ?_ | with_reducible refine Ext.alloc ?_ _ | with_reducible refine Ext.upA (by assumption) ?_ | with_reducible refine Ext.upW ?_ | with_reducible refine Ext.drew ?_ | with_reducible refine Ext.drewN ?_ _ | with_reducible refine Ext.upF ?_ | with_reducible refine Ext.upFF (by first | omega | simp) ?_ | with_reducible refine Ext.setCellsF _ _ _ (by first | omega | simp) ?_ | with_reducible refine Ext.setCellF _ _ _ (by first | omega | simp) ?_ | with_reducible refine Ext.upFN (by first | omega | simp) ?_ | with_reducible refine Ext.up1F (by first | omega | simp) ?_ | with_reducible refine Ext.up1N (by first | omega | simp) ?_ | with_reducible refine Ext.setCell ?_ (.inr (by first | omega | simp)) _ | refine Ext.alloc ?_ _ | refine Ext.setCellF _ _ _ (by first | omega | simp) ?_ | refine Ext.setCell ?_ (.inr (by first | omega | simp)) _)) : Ext Non w z4.on) (Ext.fromNon (Nat.le_refl _) (by (repeat (first | with_reducible exact Ext.refl _ _ | assumption | with_reducible refine Ext.upN ?_ | with_reducible refine Ext.alloc ?_ _ | with_reducible refine Ext.upA (by assumption) ?_ | with_reducible refine Ext.upW ?_ | with_reducible refine Ext.drew ?_ | with_reducible refine Ext.drewN ?_ _ | with_reducible refine Ext.upF ?_ | with_reducible refine Ext.upFF (by first | omega | simp) ?_ | with_reducible refine Ext.setCellsF _ _ _ (by first | omega | simp) ?_ | with_reducible refine Ext.setCellF _ _ _ (by first | omega | simp) ?_ | with_reducible refine Ext.upFN (by first | omega | simp) ?_ | with_reducible refine Ext.up1F (by first | omega | simp) ?_ | with_reducible refine Ext.up1N (by first | omega | simp) ?_ | with_reducible refine Ext.setCell ?_ (.inr (by first | omega | simp)) _ | refine Ext.alloc ?_ _ | refine Ext.setCellF _ _ _ (by first | omega | simp) ?_ | refine Ext.setCell ?_ (.inr (by first | omega | simp)) _))))⟩
                              rw [HPk.out, HLn'.out]
                              obtain rfl := HKC.out
                              have := HO.out
                              rw [List.take_of_length_le (by rw [HLn'.out]; omega)] at this
                              exact ownR_base this (by omega)
      · have hn : 15 < view := by omega
        have hnb : decide (15 < view) = true := decide_eq_true hn
        have HW : Hid (viewsB view l = false) := Go.Lib.hid (by rw [DV.out, decide_eq_false h2]; simp)
        go_wp2
        go_returns
        have e : checkE ep xs view l = 13 := by rw [DF.out, HC.out, HW.out]; rfl
        exact ⟨.slice none 0 0, by rw [e]; rfl, by rw [DP.out (by rw [e]; omega)]; exact World.ownsRow_nil _ _ _ _, by (repeat (first | with_reducible exact Ext.refl _ _ | assumption | with_reducible refine Ext.upN ?_ | with_reducible refine Ext.alloc ?_ _ | with_reducible refine Ext.upA (by assumption) ?_ | with_reducible refine Ext.upW ?_ | with_reducible refine Ext.drew ?_ | with_reducible refine Ext.drewN ?_ _ | with_reducible refine Ext.upF ?_ | with_reducible refine Ext.upFF (by first | omega | simp) ?_ | with_reducible refine Ext.setCellsF _ _ _ (by first | omega | simp) ?_ | with_reducible refine Ext.setCellF _ _ _ (by first | omega | simp) ?_ | with_reducible refine Ext.upFN (by first | omega | simp) ?_ | with_reducible refine Ext.up1F (by first | omega | simp) ?_ | with_reducible refine Ext.up1N (by first | omega | simp) ?_ | with_reducible refine Ext.setCell ?_ (.inr (by first | omega | simp)) _ | refine Ext.alloc ?_ _ | refine Ext.setCellF _ _ _ (by first | omega | simp) ?_ | refine Ext.setCell ?_ (.inr (by first | omega | simp)) _))⟩
    · have hn : view < 1 := by omega
      have HW : Hid (viewsB view l = false) := Go.Lib.hid (by rw [DV.out, decide_eq_false h1]; simp)
      go_wp2
      go_returns
      have e : checkE ep xs view l = 13 := by rw [DF.out, HC.out, HW.out]; rfl
      exact ⟨.slice none 0 0, by rw [e]; rfl, by rw [DP.out (by rw [e]; omega)]; exact World.ownsRow_nil _ _ _ _, by (repeat (first | with_reducible exact Ext.refl _ _ | assumption | with_reducible refine Ext.upN ?_ | with_reducible refine Ext.alloc ?_ _ | with_reducible refine Ext.upA (by assumption) ?_ | with_reducible refine Ext.upW ?_ | with_reducible refine Ext.drew ?_ | with_reducible refine Ext.drewN ?_ _ | with_reducible refine Ext.upF ?_ | with_reducible refine Ext.upFF (by first | omega | simp) ?_ | with_reducible refine Ext.setCellsF _ _ _ (by first | omega | simp) ?_ | with_reducible refine Ext.setCellF _ _ _ (by first | omega | simp) ?_ | with_reducible refine Ext.upFN (by first | omega | simp) ?_ | with_reducible refine Ext.up1F (by first | omega | simp) ?_ | with_reducible refine Ext.up1N (by first | omega | simp) ?_ | with_reducible refine Ext.setCell ?_ (.inr (by first | omega | simp)) _ | refine Ext.alloc ?_ _ | refine Ext.setCellF _ _ _ (by first | omega | simp) ?_ | refine Ext.setCell ?_ (.inr (by first | omega | simp)) _))⟩
end Go.Proofs.Ytakbkpklfihfiaa
