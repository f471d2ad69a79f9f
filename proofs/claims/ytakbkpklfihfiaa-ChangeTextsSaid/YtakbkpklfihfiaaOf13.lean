/- Contracts of the reference of layer 13: which changes fit. -/
import Derived.Test.YtakbkpklfihfiaaRef13
import Derived.Test.YtakbkpklfihfiaaEw
namespace Go.Proofs.Ytakbkpklfihfiaa
open Go.RowKit Go.Lib F64
set_option linter.unusedSimpArgs false
set_option linter.unusedVariables false
attribute [local go_sem] run_store_float
attribute [local go_sem low] EW.cellN EW.frozN alloc_cell_or alloc_froz_or
def sigsB (l : List Sg) : Bool := nodesB l && decide (l.length ≤ 16)
theorem fits_no_sigs (epoch last : Int) (x : Ct) (h : sigsB x.sigs = false) : fitsB epoch last x = false := by
  unfold sigsB at h
  unfold fitsB headB
  cases hn : nodesB x.sigs
  · simp
  · by_cases hd : x.sigs.length ≤ 16
    · rw [hn, decide_eq_true hd] at h; cases h
    · rw [decide_eq_false hd]; simp
theorem ref13_sigsB (sa : Option Addr) (scap : Nat) (l : List Sg) (w : World) (hs : Sigs w sa scap l) : Calls Try.prog 109 #[.slice sa l.length scap] w fun e w' => e = .returned (.bool (sigsB l)) ∧ Ext Non w w' := ref13_sigs sa scap l w hs
theorem ref13_one (by_ : Int) (text : ByteArray) (hb : 0 ≤ by_ ∧ by_ < 200) (sa : Option Addr) (w : World) (hs : Sigs w sa 1 [⟨by_, text⟩]) : Calls Try.prog 109 #[.slice sa 1 1] w fun e w' => e = .returned (.bool true) ∧ Ext Non w w' := by
  refine Calls.mono (ref13_sigs sa 1 [⟨by_, text⟩] w hs) ?_
  rintro e w1 ⟨rfl, y⟩
  exact ⟨ret_bool (by have := hb; simp [nodesB]; omega), y⟩
theorem sigs_one (w : World) (by_ : Int) (text : ByteArray) (hb : 0 ≤ by_ ∧ by_ < 200) (ht : text.size ≤ 9223372036854775807) (t : TypeId) (k : Nat) (hk : k = w.heap.size) : Sigs (w.alloc (.cells #[.int .i64 by_, .string text] t)) (some ⟨k, 0, none⟩) 1 [⟨by_, text⟩] := by
  subst hk
  exact ⟨Nat.le_refl _, by omega, fun j hj => by
    obtain rfl : j = 0 := by simp at hj; omega
    have h := Bx.new w [.int .i64 by_, .string text] t
    exact ⟨w.heap.size, 0, rfl, by simp, h.cell rfl, h.cell rfl, by unfold I64; show _ ≤ by_ ∧ by_ ≤ _; omega, ht⟩⟩
set_option maxHeartbeats 4000000 in
set_option maxRecDepth 100000 in
theorem ref13_Change (epoch from_ view by_ : Int) (text : ByteArray) (ca : Option Addr) (ccap : Nat) (certs : List Ct) (he : 0 ≤ epoch ∧ epoch ≤ 60) (hb : 0 ≤ by_ ∧ by_ < 200) (ht : text.size ≤ 9223372036854775807) (w : World) (h : Certs w ca ccap certs) :
    Calls Try.prog 63 #[.int .i64 epoch, .agg #[.int .i64 from_, .int .i64 view, .slice ca certs.length ccap, .int .i64 by_, .string text]] w fun e w' =>
    e = .returned (.bool (mayB epoch ⟨from_, view, certs, by_, text⟩)) ∧ Ext Non w w' := by
  have HH := Go.Lib.hid h
  have HB := Go.Lib.hid hb; have HTx := Go.Lib.hid ht; have HE := Go.Lib.hid he
  have hsm := h.small; have hsl := h.le
  have HT : Hid (topB epoch ⟨from_, view, certs, by_, text⟩ = (decide (0 ≤ epoch) && decide (epoch ≤ 60) && decide (0 ≤ from_) && decide (from_ < 16) && decide (1 ≤ view) && decide (view ≤ 15) && decide (certs.length ≤ 4))) := Go.Lib.hid rfl
  have NO : Hid (topB epoch ⟨from_, view, certs, by_, text⟩ = false → mayB epoch ⟨from_, view, certs, by_, text⟩ = false) := Go.Lib.hid (fun hf => by unfold mayB; rw [hf]; rfl)
  clear h hb ht he
  by_cases h3 : 0 ≤ from_
  · by_cases h4 : from_ < 16
    · by_cases h5 : 1 ≤ view
      · by_cases h6 : view ≤ 15
        · by_cases h7 : certs.length ≤ 4
          · have h7i : ((certs.length : Nat) : Int) ≤ 4 := by omega
            have TOP := Go.Lib.hid (show topB epoch ⟨from_, view, certs, by_, text⟩ = true by rw [HT.out, decide_eq_true HE.out.1, decide_eq_true HE.out.2, decide_eq_true h3, decide_eq_true h4, decide_eq_true h5, decide_eq_true h6, decide_eq_true h7]; rfl)
            have YES : Hid (mayB epoch ⟨from_, view, certs, by_, text⟩ = certsB epoch 0 certs) := Go.Lib.hid (by unfold mayB; rw [TOP.out]; rfl)
            go_enter Try.func63, Try.ntmps63
            go_wp2_with fail
            refine Calls.ew (ref13_one by_ text HB.out _ _ (sigs_one _ by_ text HB.out HTx.out _ _ (by simp))) ?_
            rintro e x1 rfl
            go_wp2_with fail
            go_loopw [5] (fun iv wr => ∃ (i : Nat) (x : EW Non x1.on), i ≤ certs.length ∧ iv = .int .i64 i ∧ wr = x.on ∧ Hid (certsB epoch 0 certs = certsB epoch (if i = 0 then 0 else (ctAt certs (i - 1)).slot) (certs.drop i))) (fun iv _ => certs.length - (intOf iv).toNat)
            case atStart => exact ⟨0, ⟨_, Ext.refl _ _⟩, Nat.zero_le _, rfl, rfl, Go.Lib.hid rfl⟩
            case round =>
              obtain ⟨i, x2, hi, rfl, rfl, HC⟩ := hrel
              by_cases hlt : i < certs.length
              · obtain ⟨cb, co, sa, scap, rfl, hcb, hcells, hsg, hro, hvi, hsi⟩ := HH.out.at_ i hlt
                have HD := Go.Lib.hid (certs_drop epoch certs (if i = 0 then 0 else (ctAt certs (i - 1)).slot) i hlt)
                have HPrev : Hid (∀ j, i = j + 1 → w.cell? ⟨cb, co + j * 9 + 1, none⟩ = some (.int .i64 (ctAt certs j).slot)) := Go.Lib.hid (by
                  intro j hj
                  obtain ⟨cb2, co2, sa2, scap2, e2, hcb2, hc2, -⟩ := HH.out.at_ j (by omega)
                  injection e2 with e2; injection e2 with e3 e4; subst e3; subst e4
                  exact hc2 1 _ rfl)
                have HSl : Hid ((if i + 1 = 0 then 0 else (ctAt certs (i + 1 - 1)).slot) = (ctAt certs i).slot) := Go.Lib.hid (by simp)
                generalize hct : ctAt certs i = ct at *
                obtain ⟨cv, cs, ⟨rc, rs, ⟨rk, rkey, rx, rid⟩⟩, sl⟩ := ct
                clear hct
                have z0 : w.cell? ⟨cb, co + i * 9, none⟩ = some (.int .i64 cv) := hcells 0 _ rfl
                have z1 : w.cell? ⟨cb, co + i * 9 + 1, none⟩ = some (.int .i64 cs) := hcells 1 _ rfl
                have z2 : w.cell? ⟨cb, co + i * 9 + 2, none⟩ = some (.int .i64 rc) := hcells 2 _ rfl
                have z3 : w.cell? ⟨cb, co + i * 9 + 3, none⟩ = some (.int .i64 rs) := hcells 3 _ rfl
                have z4 : w.cell? ⟨cb, co + i * 9 + 4, none⟩ = some (.int .i64 rk) := hcells 4 _ rfl
                have z5 : w.cell? ⟨cb, co + i * 9 + 5, none⟩ = some (.string rkey) := hcells 5 _ rfl
                have z6 : w.cell? ⟨cb, co + i * 9 + 6, none⟩ = some (.float .f64 rx) := hcells 6 _ rfl
                have z7 : w.cell? ⟨cb, co + i * 9 + 7, none⟩ = some (.int .i64 rid) := hcells 7 _ rfl
                have z8 : w.cell? ⟨cb, co + i * 9 + 8, none⟩ = some (.slice sa sl.length scap) := hcells 8 _ rfl
                have HSg : Hid (Sigs w sa scap sl) := Go.Lib.hid hsg
                clear hcells hsg hro hvi hsi
                have HLast := Go.Lib.hid (HC.out.trans HD.out)
                clear HC HD
                go_wp2_with fail
                clear z0 z1 z2 z3 z4 z5 z6 z7 z8
                have HSlP : Hid (slotB epoch cs = true → 0 < cs) := Go.Lib.hid (by intro hq; unfold slotB at hq; simp only [Bool.and_eq_true, decide_eq_true_eq] at hq; have := HE.out; omega)
                (refine wp_region_ext_lit (by kernel_rfl) (by kernel_rfl) ?_)
                ((try simp only [Bool.not_true, Bool.not_false, Bool.or_false, Bool.or_true, Bool.false_or, Bool.true_or, Bool.and_true, Bool.true_and, Bool.and_false, Bool.false_and]); (repeat (go_big_quiet_step ((first | (go_at_call 110; exact Calls.ext_eq (ref13_Of epoch cs HE.out _)) | (go_at_call 111; exact Calls.ext_of (ref13_Asked rc rs rk rkey rx rid _)) | (go_at_call 109; exact Calls.ext_of (ref13_sigsB sa scap sl _ (HSg.out.extN (by (repeat (first | exact Ext.refl _ _ | assumption | refine Ext.upN ?_ | refine Ext.alloc ?_ _ | refine Ext.upA (by assumption) ?_ | refine Ext.upW ?_ | refine Ext.drew ?_ | refine Ext.drewN ?_ _)))))))))))
                cases hbHOf : slotB epoch cs
                · have HOf := Go.Lib.hid hbHOf; clear hbHOf
                  as_aux_lemma =>
                  ((try simp only [Bool.not_true, Bool.not_false, Bool.or_false, Bool.or_true, Bool.false_or, Bool.true_or, Bool.and_true, Bool.true_and, Bool.and_false, Bool.false_and]); (repeat (go_big_quiet_step ((first | (go_at_call 110; exact Calls.ext_eq (ref13_Of epoch cs HE.out _)) | (go_at_call 111; exact Calls.ext_of (ref13_Asked rc rs rk rkey rx rid _)) | (go_at_call 109; exact Calls.ext_of (ref13_sigsB sa scap sl _ (HSg.out.extN (by (repeat (first | exact Ext.refl _ _ | assumption | refine Ext.upN ?_ | refine Ext.alloc ?_ _ | refine Ext.upA (by assumption) ?_ | refine Ext.upW ?_ | refine Ext.drew ?_ | refine Ext.drewN ?_ _)))))))))))
                  (refine wpQuiet_nil ?_; intro _ hw'; obtain ⟨xq, hw''⟩ := hw'; subst hw'')
                  go_wp2
                  go_ret
                  exact ⟨ret_bool (by rw [YES.out, HLast.out]; exact (Bool.and_eq_false_iff.2 (.inl (by unfold fitsB headB; dsimp only; rw [HOf.out]; simp))).symm), by (repeat (first | exact Ext.refl _ _ | assumption | refine Ext.upN ?_ | refine Ext.alloc ?_ _ | refine Ext.upA (by assumption) ?_ | refine Ext.upW ?_ | refine Ext.drew ?_ | refine Ext.drewN ?_ _))⟩
                · have HOf := Go.Lib.hid hbHOf; clear hbHOf
                  ((try simp only [Bool.not_true, Bool.not_false, Bool.or_false, Bool.or_true, Bool.false_or, Bool.true_or, Bool.and_true, Bool.true_and, Bool.and_false, Bool.false_and]); (repeat (go_big_quiet_step ((first | (go_at_call 110; exact Calls.ext_eq (ref13_Of epoch cs HE.out _)) | (go_at_call 111; exact Calls.ext_of (ref13_Asked rc rs rk rkey rx rid _)) | (go_at_call 109; exact Calls.ext_of (ref13_sigsB sa scap sl _ (HSg.out.extN (by (repeat (first | exact Ext.refl _ _ | assumption | refine Ext.upN ?_ | refine Ext.alloc ?_ _ | refine Ext.upA (by assumption) ?_ | refine Ext.upW ?_ | refine Ext.drew ?_ | refine Ext.drewN ?_ _)))))))))))
                  by_cases hi0 : 0 < i
                  · as_aux_lemma =>
                    have hz : decide (0 < i) = true := decide_eq_true (by omega)
                    rw [hz]
                    clear hz
                    obtain ⟨j, rfl⟩ : ∃ j, i = j + 1 := ⟨i - 1, by omega⟩
                    have zp := HPrev.out j rfl
                    have hpv : (if j + 1 = 0 then 0 else (ctAt certs (j + 1 - 1)).slot) = (ctAt certs j).slot := by simp
                    rw [hpv] at HLast
                    clear hpv
                    generalize (ctAt certs j).slot = pv at *
                    have hw1 : IntKind.i64.wrap (((j + 1 : Nat) : Int) - 1) = ((j : Nat) : Int) := by rw [show ((j + 1 : Nat) : Int) - 1 = (j : Int) by omega]; exact IntWalk.i64_in _ (by omega)
                    ((try simp only [Bool.not_true, Bool.not_false, Bool.or_false, Bool.or_true, Bool.false_or, Bool.true_or, Bool.and_true, Bool.true_and, Bool.and_false, Bool.false_and]); (repeat (go_big_quiet_step ((first | (go_at_call 110; exact Calls.ext_eq (ref13_Of epoch cs HE.out _)) | (go_at_call 111; exact Calls.ext_of (ref13_Asked rc rs rk rkey rx rid _)) | (go_at_call 109; exact Calls.ext_of (ref13_sigsB sa scap sl _ (HSg.out.extN (by (repeat (first | exact Ext.refl _ _ | assumption | refine Ext.upN ?_ | refine Ext.alloc ?_ _ | refine Ext.upA (by assumption) ?_ | refine Ext.upW ?_ | refine Ext.drew ?_ | refine Ext.drewN ?_ _)))))))))))
                    cases hbGP : decide (cs ≤ pv)
                    · have GP := Go.Lib.hid hbGP; clear hbGP
                      ((try simp only [Bool.not_true, Bool.not_false, Bool.or_false, Bool.or_true, Bool.false_or, Bool.true_or, Bool.and_true, Bool.true_and, Bool.and_false, Bool.false_and]); (repeat (go_big_quiet_step ((first | (go_at_call 110; exact Calls.ext_eq (ref13_Of epoch cs HE.out _)) | (go_at_call 111; exact Calls.ext_of (ref13_Asked rc rs rk rkey rx rid _)) | (go_at_call 109; exact Calls.ext_of (ref13_sigsB sa scap sl _ (HSg.out.extN (by (repeat (first | exact Ext.refl _ _ | assumption | refine Ext.upN ?_ | refine Ext.alloc ?_ _ | refine Ext.upA (by assumption) ?_ | refine Ext.upW ?_ | refine Ext.drew ?_ | refine Ext.drewN ?_ _)))))))))))
                      cases hbG0 : decide (cv < 0)
                      · have G0 := Go.Lib.hid hbG0; clear hbG0
                        ((try simp only [Bool.not_true, Bool.not_false, Bool.or_false, Bool.or_true, Bool.false_or, Bool.true_or, Bool.and_true, Bool.true_and, Bool.and_false, Bool.false_and]); (repeat (go_big_quiet_step ((first | (go_at_call 110; exact Calls.ext_eq (ref13_Of epoch cs HE.out _)) | (go_at_call 111; exact Calls.ext_of (ref13_Asked rc rs rk rkey rx rid _)) | (go_at_call 109; exact Calls.ext_of (ref13_sigsB sa scap sl _ (HSg.out.extN (by (repeat (first | exact Ext.refl _ _ | assumption | refine Ext.upN ?_ | refine Ext.alloc ?_ _ | refine Ext.upA (by assumption) ?_ | refine Ext.upW ?_ | refine Ext.drew ?_ | refine Ext.drewN ?_ _)))))))))))
                        cases hbG1 : decide (15 < cv)
                        · have G1 := Go.Lib.hid hbG1; clear hbG1
                          ((try simp only [Bool.not_true, Bool.not_false, Bool.or_false, Bool.or_true, Bool.false_or, Bool.true_or, Bool.and_true, Bool.true_and, Bool.and_false, Bool.false_and]); (repeat (go_big_quiet_step ((first | (go_at_call 110; exact Calls.ext_eq (ref13_Of epoch cs HE.out _)) | (go_at_call 111; exact Calls.ext_of (ref13_Asked rc rs rk rkey rx rid _)) | (go_at_call 109; exact Calls.ext_of (ref13_sigsB sa scap sl _ (HSg.out.extN (by (repeat (first | exact Ext.refl _ _ | assumption | refine Ext.upN ?_ | refine Ext.alloc ?_ _ | refine Ext.upA (by assumption) ?_ | refine Ext.upW ?_ | refine Ext.drew ?_ | refine Ext.drewN ?_ _)))))))))))
                          cases hbHAs : askedB ⟨rc, rs, ⟨rk, rkey, rx, rid⟩⟩
                          · have HAs := Go.Lib.hid hbHAs; clear hbHAs
                            as_aux_lemma =>
                            ((try simp only [Bool.not_true, Bool.not_false, Bool.or_false, Bool.or_true, Bool.false_or, Bool.true_or, Bool.and_true, Bool.true_and, Bool.and_false, Bool.false_and]); (repeat (go_big_quiet_step ((first | (go_at_call 110; exact Calls.ext_eq (ref13_Of epoch cs HE.out _)) | (go_at_call 111; exact Calls.ext_of (ref13_Asked rc rs rk rkey rx rid _)) | (go_at_call 109; exact Calls.ext_of (ref13_sigsB sa scap sl _ (HSg.out.extN (by (repeat (first | exact Ext.refl _ _ | assumption | refine Ext.upN ?_ | refine Ext.alloc ?_ _ | refine Ext.upA (by assumption) ?_ | refine Ext.upW ?_ | refine Ext.drew ?_ | refine Ext.drewN ?_ _)))))))))))
                            (refine wpQuiet_nil ?_; intro _ hw'; obtain ⟨xq, hw''⟩ := hw'; subst hw'')
                            go_wp2
                            go_ret
                            exact ⟨ret_bool (by rw [YES.out, HLast.out]; exact (Bool.and_eq_false_iff.2 (.inl (by unfold fitsB headB; dsimp only; rw [HAs.out]; simp))).symm), by (repeat (first | exact Ext.refl _ _ | assumption | refine Ext.upN ?_ | refine Ext.alloc ?_ _ | refine Ext.upA (by assumption) ?_ | refine Ext.upW ?_ | refine Ext.drew ?_ | refine Ext.drewN ?_ _))⟩
                          · have HAs := Go.Lib.hid hbHAs; clear hbHAs
                            ((try simp only [Bool.not_true, Bool.not_false, Bool.or_false, Bool.or_true, Bool.false_or, Bool.true_or, Bool.and_true, Bool.true_and, Bool.and_false, Bool.false_and]); (repeat (go_big_quiet_step ((first | (go_at_call 110; exact Calls.ext_eq (ref13_Of epoch cs HE.out _)) | (go_at_call 111; exact Calls.ext_of (ref13_Asked rc rs rk rkey rx rid _)) | (go_at_call 109; exact Calls.ext_of (ref13_sigsB sa scap sl _ (HSg.out.extN (by (repeat (first | exact Ext.refl _ _ | assumption | refine Ext.upN ?_ | refine Ext.alloc ?_ _ | refine Ext.upA (by assumption) ?_ | refine Ext.upW ?_ | refine Ext.drew ?_ | refine Ext.drewN ?_ _)))))))))))
                            cases hbHSi : sigsB sl
                            · have HSi := Go.Lib.hid hbHSi; clear hbHSi
                              as_aux_lemma =>
                              ((try simp only [Bool.not_true, Bool.not_false, Bool.or_false, Bool.or_true, Bool.false_or, Bool.true_or, Bool.and_true, Bool.true_and, Bool.and_false, Bool.false_and]); (repeat (go_big_quiet_step ((first | (go_at_call 110; exact Calls.ext_eq (ref13_Of epoch cs HE.out _)) | (go_at_call 111; exact Calls.ext_of (ref13_Asked rc rs rk rkey rx rid _)) | (go_at_call 109; exact Calls.ext_of (ref13_sigsB sa scap sl _ (HSg.out.extN (by (repeat (first | exact Ext.refl _ _ | assumption | refine Ext.upN ?_ | refine Ext.alloc ?_ _ | refine Ext.upA (by assumption) ?_ | refine Ext.upW ?_ | refine Ext.drew ?_ | refine Ext.drewN ?_ _)))))))))))
                              (refine wpQuiet_nil ?_; intro _ hw'; obtain ⟨xq, hw''⟩ := hw'; subst hw'')
                              go_wp2
                              go_ret
                              exact ⟨ret_bool (by rw [YES.out, HLast.out]; exact (Bool.and_eq_false_iff.2 (.inl (fits_no_sigs _ _ _ HSi.out))).symm), by (repeat (first | exact Ext.refl _ _ | assumption | refine Ext.upN ?_ | refine Ext.alloc ?_ _ | refine Ext.upA (by assumption) ?_ | refine Ext.upW ?_ | refine Ext.drew ?_ | refine Ext.drewN ?_ _))⟩
                            · have HSi := Go.Lib.hid hbHSi; clear hbHSi
                              ((try simp only [Bool.not_true, Bool.not_false, Bool.or_false, Bool.or_true, Bool.false_or, Bool.true_or, Bool.and_true, Bool.true_and, Bool.and_false, Bool.false_and]); (repeat (go_big_quiet_step ((first | (go_at_call 110; exact Calls.ext_eq (ref13_Of epoch cs HE.out _)) | (go_at_call 111; exact Calls.ext_of (ref13_Asked rc rs rk rkey rx rid _)) | (go_at_call 109; exact Calls.ext_of (ref13_sigsB sa scap sl _ (HSg.out.extN (by (repeat (first | exact Ext.refl _ _ | assumption | refine Ext.upN ?_ | refine Ext.alloc ?_ _ | refine Ext.upA (by assumption) ?_ | refine Ext.upW ?_ | refine Ext.drew ?_ | refine Ext.drewN ?_ _)))))))))))
                              (refine wpQuiet_nil ?_; intro _ hw'; obtain ⟨xq, hw''⟩ := hw'; subst hw'')
                              go_wp2_with fail
                              go_roundw
                              case rel => exact ⟨j + 1 + 1, ⟨_, by (repeat (first | exact Ext.refl _ _ | assumption | refine Ext.upN ?_ | refine Ext.alloc ?_ _ | refine Ext.upA (by assumption) ?_ | refine Ext.upW ?_ | refine Ext.drew ?_ | refine Ext.drewN ?_ _))⟩, hlt, by go_num, rfl, Go.Lib.hid (by
                                have hsi := HSi.out
                                unfold sigsB at hsi
                                have hsi := Bool.and_eq_true_iff.1 hsi
                                have g0' : 0 ≤ cv := by have := of_decide_eq_false G0.out; omega
                                have g1' : cv ≤ 15 := by have := of_decide_eq_false G1.out; omega
                                rw [HLast.out, HSl.out]
                                show (fitsB epoch _ _ && _) = _
                                unfold fitsB headB; dsimp only
                                rw [HOf.out, HAs.out, decide_eq_true g0', decide_eq_true g1', hsi.1, hsi.2, decide_eq_true (show pv < cs by have := of_decide_eq_false GP.out; omega)]; simp)⟩
                              case measure => simp [intOf]; omega
                        · have G1 := Go.Lib.hid hbG1; clear hbG1
                          as_aux_lemma =>
                          ((try simp only [Bool.not_true, Bool.not_false, Bool.or_false, Bool.or_true, Bool.false_or, Bool.true_or, Bool.and_true, Bool.true_and, Bool.and_false, Bool.false_and]); (repeat (go_big_quiet_step ((first | (go_at_call 110; exact Calls.ext_eq (ref13_Of epoch cs HE.out _)) | (go_at_call 111; exact Calls.ext_of (ref13_Asked rc rs rk rkey rx rid _)) | (go_at_call 109; exact Calls.ext_of (ref13_sigsB sa scap sl _ (HSg.out.extN (by (repeat (first | exact Ext.refl _ _ | assumption | refine Ext.upN ?_ | refine Ext.alloc ?_ _ | refine Ext.upA (by assumption) ?_ | refine Ext.upW ?_ | refine Ext.drew ?_ | refine Ext.drewN ?_ _)))))))))))
                          (refine wpQuiet_nil ?_; intro _ hw'; obtain ⟨xq, hw''⟩ := hw'; subst hw'')
                          go_wp2
                          go_ret
                          exact ⟨ret_bool (by rw [YES.out, HLast.out]; exact (Bool.and_eq_false_iff.2 (.inl (by unfold fitsB headB; dsimp only; rw [decide_eq_false (show ¬ cv ≤ 15 by have := of_decide_eq_true G1.out; omega)]; simp))).symm), by (repeat (first | exact Ext.refl _ _ | assumption | refine Ext.upN ?_ | refine Ext.alloc ?_ _ | refine Ext.upA (by assumption) ?_ | refine Ext.upW ?_ | refine Ext.drew ?_ | refine Ext.drewN ?_ _))⟩
                      · have G0 := Go.Lib.hid hbG0; clear hbG0
                        as_aux_lemma =>
                        ((try simp only [Bool.not_true, Bool.not_false, Bool.or_false, Bool.or_true, Bool.false_or, Bool.true_or, Bool.and_true, Bool.true_and, Bool.and_false, Bool.false_and]); (repeat (go_big_quiet_step ((first | (go_at_call 110; exact Calls.ext_eq (ref13_Of epoch cs HE.out _)) | (go_at_call 111; exact Calls.ext_of (ref13_Asked rc rs rk rkey rx rid _)) | (go_at_call 109; exact Calls.ext_of (ref13_sigsB sa scap sl _ (HSg.out.extN (by (repeat (first | exact Ext.refl _ _ | assumption | refine Ext.upN ?_ | refine Ext.alloc ?_ _ | refine Ext.upA (by assumption) ?_ | refine Ext.upW ?_ | refine Ext.drew ?_ | refine Ext.drewN ?_ _)))))))))))
                        (refine wpQuiet_nil ?_; intro _ hw'; obtain ⟨xq, hw''⟩ := hw'; subst hw'')
                        go_wp2
                        go_ret
                        exact ⟨ret_bool (by rw [YES.out, HLast.out]; exact (Bool.and_eq_false_iff.2 (.inl (by unfold fitsB headB; dsimp only; rw [decide_eq_false (show ¬ 0 ≤ cv by have := of_decide_eq_true G0.out; omega)]; simp))).symm), by (repeat (first | exact Ext.refl _ _ | assumption | refine Ext.upN ?_ | refine Ext.alloc ?_ _ | refine Ext.upA (by assumption) ?_ | refine Ext.upW ?_ | refine Ext.drew ?_ | refine Ext.drewN ?_ _))⟩
                    · have GP := Go.Lib.hid hbGP; clear hbGP
                      as_aux_lemma =>
                      ((try simp only [Bool.not_true, Bool.not_false, Bool.or_false, Bool.or_true, Bool.false_or, Bool.true_or, Bool.and_true, Bool.true_and, Bool.and_false, Bool.false_and]); (repeat (go_big_quiet_step ((first | (go_at_call 110; exact Calls.ext_eq (ref13_Of epoch cs HE.out _)) | (go_at_call 111; exact Calls.ext_of (ref13_Asked rc rs rk rkey rx rid _)) | (go_at_call 109; exact Calls.ext_of (ref13_sigsB sa scap sl _ (HSg.out.extN (by (repeat (first | exact Ext.refl _ _ | assumption | refine Ext.upN ?_ | refine Ext.alloc ?_ _ | refine Ext.upA (by assumption) ?_ | refine Ext.upW ?_ | refine Ext.drew ?_ | refine Ext.drewN ?_ _)))))))))))
                      (refine wpQuiet_nil ?_; intro _ hw'; obtain ⟨xq, hw''⟩ := hw'; subst hw'')
                      go_wp2
                      go_ret
                      exact ⟨ret_bool (by rw [YES.out, HLast.out]; exact (Bool.and_eq_false_iff.2 (.inl (by unfold fitsB headB; dsimp only; rw [decide_eq_false (show ¬ pv < cs by have := of_decide_eq_true GP.out; omega)]; simp))).symm), by (repeat (first | exact Ext.refl _ _ | assumption | refine Ext.upN ?_ | refine Ext.alloc ?_ _ | refine Ext.upA (by assumption) ?_ | refine Ext.upW ?_ | refine Ext.drew ?_ | refine Ext.drewN ?_ _))⟩
                  · as_aux_lemma =>
                    have hz : decide (0 < i) = false := decide_eq_false (by omega)
                    rw [hz]
                    clear hz
                    have hpv : (if i = 0 then 0 else (ctAt certs (i - 1)).slot) = 0 := if_pos (by omega)
                    rw [hpv] at HLast
                    clear hpv
                    ((try simp only [Bool.not_true, Bool.not_false, Bool.or_false, Bool.or_true, Bool.false_or, Bool.true_or, Bool.and_true, Bool.true_and, Bool.and_false, Bool.false_and]); (repeat (go_big_quiet_step ((first | (go_at_call 110; exact Calls.ext_eq (ref13_Of epoch cs HE.out _)) | (go_at_call 111; exact Calls.ext_of (ref13_Asked rc rs rk rkey rx rid _)) | (go_at_call 109; exact Calls.ext_of (ref13_sigsB sa scap sl _ (HSg.out.extN (by (repeat (first | exact Ext.refl _ _ | assumption | refine Ext.upN ?_ | refine Ext.alloc ?_ _ | refine Ext.upA (by assumption) ?_ | refine Ext.upW ?_ | refine Ext.drew ?_ | refine Ext.drewN ?_ _)))))))))))
                    cases hbG0 : decide (cv < 0)
                    · have G0 := Go.Lib.hid hbG0; clear hbG0
                      ((try simp only [Bool.not_true, Bool.not_false, Bool.or_false, Bool.or_true, Bool.false_or, Bool.true_or, Bool.and_true, Bool.true_and, Bool.and_false, Bool.false_and]); (repeat (go_big_quiet_step ((first | (go_at_call 110; exact Calls.ext_eq (ref13_Of epoch cs HE.out _)) | (go_at_call 111; exact Calls.ext_of (ref13_Asked rc rs rk rkey rx rid _)) | (go_at_call 109; exact Calls.ext_of (ref13_sigsB sa scap sl _ (HSg.out.extN (by (repeat (first | exact Ext.refl _ _ | assumption | refine Ext.upN ?_ | refine Ext.alloc ?_ _ | refine Ext.upA (by assumption) ?_ | refine Ext.upW ?_ | refine Ext.drew ?_ | refine Ext.drewN ?_ _)))))))))))
                      cases hbG1 : decide (15 < cv)
                      · have G1 := Go.Lib.hid hbG1; clear hbG1
                        ((try simp only [Bool.not_true, Bool.not_false, Bool.or_false, Bool.or_true, Bool.false_or, Bool.true_or, Bool.and_true, Bool.true_and, Bool.and_false, Bool.false_and]); (repeat (go_big_quiet_step ((first | (go_at_call 110; exact Calls.ext_eq (ref13_Of epoch cs HE.out _)) | (go_at_call 111; exact Calls.ext_of (ref13_Asked rc rs rk rkey rx rid _)) | (go_at_call 109; exact Calls.ext_of (ref13_sigsB sa scap sl _ (HSg.out.extN (by (repeat (first | exact Ext.refl _ _ | assumption | refine Ext.upN ?_ | refine Ext.alloc ?_ _ | refine Ext.upA (by assumption) ?_ | refine Ext.upW ?_ | refine Ext.drew ?_ | refine Ext.drewN ?_ _)))))))))))
                        cases hbHAs : askedB ⟨rc, rs, ⟨rk, rkey, rx, rid⟩⟩
                        · have HAs := Go.Lib.hid hbHAs; clear hbHAs
                          as_aux_lemma =>
                          ((try simp only [Bool.not_true, Bool.not_false, Bool.or_false, Bool.or_true, Bool.false_or, Bool.true_or, Bool.and_true, Bool.true_and, Bool.and_false, Bool.false_and]); (repeat (go_big_quiet_step ((first | (go_at_call 110; exact Calls.ext_eq (ref13_Of epoch cs HE.out _)) | (go_at_call 111; exact Calls.ext_of (ref13_Asked rc rs rk rkey rx rid _)) | (go_at_call 109; exact Calls.ext_of (ref13_sigsB sa scap sl _ (HSg.out.extN (by (repeat (first | exact Ext.refl _ _ | assumption | refine Ext.upN ?_ | refine Ext.alloc ?_ _ | refine Ext.upA (by assumption) ?_ | refine Ext.upW ?_ | refine Ext.drew ?_ | refine Ext.drewN ?_ _)))))))))))
                          (refine wpQuiet_nil ?_; intro _ hw'; obtain ⟨xq, hw''⟩ := hw'; subst hw'')
                          go_wp2
                          go_ret
                          exact ⟨ret_bool (by rw [YES.out, HLast.out]; exact (Bool.and_eq_false_iff.2 (.inl (by unfold fitsB headB; dsimp only; rw [HAs.out]; simp))).symm), by (repeat (first | exact Ext.refl _ _ | assumption | refine Ext.upN ?_ | refine Ext.alloc ?_ _ | refine Ext.upA (by assumption) ?_ | refine Ext.upW ?_ | refine Ext.drew ?_ | refine Ext.drewN ?_ _))⟩
                        · have HAs := Go.Lib.hid hbHAs; clear hbHAs
                          ((try simp only [Bool.not_true, Bool.not_false, Bool.or_false, Bool.or_true, Bool.false_or, Bool.true_or, Bool.and_true, Bool.true_and, Bool.and_false, Bool.false_and]); (repeat (go_big_quiet_step ((first | (go_at_call 110; exact Calls.ext_eq (ref13_Of epoch cs HE.out _)) | (go_at_call 111; exact Calls.ext_of (ref13_Asked rc rs rk rkey rx rid _)) | (go_at_call 109; exact Calls.ext_of (ref13_sigsB sa scap sl _ (HSg.out.extN (by (repeat (first | exact Ext.refl _ _ | assumption | refine Ext.upN ?_ | refine Ext.alloc ?_ _ | refine Ext.upA (by assumption) ?_ | refine Ext.upW ?_ | refine Ext.drew ?_ | refine Ext.drewN ?_ _)))))))))))
                          cases hbHSi : sigsB sl
                          · have HSi := Go.Lib.hid hbHSi; clear hbHSi
                            as_aux_lemma =>
                            ((try simp only [Bool.not_true, Bool.not_false, Bool.or_false, Bool.or_true, Bool.false_or, Bool.true_or, Bool.and_true, Bool.true_and, Bool.and_false, Bool.false_and]); (repeat (go_big_quiet_step ((first | (go_at_call 110; exact Calls.ext_eq (ref13_Of epoch cs HE.out _)) | (go_at_call 111; exact Calls.ext_of (ref13_Asked rc rs rk rkey rx rid _)) | (go_at_call 109; exact Calls.ext_of (ref13_sigsB sa scap sl _ (HSg.out.extN (by (repeat (first | exact Ext.refl _ _ | assumption | refine Ext.upN ?_ | refine Ext.alloc ?_ _ | refine Ext.upA (by assumption) ?_ | refine Ext.upW ?_ | refine Ext.drew ?_ | refine Ext.drewN ?_ _)))))))))))
                            (refine wpQuiet_nil ?_; intro _ hw'; obtain ⟨xq, hw''⟩ := hw'; subst hw'')
                            go_wp2
                            go_ret
                            exact ⟨ret_bool (by rw [YES.out, HLast.out]; exact (Bool.and_eq_false_iff.2 (.inl (fits_no_sigs _ _ _ HSi.out))).symm), by (repeat (first | exact Ext.refl _ _ | assumption | refine Ext.upN ?_ | refine Ext.alloc ?_ _ | refine Ext.upA (by assumption) ?_ | refine Ext.upW ?_ | refine Ext.drew ?_ | refine Ext.drewN ?_ _))⟩
                          · have HSi := Go.Lib.hid hbHSi; clear hbHSi
                            ((try simp only [Bool.not_true, Bool.not_false, Bool.or_false, Bool.or_true, Bool.false_or, Bool.true_or, Bool.and_true, Bool.true_and, Bool.and_false, Bool.false_and]); (repeat (go_big_quiet_step ((first | (go_at_call 110; exact Calls.ext_eq (ref13_Of epoch cs HE.out _)) | (go_at_call 111; exact Calls.ext_of (ref13_Asked rc rs rk rkey rx rid _)) | (go_at_call 109; exact Calls.ext_of (ref13_sigsB sa scap sl _ (HSg.out.extN (by (repeat (first | exact Ext.refl _ _ | assumption | refine Ext.upN ?_ | refine Ext.alloc ?_ _ | refine Ext.upA (by assumption) ?_ | refine Ext.upW ?_ | refine Ext.drew ?_ | refine Ext.drewN ?_ _)))))))))))
                            (refine wpQuiet_nil ?_; intro _ hw'; obtain ⟨xq, hw''⟩ := hw'; subst hw'')
                            go_wp2_with fail
                            go_roundw
                            case rel => exact ⟨i + 1, ⟨_, by (repeat (first | exact Ext.refl _ _ | assumption | refine Ext.upN ?_ | refine Ext.alloc ?_ _ | refine Ext.upA (by assumption) ?_ | refine Ext.upW ?_ | refine Ext.drew ?_ | refine Ext.drewN ?_ _))⟩, hlt, by go_num, rfl, Go.Lib.hid (by
                              have hsi := HSi.out
                              unfold sigsB at hsi
                              have hsi := Bool.and_eq_true_iff.1 hsi
                              have g0' : 0 ≤ cv := by have := of_decide_eq_false G0.out; omega
                              have g1' : cv ≤ 15 := by have := of_decide_eq_false G1.out; omega
                              rw [HLast.out, HSl.out]
                              show (fitsB epoch _ _ && _) = _
                              unfold fitsB headB; dsimp only
                              rw [HOf.out, HAs.out, decide_eq_true g0', decide_eq_true g1', hsi.1, hsi.2, decide_eq_true (show (0 : Int) < cs from HSlP.out HOf.out)]; simp)⟩
                            case measure => simp [intOf]; omega
                      · have G1 := Go.Lib.hid hbG1; clear hbG1
                        as_aux_lemma =>
                        ((try simp only [Bool.not_true, Bool.not_false, Bool.or_false, Bool.or_true, Bool.false_or, Bool.true_or, Bool.and_true, Bool.true_and, Bool.and_false, Bool.false_and]); (repeat (go_big_quiet_step ((first | (go_at_call 110; exact Calls.ext_eq (ref13_Of epoch cs HE.out _)) | (go_at_call 111; exact Calls.ext_of (ref13_Asked rc rs rk rkey rx rid _)) | (go_at_call 109; exact Calls.ext_of (ref13_sigsB sa scap sl _ (HSg.out.extN (by (repeat (first | exact Ext.refl _ _ | assumption | refine Ext.upN ?_ | refine Ext.alloc ?_ _ | refine Ext.upA (by assumption) ?_ | refine Ext.upW ?_ | refine Ext.drew ?_ | refine Ext.drewN ?_ _)))))))))))
                        (refine wpQuiet_nil ?_; intro _ hw'; obtain ⟨xq, hw''⟩ := hw'; subst hw'')
                        go_wp2
                        go_ret
                        exact ⟨ret_bool (by rw [YES.out, HLast.out]; exact (Bool.and_eq_false_iff.2 (.inl (by unfold fitsB headB; dsimp only; rw [decide_eq_false (show ¬ cv ≤ 15 by have := of_decide_eq_true G1.out; omega)]; simp))).symm), by (repeat (first | exact Ext.refl _ _ | assumption | refine Ext.upN ?_ | refine Ext.alloc ?_ _ | refine Ext.upA (by assumption) ?_ | refine Ext.upW ?_ | refine Ext.drew ?_ | refine Ext.drewN ?_ _))⟩
                    · have G0 := Go.Lib.hid hbG0; clear hbG0
                      as_aux_lemma =>
                      ((try simp only [Bool.not_true, Bool.not_false, Bool.or_false, Bool.or_true, Bool.false_or, Bool.true_or, Bool.and_true, Bool.true_and, Bool.and_false, Bool.false_and]); (repeat (go_big_quiet_step ((first | (go_at_call 110; exact Calls.ext_eq (ref13_Of epoch cs HE.out _)) | (go_at_call 111; exact Calls.ext_of (ref13_Asked rc rs rk rkey rx rid _)) | (go_at_call 109; exact Calls.ext_of (ref13_sigsB sa scap sl _ (HSg.out.extN (by (repeat (first | exact Ext.refl _ _ | assumption | refine Ext.upN ?_ | refine Ext.alloc ?_ _ | refine Ext.upA (by assumption) ?_ | refine Ext.upW ?_ | refine Ext.drew ?_ | refine Ext.drewN ?_ _)))))))))))
                      (refine wpQuiet_nil ?_; intro _ hw'; obtain ⟨xq, hw''⟩ := hw'; subst hw'')
                      go_wp2
                      go_ret
                      exact ⟨ret_bool (by rw [YES.out, HLast.out]; exact (Bool.and_eq_false_iff.2 (.inl (by unfold fitsB headB; dsimp only; rw [decide_eq_false (show ¬ 0 ≤ cv by have := of_decide_eq_true G0.out; omega)]; simp))).symm), by (repeat (first | exact Ext.refl _ _ | assumption | refine Ext.upN ?_ | refine Ext.alloc ?_ _ | refine Ext.upA (by assumption) ?_ | refine Ext.upW ?_ | refine Ext.drew ?_ | refine Ext.drewN ?_ _))⟩
              · go_wp2
                go_ret
                exact ⟨ret_bool (by rw [YES.out, HC.out, List.drop_eq_nil_of_le (by omega)]; rfl), by (repeat (first | exact Ext.refl _ _ | assumption | refine Ext.upN ?_ | refine Ext.alloc ?_ _ | refine Ext.upA (by assumption) ?_ | refine Ext.upW ?_ | refine Ext.drew ?_ | refine Ext.drewN ?_ _))⟩
          · have h7i : (4 : Int) < ((certs.length : Nat) : Int) := by omega
            have HG := Go.Lib.hid (NO.out (by rw [HT.out, decide_eq_false h7]; simp))
            go_enter Try.func63, Try.ntmps63
            go_wp2
            go_ret
            exact ⟨ret_bool HG.out.symm, by (repeat (first | exact Ext.refl _ _ | assumption | refine Ext.upN ?_ | refine Ext.alloc ?_ _ | refine Ext.upA (by assumption) ?_ | refine Ext.upW ?_ | refine Ext.drew ?_ | refine Ext.drewN ?_ _))⟩
        · have HG := Go.Lib.hid (NO.out (by rw [HT.out, decide_eq_false h6]; simp))
          have hn : 15 < view := by omega
          go_enter Try.func63, Try.ntmps63
          go_wp2
          go_ret
          exact ⟨ret_bool HG.out.symm, by (repeat (first | exact Ext.refl _ _ | assumption | refine Ext.upN ?_ | refine Ext.alloc ?_ _ | refine Ext.upA (by assumption) ?_ | refine Ext.upW ?_ | refine Ext.drew ?_ | refine Ext.drewN ?_ _))⟩
      · have HG := Go.Lib.hid (NO.out (by rw [HT.out, decide_eq_false h5]; simp))
        have hn : view < 1 := by omega
        go_enter Try.func63, Try.ntmps63
        go_wp2
        go_ret
        exact ⟨ret_bool HG.out.symm, by (repeat (first | exact Ext.refl _ _ | assumption | refine Ext.upN ?_ | refine Ext.alloc ?_ _ | refine Ext.upA (by assumption) ?_ | refine Ext.upW ?_ | refine Ext.drew ?_ | refine Ext.drewN ?_ _))⟩
    · have HG := Go.Lib.hid (NO.out (by rw [HT.out, decide_eq_false h4]; simp))
      have hn : 16 ≤ from_ := by omega
      go_enter Try.func63, Try.ntmps63
      go_wp2
      go_ret
      exact ⟨ret_bool HG.out.symm, by (repeat (first | exact Ext.refl _ _ | assumption | refine Ext.upN ?_ | refine Ext.alloc ?_ _ | refine Ext.upA (by assumption) ?_ | refine Ext.upW ?_ | refine Ext.drew ?_ | refine Ext.drewN ?_ _))⟩
  · have HG := Go.Lib.hid (NO.out (by rw [HT.out, decide_eq_false h3]; simp))
    have hn : from_ < 0 := by omega
    go_enter Try.func63, Try.ntmps63
    go_wp2
    go_ret
    exact ⟨ret_bool HG.out.symm, by (repeat (first | exact Ext.refl _ _ | assumption | refine Ext.upN ?_ | refine Ext.alloc ?_ _ | refine Ext.upA (by assumption) ?_ | refine Ext.upW ?_ | refine Ext.drew ?_ | refine Ext.drewN ?_ _))⟩
end Go.Proofs.Ytakbkpklfihfiaa
