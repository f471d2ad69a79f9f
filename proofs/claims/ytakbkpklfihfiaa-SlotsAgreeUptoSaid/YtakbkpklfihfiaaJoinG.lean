/- Joined texts: Of13, Ew2, RText16, Right16. What each proves stands at its head; no conditions beside those in its theorems. -/
import Derived.Test.YtakbkpklfihfiaaJoinF
import Derived.Test.YtakbkpklfihfiaaJoinB
import Derived.Test.YtakbkpklfihfiaaJoinD
import Derived.Test.YtakbkpklfihfiaaJoinC
/- Contracts of the reference of layer 13: which changes fit. -/
namespace Go.Proofs.Ytakbkpklfihfiaa
open Go.RowKit Go.Lib F64
set_option linter.unusedSimpArgs false
set_option linter.unusedVariables false
attribute [local go_sem] run_store_float
attribute [local go_sem low] EW.cellN EW.frozN alloc_cell_or alloc_froz_or
def sigsB (l : List Sg) : Bool := nodesB l && decide (l.length ≤ 16)
theorem fits_no_sigs (epoch last : Int) (x : Ct) (h : sigsB x.sigs = false) : fitsB epoch last x = false := by
  unfold sigsB at h
  unfold fitsB headB
  cases hn : nodesB x.sigs
  · simp
  · by_cases hd : x.sigs.length ≤ 16
    · rw [hn, decide_eq_true hd] at h; cases h
    · rw [decide_eq_false hd]; simp
theorem ref13_sigsB (sa : Option Addr) (scap : Nat) (l : List Sg) (w : World) (hs : Sigs w sa scap l) : Calls Try.prog 109 #[.slice sa l.length scap] w fun e w' => e = .returned (.bool (sigsB l)) ∧ Ext Non w w' := ref13_sigs sa scap l w hs
theorem ref13_one (by_ : Int) (text : ByteArray) (hb : 0 ≤ by_ ∧ by_ < 200) (sa : Option Addr) (w : World) (hs : Sigs w sa 1 [⟨by_, text⟩]) : Calls Try.prog 109 #[.slice sa 1 1] w fun e w' => e = .returned (.bool true) ∧ Ext Non w w' := by
  refine Calls.mono (ref13_sigs sa 1 [⟨by_, text⟩] w hs) ?_
  rintro e w1 ⟨rfl, y⟩
  exact ⟨ret_bool (by have := hb; simp [nodesB]; omega), y⟩
theorem sigs_one (w : World) (by_ : Int) (text : ByteArray) (hb : 0 ≤ by_ ∧ by_ < 200) (ht : text.size ≤ 9223372036854775807) (t : TypeId) (k : Nat) (hk : k = w.heap.size) : Sigs (w.alloc (.cells #[.int .i64 by_, .string text] t)) (some ⟨k, 0, none⟩) 1 [⟨by_, text⟩] := by
  subst hk
  exact ⟨Nat.le_refl _, by omega, fun j hj => by
    obtain rfl : j = 0 := by simp at hj; omega
    have h := Bx.new w [.int .i64 by_, .string text] t
    exact ⟨w.heap.size, 0, rfl, by simp, h.cell rfl, h.cell rfl, by unfold I64; show _ ≤ by_ ∧ by_ ≤ _; omega, ht⟩⟩
set_option maxHeartbeats 4000000 in
set_option maxRecDepth 100000 in
theorem ref13_Change (epoch from_ view by_ : Int) (text : ByteArray) (ca : Option Addr) (ccap : Nat) (certs : List Ct) (he : 0 ≤ epoch ∧ epoch ≤ 60) (hb : 0 ≤ by_ ∧ by_ < 200) (ht : text.size ≤ 9223372036854775807) (w : World) (h : Certs w ca ccap certs) :
    Calls Try.prog 63 #[.int .i64 epoch, .agg #[.int .i64 from_, .int .i64 view, .slice ca certs.length ccap, .int .i64 by_, .string text]] w fun e w' =>
    e = .returned (.bool (mayB epoch ⟨from_, view, certs, by_, text⟩)) ∧ Ext Non w w' := by
  have HH := Go.Lib.hid h
  have HB := Go.Lib.hid hb; have HTx := Go.Lib.hid ht; have HE := Go.Lib.hid he
  have hsm := h.small; have hsl := h.le
  have HT : Hid (topB epoch ⟨from_, view, certs, by_, text⟩ = (decide (0 ≤ epoch) && decide (epoch ≤ 60) && decide (0 ≤ from_) && decide (from_ < 16) && decide (1 ≤ view) && decide (view ≤ 15) && decide (certs.length ≤ 4))) := Go.Lib.hid rfl
  have NO : Hid (topB epoch ⟨from_, view, certs, by_, text⟩ = false → mayB epoch ⟨from_, view, certs, by_, text⟩ = false) := Go.Lib.hid (fun hf => by unfold mayB; rw [hf]; rfl)
  clear h hb ht he
  by_cases h3 : 0 ≤ from_
  · by_cases h4 : from_ < 16
    · by_cases h5 : 1 ≤ view
      · by_cases h6 : view ≤ 15
        · by_cases h7 : certs.length ≤ 4
          · have h7i : ((certs.length : Nat) : Int) ≤ 4 := by omega
            have TOP := Go.Lib.hid (show topB epoch ⟨from_, view, certs, by_, text⟩ = true by rw [HT.out, decide_eq_true HE.out.1, decide_eq_true HE.out.2, decide_eq_true h3, decide_eq_true h4, decide_eq_true h5, decide_eq_true h6, decide_eq_true h7]; rfl)
            have YES : Hid (mayB epoch ⟨from_, view, certs, by_, text⟩ = certsB epoch 0 certs) := Go.Lib.hid (by unfold mayB; rw [TOP.out]; rfl)
            go_enter Try.func63, Try.ntmps63
            go_wp2_with fail
            refine Calls.ew (ref13_one by_ text HB.out _ _ (sigs_one _ by_ text HB.out HTx.out _ _ (by simp))) ?_
            rintro e x1 rfl
            go_wp2_with fail
            go_loopw [5] (fun iv wr => ∃ (i : Nat) (x : EW Non x1.on), i ≤ certs.length ∧ iv = .int .i64 i ∧ wr = x.on ∧ Hid (certsB epoch 0 certs = certsB epoch (if i = 0 then 0 else (ctAt certs (i - 1)).slot) (certs.drop i))) (fun iv _ => certs.length - (intOf iv).toNat)
            case atStart => exact ⟨0, ⟨_, Ext.refl _ _⟩, Nat.zero_le _, rfl, rfl, Go.Lib.hid rfl⟩
            case round =>
              obtain ⟨i, x2, hi, rfl, rfl, HC⟩ := hrel
              by_cases hlt : i < certs.length
              · obtain ⟨cb, co, sa, scap, rfl, hcb, hcells, hsg, hro, hvi, hsi⟩ := HH.out.at_ i hlt
                have HD := Go.Lib.hid (certs_drop epoch certs (if i = 0 then 0 else (ctAt certs (i - 1)).slot) i hlt)
                have HPrev : Hid (∀ j, i = j + 1 → w.cell? ⟨cb, co + j * 9 + 1, none⟩ = some (.int .i64 (ctAt certs j).slot)) := Go.Lib.hid (by
                  intro j hj
                  obtain ⟨cb2, co2, sa2, scap2, e2, hcb2, hc2, -⟩ := HH.out.at_ j (by omega)
                  injection e2 with e2; injection e2 with e3 e4; subst e3; subst e4
                  exact hc2 1 _ rfl)
                have HSl : Hid ((if i + 1 = 0 then 0 else (ctAt certs (i + 1 - 1)).slot) = (ctAt certs i).slot) := Go.Lib.hid (by simp)
                generalize hct : ctAt certs i = ct at *
                obtain ⟨cv, cs, ⟨rc, rs, ⟨rk, rkey, rx, rid⟩⟩, sl⟩ := ct
                clear hct
                have z0 : w.cell? ⟨cb, co + i * 9, none⟩ = some (.int .i64 cv) := hcells 0 _ rfl
                have z1 : w.cell? ⟨cb, co + i * 9 + 1, none⟩ = some (.int .i64 cs) := hcells 1 _ rfl
                have z2 : w.cell? ⟨cb, co + i * 9 + 2, none⟩ = some (.int .i64 rc) := hcells 2 _ rfl
                have z3 : w.cell? ⟨cb, co + i * 9 + 3, none⟩ = some (.int .i64 rs) := hcells 3 _ rfl
                have z4 : w.cell? ⟨cb, co + i * 9 + 4, none⟩ = some (.int .i64 rk) := hcells 4 _ rfl
                have z5 : w.cell? ⟨cb, co + i * 9 + 5, none⟩ = some (.string rkey) := hcells 5 _ rfl
                have z6 : w.cell? ⟨cb, co + i * 9 + 6, none⟩ = some (.float .f64 rx) := hcells 6 _ rfl
                have z7 : w.cell? ⟨cb, co + i * 9 + 7, none⟩ = some (.int .i64 rid) := hcells 7 _ rfl
                have z8 : w.cell? ⟨cb, co + i * 9 + 8, none⟩ = some (.slice sa sl.length scap) := hcells 8 _ rfl
                have HSg : Hid (Sigs w sa scap sl) := Go.Lib.hid hsg
                clear hcells hsg hro hvi hsi
                have HLast := Go.Lib.hid (HC.out.trans HD.out)
                clear HC HD
                go_wp2_with fail
                clear z0 z1 z2 z3 z4 z5 z6 z7 z8
                have HSlP : Hid (slotB epoch cs = true → 0 < cs) := Go.Lib.hid (by intro hq; unfold slotB at hq; simp only [Bool.and_eq_true, decide_eq_true_eq] at hq; have := HE.out; omega)
                (refine wp_region_ext_lit (by kernel_rfl) (by kernel_rfl) ?_)
                ((try simp only [Bool.not_true, Bool.not_false, Bool.or_false, Bool.or_true, Bool.false_or, Bool.true_or, Bool.and_true, Bool.true_and, Bool.and_false, Bool.false_and]); (repeat (go_big_quiet_step ((first | (go_at_call 110; exact Calls.ext_eq (ref13_Of epoch cs HE.out _)) | (go_at_call 111; exact Calls.ext_of (ref13_Asked rc rs rk rkey rx rid _)) | (go_at_call 109; exact Calls.ext_of (ref13_sigsB sa scap sl _ (HSg.out.extN (by (repeat (first | with_reducible exact Ext.refl _ _ | assumption | with_reducible refine Ext.upN ?_ | with_reducible refine Ext.alloc ?_ _ | with_reducible refine Ext.upA (by assumption) ?_ | with_reducible refine Ext.upW ?_ | with_reducible refine Ext.drew ?_ | with_reducible refine Ext.drewN ?_ _ | with_reducible refine Ext.upF ?_ | with_reducible refine Ext.upFF (by first | omega | simp) ?_ | with_reducible refine Ext.setCellsF _ _ _ (by first | omega | simp) ?_ | with_reducible refine Ext.setCellF _ _ _ (by first | omega | simp) ?_ | with_reducible refine Ext.upFN (by first | omega | simp) ?_ | with_reducible refine Ext.up1F (by first | omega | simp) ?_ | with_reducible refine Ext.up1N (by first | omega | simp) ?_ | with_reducible refine Ext.setCell ?_ (.inr (by first | omega | simp)) _ | refine Ext.alloc ?_ _ | refine Ext.setCellF _ _ _ (by first | omega | simp) ?_ | refine Ext.setCell ?_ (.inr (by first | omega | simp)) _)))))))))))
                cases hbHOf : slotB epoch cs
                · have HOf := Go.Lib.hid hbHOf; clear hbHOf
                  as_aux_lemma =>
                  ((try simp only [Bool.not_true, Bool.not_false, Bool.or_false, Bool.or_true, Bool.false_or, Bool.true_or, Bool.and_true, Bool.true_and, Bool.and_false, Bool.false_and]); (repeat (go_big_quiet_step ((first | (go_at_call 110; exact Calls.ext_eq (ref13_Of epoch cs HE.out _)) | (go_at_call 111; exact Calls.ext_of (ref13_Asked rc rs rk rkey rx rid _)) | (go_at_call 109; exact Calls.ext_of (ref13_sigsB sa scap sl _ (HSg.out.extN (by (repeat (first | with_reducible exact Ext.refl _ _ | assumption | with_reducible refine Ext.upN ?_ | with_reducible refine Ext.alloc ?_ _ | with_reducible refine Ext.upA (by assumption) ?_ | with_reducible refine Ext.upW ?_ | with_reducible refine Ext.drew ?_ | with_reducible refine Ext.drewN ?_ _ | with_reducible refine Ext.upF ?_ | with_reducible refine Ext.upFF (by first | omega | simp) ?_ | with_reducible refine Ext.setCellsF _ _ _ (by first | omega | simp) ?_ | with_reducible refine Ext.setCellF _ _ _ (by first | omega | simp) ?_ | with_reducible refine Ext.upFN (by first | omega | simp) ?_ | with_reducible refine Ext.up1F (by first | omega | simp) ?_ | with_reducible refine Ext.up1N (by first | omega | simp) ?_ | with_reducible refine Ext.setCell ?_ (.inr (by first | omega | simp)) _ | refine Ext.alloc ?_ _ | refine Ext.setCellF _ _ _ (by first | omega | simp) ?_ | refine Ext.setCell ?_ (.inr (by first | omega | simp)) _)))))))))))
                  (refine wpQuiet_nil ?_; intro _ hw'; obtain ⟨xq, hw''⟩ := hw'; subst hw'')
                  go_wp2
                  go_ret
                  exact ⟨ret_bool (by rw [YES.out, HLast.out]; exact (Bool.and_eq_false_iff.2 (.inl (by unfold fitsB headB; dsimp only; rw [HOf.out]; simp))).symm), by (repeat (first | with_reducible exact Ext.refl _ _ | assumption | with_reducible refine Ext.upN ?_ | with_reducible refine Ext.alloc ?_ _ | with_reducible refine Ext.upA (by assumption) ?_ | with_reducible refine Ext.upW ?_ | with_reducible refine Ext.drew ?_ | with_reducible refine Ext.drewN ?_ _ | with_reducible refine Ext.upF ?_ | with_reducible refine Ext.upFF (by first | omega | simp) ?_ | with_reducible refine Ext.setCellsF _ _ _ (by first | omega | simp) ?_ | with_reducible refine Ext.setCellF _ _ _ (by first | omega | simp) ?_ | with_reducible refine Ext.upFN (by first | omega | simp) ?_ | with_reducible refine Ext.up1F (by first | omega | simp) ?_ | with_reducible refine Ext.up1N (by first | omega | simp) ?_ | with_reducible refine Ext.setCell ?_ (.inr (by first | omega | simp)) _ | refine Ext.alloc ?_ _ | refine Ext.setCellF _ _ _ (by first | omega | simp) ?_ | refine Ext.setCell ?_ (.inr (by first | omega | simp)) _))⟩
                · have HOf := Go.Lib.hid hbHOf; clear hbHOf
                  ((try simp only [Bool.not_true, Bool.not_false, Bool.or_false, Bool.or_true, Bool.false_or, Bool.true_or, Bool.and_true, Bool.true_and, Bool.and_false, Bool.false_and]); (repeat (go_big_quiet_step ((first | (go_at_call 110; exact Calls.ext_eq (ref13_Of epoch cs HE.out _)) | (go_at_call 111; exact Calls.ext_of (ref13_Asked rc rs rk rkey rx rid _)) | (go_at_call 109; exact Calls.ext_of (ref13_sigsB sa scap sl _ (HSg.out.extN (by (repeat (first | with_reducible exact Ext.refl _ _ | assumption | with_reducible refine Ext.upN ?_ | with_reducible refine Ext.alloc ?_ _ | with_reducible refine Ext.upA (by assumption) ?_ | with_reducible refine Ext.upW ?_ | with_reducible refine Ext.drew ?_ | with_reducible refine Ext.drewN ?_ _ | with_reducible refine Ext.upF ?_ | with_reducible refine Ext.upFF (by first | omega | simp) ?_ | with_reducible refine Ext.setCellsF _ _ _ (by first | omega | simp) ?_ | with_reducible refine Ext.setCellF _ _ _ (by first | omega | simp) ?_ | with_reducible refine Ext.upFN (by first | omega | simp) ?_ | with_reducible refine Ext.up1F (by first | omega | simp) ?_ | with_reducible refine Ext.up1N (by first | omega | simp) ?_ | with_reducible refine Ext.setCell ?_ (.inr (by first | omega | simp)) _ | refine Ext.alloc ?_ _ | refine Ext.setCellF _ _ _ (by first | omega | simp) ?_ | refine Ext.setCell ?_ (.inr (by first | omega | simp)) _)))))))))))
                  by_cases hi0 : 0 < i
                  · as_aux_lemma =>
                    have hz : decide (0 < i) = true := decide_eq_true (by omega)
                    rw [hz]
                    clear hz
                    obtain ⟨j, rfl⟩ : ∃ j, i = j + 1 := ⟨i - 1, by omega⟩
                    have zp := HPrev.out j rfl
                    have hpv : (if j + 1 = 0 then 0 else (ctAt certs (j + 1 - 1)).slot) = (ctAt certs j).slot := by simp
                    rw [hpv] at HLast
                    clear hpv
                    generalize (ctAt certs j).slot = pv at *
                    have hw1 : IntKind.i64.wrap (((j + 1 : Nat) : Int) - 1) = ((j : Nat) : Int) := by rw [show ((j + 1 : Nat) : Int) - 1 = (j : Int) by omega]; exact IntWalk.i64_in _ (by omega)
                    ((try simp only [Bool.not_true, Bool.not_false, Bool.or_false, Bool.or_true, Bool.false_or, Bool.true_or, Bool.and_true, Bool.true_and, Bool.and_false, Bool.false_and]); (repeat (go_big_quiet_step ((first | (go_at_call 110; exact Calls.ext_eq (ref13_Of epoch cs HE.out _)) | (go_at_call 111; exact Calls.ext_of (ref13_Asked rc rs rk rkey rx rid _)) | (go_at_call 109; exact Calls.ext_of (ref13_sigsB sa scap sl _ (HSg.out.extN (by (repeat (first | with_reducible exact Ext.refl _ _ | assumption | with_reducible refine Ext.upN ?_ | with_reducible refine Ext.alloc ?_ _ | with_reducible refine Ext.upA (by assumption) ?_ | with_reducible refine Ext.upW ?_ | with_reducible refine Ext.drew ?_ | with_reducible refine Ext.drewN ?_ _ | with_reducible refine Ext.upF ?_ | with_reducible refine Ext.upFF (by first | omega | simp) ?_ | with_reducible refine Ext.setCellsF _ _ _ (by first | omega | simp) ?_ | with_reducible refine Ext.setCellF _ _ _ (by first | omega | simp) ?_ | with_reducible refine Ext.upFN (by first | omega | simp) ?_ | with_reducible refine Ext.up1F (by first | omega | simp) ?_ | with_reducible refine Ext.up1N (by first | omega | simp) ?_ | with_reducible refine Ext.setCell ?_ (.inr (by first | omega | simp)) _ | refine Ext.alloc ?_ _ | refine Ext.setCellF _ _ _ (by first | omega | simp) ?_ | refine Ext.setCell ?_ (.inr (by first | omega | simp)) _)))))))))))
                    cases hbGP : decide (cs ≤ pv)
                    · have GP := Go.Lib.hid hbGP; clear hbGP
                      ((try simp only [Bool.not_true, Bool.not_false, Bool.or_false, Bool.or_true, Bool.false_or, Bool.true_or, Bool.and_true, Bool.true_and, Bool.and_false, Bool.false_and]); (repeat (go_big_quiet_step ((first | (go_at_call 110; exact Calls.ext_eq (ref13_Of epoch cs HE.out _)) | (go_at_call 111; exact Calls.ext_of (ref13_Asked rc rs rk rkey rx rid _)) | (go_at_call 109; exact Calls.ext_of (ref13_sigsB sa scap sl _ (HSg.out.extN (by (repeat (first | with_reducible exact Ext.refl _ _ | assumption | with_reducible refine Ext.upN ?_ | with_reducible refine Ext.alloc ?_ _ | with_reducible refine Ext.upA (by assumption) ?_ | with_reducible refine Ext.upW ?_ | with_reducible refine Ext.drew ?_ | with_reducible refine Ext.drewN ?_ _ | with_reducible refine Ext.upF ?_ | with_reducible refine Ext.upFF (by first | omega | simp) ?_ | with_reducible refine Ext.setCellsF _ _ _ (by first | omega | simp) ?_ | with_reducible refine Ext.setCellF _ _ _ (by first | omega | simp) ?_ | with_reducible refine Ext.upFN (by first | omega | simp) ?_ | with_reducible refine Ext.up1F (by first | omega | simp) ?_ | with_reducible refine Ext.up1N (by first | omega | simp) ?_ | with_reducible refine Ext.setCell ?_ (.inr (by first | omega | simp)) _ | refine Ext.alloc ?_ _ | refine Ext.setCellF _ _ _ (by first | omega | simp) ?_ | refine Ext.setCell ?_ (.inr (by first | omega | simp)) _)))))))))))
                      cases hbG0 : decide (cv < 0)
                      · have G0 := Go.Lib.hid hbG0; clear hbG0
                        ((try simp only [Bool.not_true, Bool.not_false, Bool.or_false, Bool.or_true, Bool.false_or, Bool.true_or, Bool.and_true, Bool.true_and, Bool.and_false, Bool.false_and]); (repeat (go_big_quiet_step ((first | (go_at_call 110; exact Calls.ext_eq (ref13_Of epoch cs HE.out _)) | (go_at_call 111; exact Calls.ext_of (ref13_Asked rc rs rk rkey rx rid _)) | (go_at_call 109; exact Calls.ext_of (ref13_sigsB sa scap sl _ (HSg.out.extN (by (repeat (first | with_reducible exact Ext.refl _ _ | assumption | with_reducible refine Ext.upN ?_ | with_reducible refine Ext.alloc ?_ _ | with_reducible refine Ext.upA (by assumption) ?_ | with_reducible refine Ext.upW ?_ | with_reducible refine Ext.drew ?_ | with_reducible refine Ext.drewN ?_ _ | with_reducible refine Ext.upF ?_ | with_reducible refine Ext.upFF (by first | omega | simp) ?_ | with_reducible refine Ext.setCellsF _ _ _ (by first | omega | simp) ?_ | with_reducible refine Ext.setCellF _ _ _ (by first | omega | simp) ?_ | with_reducible refine Ext.upFN (by first | omega | simp) ?_ | with_reducible refine Ext.up1F (by first | omega | simp) ?_ | with_reducible refine Ext.up1N (by first | omega | simp) ?_ | with_reducible refine Ext.setCell ?_ (.inr (by first | omega | simp)) _ | refine Ext.alloc ?_ _ | refine Ext.setCellF _ _ _ (by first | omega | simp) ?_ | refine Ext.setCell ?_ (.inr (by first | omega | simp)) _)))))))))))
                        cases hbG1 : decide (15 < cv)
                        · have G1 := Go.Lib.hid hbG1; clear hbG1
                          ((try simp only [Bool.not_true, Bool.not_false, Bool.or_false, Bool.or_true, Bool.false_or, Bool.true_or, Bool.and_true, Bool.true_and, Bool.and_false, Bool.false_and]); (repeat (go_big_quiet_step ((first | (go_at_call 110; exact Calls.ext_eq (ref13_Of epoch cs HE.out _)) | (go_at_call 111; exact Calls.ext_of (ref13_Asked rc rs rk rkey rx rid _)) | (go_at_call 109; exact Calls.ext_of (ref13_sigsB sa scap sl _ (HSg.out.extN (by (repeat (first | with_reducible exact Ext.refl _ _ | assumption | with_reducible refine Ext.upN ?_ | with_reducible refine Ext.alloc ?_ _ | with_reducible refine Ext.upA (by assumption) ?_ | with_reducible refine Ext.upW ?_ | with_reducible refine Ext.drew ?_ | with_reducible refine Ext.drewN ?_ _ | with_reducible refine Ext.upF ?_ | with_reducible refine Ext.upFF (by first | omega | simp) ?_ | with_reducible refine Ext.setCellsF _ _ _ (by first | omega | simp) ?_ | with_reducible refine Ext.setCellF _ _ _ (by first | omega | simp) ?_ | with_reducible refine Ext.upFN (by first | omega | simp) ?_ | with_reducible refine Ext.up1F (by first | omega | simp) ?_ | with_reducible refine Ext.up1N (by first | omega | simp) ?_ | with_reducible refine Ext.setCell ?_ (.inr (by first | omega | simp)) _ | refine Ext.alloc ?_ _ | refine Ext.setCellF _ _ _ (by first | omega | simp) ?_ | refine Ext.setCell ?_ (.inr (by first | omega | simp)) _)))))))))))
                          cases hbHAs : askedB ⟨rc, rs, ⟨rk, rkey, rx, rid⟩⟩
                          · have HAs := Go.Lib.hid hbHAs; clear hbHAs
                            as_aux_lemma =>
                            ((try simp only [Bool.not_true, Bool.not_false, Bool.or_false, Bool.or_true, Bool.false_or, Bool.true_or, Bool.and_true, Bool.true_and, Bool.and_false, Bool.false_and]); (repeat (go_big_quiet_step ((first | (go_at_call 110; exact Calls.ext_eq (ref13_Of epoch cs HE.out _)) | (go_at_call 111; exact Calls.ext_of (ref13_Asked rc rs rk rkey rx rid _)) | (go_at_call 109; exact Calls.ext_of (ref13_sigsB sa scap sl _ (HSg.out.extN (by (repeat (first | with_reducible exact Ext.refl _ _ | assumption | with_reducible refine Ext.upN ?_ | with_reducible refine Ext.alloc ?_ _ | with_reducible refine Ext.upA (by assumption) ?_ | with_reducible refine Ext.upW ?_ | with_reducible refine Ext.drew ?_ | with_reducible refine Ext.drewN ?_ _ | with_reducible refine Ext.upF ?_ | with_reducible refine Ext.upFF (by first | omega | simp) ?_ | with_reducible refine Ext.setCellsF _ _ _ (by first | omega | simp) ?_ | with_reducible refine Ext.setCellF _ _ _ (by first | omega | simp) ?_ | with_reducible refine Ext.upFN (by first | omega | simp) ?_ | with_reducible refine Ext.up1F (by first | omega | simp) ?_ | with_reducible refine Ext.up1N (by first | omega | simp) ?_ | with_reducible refine Ext.setCell ?_ (.inr (by first | omega | simp)) _ | refine Ext.alloc ?_ _ | refine Ext.setCellF _ _ _ (by first | omega | simp) ?_ | refine Ext.setCell ?_ (.inr (by first | omega | simp)) _)))))))))))
                            (refine wpQuiet_nil ?_; intro _ hw'; obtain ⟨xq, hw''⟩ := hw'; subst hw'')
                            go_wp2
                            go_ret
                            exact ⟨ret_bool (by rw [YES.out, HLast.out]; exact (Bool.and_eq_false_iff.2 (.inl (by unfold fitsB headB; dsimp only; rw [HAs.out]; simp))).symm), by (repeat (first | with_reducible exact Ext.refl _ _ | assumption | with_reducible refine Ext.upN ?_ | with_reducible refine Ext.alloc ?_ _ | with_reducible refine Ext.upA (by assumption) ?_ | with_reducible refine Ext.upW ?_ | with_reducible refine Ext.drew ?_ | with_reducible refine Ext.drewN ?_ _ | with_reducible refine Ext.upF ?_ | with_reducible refine Ext.upFF (by first | omega | simp) ?_ | with_reducible refine Ext.setCellsF _ _ _ (by first | omega | simp) ?_ | with_reducible refine Ext.setCellF _ _ _ (by first | omega | simp) ?_ | with_reducible refine Ext.upFN (by first | omega | simp) ?_ | with_reducible refine Ext.up1F (by first | omega | simp) ?_ | with_reducible refine Ext.up1N (by first | omega | simp) ?_ | with_reducible refine Ext.setCell ?_ (.inr (by first | omega | simp)) _ | refine Ext.alloc ?_ _ | refine Ext.setCellF _ _ _ (by first | omega | simp) ?_ | refine Ext.setCell ?_ (.inr (by first | omega | simp)) _))⟩
                          · have HAs := Go.Lib.hid hbHAs; clear hbHAs
                            ((try simp only [Bool.not_true, Bool.not_false, Bool.or_false, Bool.or_true, Bool.false_or, Bool.true_or, Bool.and_true, Bool.true_and, Bool.and_false, Bool.false_and]); (repeat (go_big_quiet_step ((first | (go_at_call 110; exact Calls.ext_eq (ref13_Of epoch cs HE.out _)) | (go_at_call 111; exact Calls.ext_of (ref13_Asked rc rs rk rkey rx rid _)) | (go_at_call 109; exact Calls.ext_of (ref13_sigsB sa scap sl _ (HSg.out.extN (by (repeat (first | with_reducible exact Ext.refl _ _ | assumption | with_reducible refine Ext.upN ?_ | with_reducible refine Ext.alloc ?_ _ | with_reducible refine Ext.upA (by assumption) ?_ | with_reducible refine Ext.upW ?_ | with_reducible refine Ext.drew ?_ | with_reducible refine Ext.drewN ?_ _ | with_reducible refine Ext.upF ?_ | with_reducible refine Ext.upFF (by first | omega | simp) ?_ | with_reducible refine Ext.setCellsF _ _ _ (by first | omega | simp) ?_ | with_reducible refine Ext.setCellF _ _ _ (by first | omega | simp) ?_ | with_reducible refine Ext.upFN (by first | omega | simp) ?_ | with_reducible refine Ext.up1F (by first | omega | simp) ?_ | with_reducible refine Ext.up1N (by first | omega | simp) ?_ | with_reducible refine Ext.setCell ?_ (.inr (by first | omega | simp)) _ | refine Ext.alloc ?_ _ | refine Ext.setCellF _ _ _ (by first | omega | simp) ?_ | refine Ext.setCell ?_ (.inr (by first | omega | simp)) _)))))))))))
                            cases hbHSi : sigsB sl
                            · have HSi := Go.Lib.hid hbHSi; clear hbHSi
                              as_aux_lemma =>
                              ((try simp only [Bool.not_true, Bool.not_false, Bool.or_false, Bool.or_true, Bool.false_or, Bool.true_or, Bool.and_true, Bool.true_and, Bool.and_false, Bool.false_and]); (repeat (go_big_quiet_step ((first | (go_at_call 110; exact Calls.ext_eq (ref13_Of epoch cs HE.out _)) | (go_at_call 111; exact Calls.ext_of (ref13_Asked rc rs rk rkey rx rid _)) | (go_at_call 109; exact Calls.ext_of (ref13_sigsB sa scap sl _ (HSg.out.extN (by (repeat (first | with_reducible exact Ext.refl _ _ | assumption | with_reducible refine Ext.upN ?_ | with_reducible refine Ext.alloc ?_ _ | with_reducible refine Ext.upA (by assumption) ?_ | with_reducible refine Ext.upW ?_ | with_reducible refine Ext.drew ?_ | with_reducible refine Ext.drewN ?_ _ | with_reducible refine Ext.upF ?_ | with_reducible refine Ext.upFF (by first | omega | simp) ?_ | with_reducible refine Ext.setCellsF _ _ _ (by first | omega | simp) ?_ | with_reducible refine Ext.setCellF _ _ _ (by first | omega | simp) ?_ | with_reducible refine Ext.upFN (by first | omega | simp) ?_ | with_reducible refine Ext.up1F (by first | omega | simp) ?_ | with_reducible refine Ext.up1N (by first | omega | simp) ?_ | with_reducible refine Ext.setCell ?_ (.inr (by first | omega | simp)) _ | refine Ext.alloc ?_ _ | refine Ext.setCellF _ _ _ (by first | omega | simp) ?_ | refine Ext.setCell ?_ (.inr (by first | omega | simp)) _)))))))))))
                              (refine wpQuiet_nil ?_; intro _ hw'; obtain ⟨xq, hw''⟩ := hw'; subst hw'')
                              go_wp2
                              go_ret
                              exact ⟨ret_bool (by rw [YES.out, HLast.out]; exact (Bool.and_eq_false_iff.2 (.inl (fits_no_sigs _ _ _ HSi.out))).symm), by (repeat (first | with_reducible exact Ext.refl _ _ | assumption | with_reducible refine Ext.upN ?_ | with_reducible refine Ext.alloc ?_ _ | with_reducible refine Ext.upA (by assumption) ?_ | with_reducible refine Ext.upW ?_ | with_reducible refine Ext.drew ?_ | with_reducible refine Ext.drewN ?_ _ | with_reducible refine Ext.upF ?_ | with_reducible refine Ext.upFF (by first | omega | simp) ?_ | with_reducible refine Ext.setCellsF _ _ _ (by first | omega | simp) ?_ | with_reducible refine Ext.setCellF _ _ _ (by first | omega | simp) ?_ | with_reducible refine Ext.upFN (by first | omega | simp) ?_ | with_reducible refine Ext.up1F (by first | omega | simp) ?_ | with_reducible refine Ext.up1N (by first | omega | simp) ?_ | with_reducible refine Ext.setCell ?_ (.inr (by first | omega | simp)) _ | refine Ext.alloc ?_ _ | refine Ext.setCellF _ _ _ (by first | omega | simp) ?_ | refine Ext.setCell ?_ (.inr (by first | omega | simp)) _))⟩
                            · have HSi := Go.Lib.hid hbHSi; clear hbHSi
                              ((try simp only [Bool.not_true, Bool.not_false, Bool.or_false, Bool.or_true, Bool.false_or, Bool.true_or, Bool.and_true, Bool.true_and, Bool.and_false, Bool.false_and]); (repeat (go_big_quiet_step ((first | (go_at_call 110; exact Calls.ext_eq (ref13_Of epoch cs HE.out _)) | (go_at_call 111; exact Calls.ext_of (ref13_Asked rc rs rk rkey rx rid _)) | (go_at_call 109; exact Calls.ext_of (ref13_sigsB sa scap sl _ (HSg.out.extN (by (repeat (first | with_reducible exact Ext.refl _ _ | assumption | with_reducible refine Ext.upN ?_ | with_reducible refine Ext.alloc ?_ _ | with_reducible refine Ext.upA (by assumption) ?_ | with_reducible refine Ext.upW ?_ | with_reducible refine Ext.drew ?_ | with_reducible refine Ext.drewN ?_ _ | with_reducible refine Ext.upF ?_ | with_reducible refine Ext.upFF (by first | omega | simp) ?_ | with_reducible refine Ext.setCellsF _ _ _ (by first | omega | simp) ?_ | with_reducible refine Ext.setCellF _ _ _ (by first | omega | simp) ?_ | with_reducible refine Ext.upFN (by first | omega | simp) ?_ | with_reducible refine Ext.up1F (by first | omega | simp) ?_ | with_reducible refine Ext.up1N (by first | omega | simp) ?_ | with_reducible refine Ext.setCell ?_ (.inr (by first | omega | simp)) _ | refine Ext.alloc ?_ _ | refine Ext.setCellF _ _ _ (by first | omega | simp) ?_ | refine Ext.setCell ?_ (.inr (by first | omega | simp)) _)))))))))))
                              (refine wpQuiet_nil ?_; intro _ hw'; obtain ⟨xq, hw''⟩ := hw'; subst hw'')
                              go_wp2_with fail
                              go_roundw
                              case rel => exact ⟨j + 1 + 1, ⟨_, by (repeat (first | with_reducible exact Ext.refl _ _ | assumption | with_reducible refine Ext.upN ?_ | with_reducible refine Ext.alloc ?_ _ | with_reducible refine Ext.upA (by assumption) ?_ | with_reducible refine Ext.upW ?_ | with_reducible refine Ext.drew ?_ | with_reducible refine Ext.drewN ?_ _ | with_reducible refine Ext.upF ?_ | with_reducible refine Ext.upFF (by first | omega | simp) ?_ | with_reducible refine Ext.setCellsF _ _ _ (by first | omega | simp) ?_ | with_reducible refine Ext.setCellF _ _ _ (by first | omega | simp) ?_ | with_reducible refine Ext.upFN (by first | omega | simp) ?_ | with_reducible refine Ext.up1F (by first | omega | simp) ?_ | with_reducible refine Ext.up1N (by first | omega | simp) ?_ | with_reducible refine Ext.setCell ?_ (.inr (by first | omega | simp)) _ | refine Ext.alloc ?_ _ | refine Ext.setCellF _ _ _ (by first | omega | simp) ?_ | refine Ext.setCell ?_ (.inr (by first | omega | simp)) _))⟩, hlt, by go_num, rfl, Go.Lib.hid (by
                                have hsi := HSi.out
                                unfold sigsB at hsi
                                have hsi := Bool.and_eq_true_iff.1 hsi
                                have g0' : 0 ≤ cv := by have := of_decide_eq_false G0.out; omega
                                have g1' : cv ≤ 15 := by have := of_decide_eq_false G1.out; omega
                                rw [HLast.out, HSl.out]
                                show (fitsB epoch _ _ && _) = _
                                unfold fitsB headB; dsimp only
                                rw [HOf.out, HAs.out, decide_eq_true g0', decide_eq_true g1', hsi.1, hsi.2, decide_eq_true (show pv < cs by have := of_decide_eq_false GP.out; omega)]; simp)⟩
                              case measure => simp [intOf]; omega
                        · have G1 := Go.Lib.hid hbG1; clear hbG1
                          as_aux_lemma =>
                          ((try simp only [Bool.not_true, Bool.not_false, Bool.or_false, Bool.or_true, Bool.false_or, Bool.true_or, Bool.and_true, Bool.true_and, Bool.and_false, Bool.false_and]); (repeat (go_big_quiet_step ((first | (go_at_call 110; exact Calls.ext_eq (ref13_Of epoch cs HE.out _)) | (go_at_call 111; exact Calls.ext_of (ref13_Asked rc rs rk rkey rx rid _)) | (go_at_call 109; exact Calls.ext_of (ref13_sigsB sa scap sl _ (HSg.out.extN (by (repeat (first | with_reducible exact Ext.refl _ _ | assumption | with_reducible refine Ext.upN ?_ | with_reducible refine Ext.alloc ?_ _ | with_reducible refine Ext.upA (by assumption) ?_ | with_reducible refine Ext.upW ?_ | with_reducible refine Ext.drew ?_ | with_reducible refine Ext.drewN ?_ _ | with_reducible refine Ext.upF ?_ | with_reducible refine Ext.upFF (by first | omega | simp) ?_ | with_reducible refine Ext.setCellsF _ _ _ (by first | omega | simp) ?_ | with_reducible refine Ext.setCellF _ _ _ (by first | omega | simp) ?_ | with_reducible refine Ext.upFN (by first | omega | simp) ?_ | with_reducible refine Ext.up1F (by first | omega | simp) ?_ | with_reducible refine Ext.up1N (by first | omega | simp) ?_ | with_reducible refine Ext.setCell ?_ (.inr (by first | omega | simp)) _ | refine Ext.alloc ?_ _ | refine Ext.setCellF _ _ _ (by first | omega | simp) ?_ | refine Ext.setCell ?_ (.inr (by first | omega | simp)) _)))))))))))
                          (refine wpQuiet_nil ?_; intro _ hw'; obtain ⟨xq, hw''⟩ := hw'; subst hw'')
                          go_wp2
                          go_ret
                          exact ⟨ret_bool (by rw [YES.out, HLast.out]; exact (Bool.and_eq_false_iff.2 (.inl (by unfold fitsB headB; dsimp only; rw [decide_eq_false (show ¬ cv ≤ 15 by have := of_decide_eq_true G1.out; omega)]; simp))).symm), by (repeat (first | with_reducible exact Ext.refl _ _ | assumption | with_reducible refine Ext.upN ?_ | with_reducible refine Ext.alloc ?_ _ | with_reducible refine Ext.upA (by assumption) ?_ | with_reducible refine Ext.upW ?_ | with_reducible refine Ext.drew ?_ | with_reducible refine Ext.drewN ?_ _ | with_reducible refine Ext.upF ?_ | with_reducible refine Ext.upFF (by first | omega | simp) ?_ | with_reducible refine Ext.setCellsF _ _ _ (by first | omega | simp) ?_ | with_reducible refine Ext.setCellF _ _ _ (by first | omega | simp) ?_ | with_reducible refine Ext.upFN (by first | omega | simp) ?_ | with_reducible refine Ext.up1F (by first | omega | simp) ?_ | with_reducible refine Ext.up1N (by first | omega | simp) ?_ | with_reducible refine Ext.setCell ?_ (.inr (by first | omega | simp)) _ | refine Ext.alloc ?_ _ | refine Ext.setCellF _ _ _ (by first | omega | simp) ?_ | refine Ext.setCell ?_ (.inr (by first | omega | simp)) _))⟩
                      · have G0 := Go.Lib.hid hbG0; clear hbG0
                        as_aux_lemma =>
                        ((try simp only [Bool.not_true, Bool.not_false, Bool.or_false, Bool.or_true, Bool.false_or, Bool.true_or, Bool.and_true, Bool.true_and, Bool.and_false, Bool.false_and]); (repeat (go_big_quiet_step ((first | (go_at_call 110; exact Calls.ext_eq (ref13_Of epoch cs HE.out _)) | (go_at_call 111; exact Calls.ext_of (ref13_Asked rc rs rk rkey rx rid _)) | (go_at_call 109; exact Calls.ext_of (ref13_sigsB sa scap sl _ (HSg.out.extN (by (repeat (first | with_reducible exact Ext.refl _ _ | assumption | with_reducible refine Ext.upN ?_ | with_reducible refine Ext.alloc ?_ _ | with_reducible refine Ext.upA (by assumption) ?_ | with_reducible refine Ext.upW ?_ | with_reducible refine Ext.drew ?_ | with_reducible refine Ext.drewN ?_ _ | with_reducible refine Ext.upF ?_ | with_reducible refine Ext.upFF (by first | omega | simp) ?_ | with_reducible refine Ext.setCellsF _ _ _ (by first | omega | simp) ?_ | with_reducible refine Ext.setCellF _ _ _ (by first | omega | simp) ?_ | with_reducible refine Ext.upFN (by first | omega | simp) ?_ | with_reducible refine Ext.up1F (by first | omega | simp) ?_ | with_reducible refine Ext.up1N (by first | omega | simp) ?_ | with_reducible refine Ext.setCell ?_ (.inr (by first | omega | simp)) _ | refine Ext.alloc ?_ _ | refine Ext.setCellF _ _ _ (by first | omega | simp) ?_ | refine Ext.setCell ?_ (.inr (by first | omega | simp)) _)))))))))))
                        (refine wpQuiet_nil ?_; intro _ hw'; obtain ⟨xq, hw''⟩ := hw'; subst hw'')
                        go_wp2
                        go_ret
                        exact ⟨ret_bool (by rw [YES.out, HLast.out]; exact (Bool.and_eq_false_iff.2 (.inl (by unfold fitsB headB; dsimp only; rw [decide_eq_false (show ¬ 0 ≤ cv by have := of_decide_eq_true G0.out; omega)]; simp))).symm), by (repeat (first | with_reducible exact Ext.refl _ _ | assumption | with_reducible refine Ext.upN ?_ | with_reducible refine Ext.alloc ?_ _ | with_reducible refine Ext.upA (by assumption) ?_ | with_reducible refine Ext.upW ?_ | with_reducible refine Ext.drew ?_ | with_reducible refine Ext.drewN ?_ _ | with_reducible refine Ext.upF ?_ | with_reducible refine Ext.upFF (by first | omega | simp) ?_ | with_reducible refine Ext.setCellsF _ _ _ (by first | omega | simp) ?_ | with_reducible refine Ext.setCellF _ _ _ (by first | omega | simp) ?_ | with_reducible refine Ext.upFN (by first | omega | simp) ?_ | with_reducible refine Ext.up1F (by first | omega | simp) ?_ | with_reducible refine Ext.up1N (by first | omega | simp) ?_ | with_reducible refine Ext.setCell ?_ (.inr (by first | omega | simp)) _ | refine Ext.alloc ?_ _ | refine Ext.setCellF _ _ _ (by first | omega | simp) ?_ | refine Ext.setCell ?_ (.inr (by first | omega | simp)) _))⟩
                    · have GP := Go.Lib.hid hbGP; clear hbGP
                      as_aux_lemma =>
                      ((try simp only [Bool.not_true, Bool.not_false, Bool.or_false, Bool.or_true, Bool.false_or, Bool.true_or, Bool.and_true, Bool.true_and, Bool.and_false, Bool.false_and]); (repeat (go_big_quiet_step ((first | (go_at_call 110; exact Calls.ext_eq (ref13_Of epoch cs HE.out _)) | (go_at_call 111; exact Calls.ext_of (ref13_Asked rc rs rk rkey rx rid _)) | (go_at_call 109; exact Calls.ext_of (ref13_sigsB sa scap sl _ (HSg.out.extN (by (repeat (first | with_reducible exact Ext.refl _ _ | assumption | with_reducible refine Ext.upN ?_ | with_reducible refine Ext.alloc ?_ _ | with_reducible refine Ext.upA (by assumption) ?_ | with_reducible refine Ext.upW ?_ | with_reducible refine Ext.drew ?_ | with_reducible refine Ext.drewN ?_ _ | with_reducible refine Ext.upF ?_ | with_reducible refine Ext.upFF (by first | omega | simp) ?_ | with_reducible refine Ext.setCellsF _ _ _ (by first | omega | simp) ?_ | with_reducible refine Ext.setCellF _ _ _ (by first | omega | simp) ?_ | with_reducible refine Ext.upFN (by first | omega | simp) ?_ | with_reducible refine Ext.up1F (by first | omega | simp) ?_ | with_reducible refine Ext.up1N (by first | omega | simp) ?_ | with_reducible refine Ext.setCell ?_ (.inr (by first | omega | simp)) _ | refine Ext.alloc ?_ _ | refine Ext.setCellF _ _ _ (by first | omega | simp) ?_ | refine Ext.setCell ?_ (.inr (by first | omega | simp)) _)))))))))))
                      (refine wpQuiet_nil ?_; intro _ hw'; obtain ⟨xq, hw''⟩ := hw'; subst hw'')
                      go_wp2
                      go_ret
                      exact ⟨ret_bool (by rw [YES.out, HLast.out]; exact (Bool.and_eq_false_iff.2 (.inl (by unfold fitsB headB; dsimp only; rw [decide_eq_false (show ¬ pv < cs by have := of_decide_eq_true GP.out; omega)]; simp))).symm), by (repeat (first | with_reducible exact Ext.refl _ _ | assumption | with_reducible refine Ext.upN ?_ | with_reducible refine Ext.alloc ?_ _ | with_reducible refine Ext.upA (by assumption) ?_ | with_reducible refine Ext.upW ?_ | with_reducible refine Ext.drew ?_ | with_reducible refine Ext.drewN ?_ _ | with_reducible refine Ext.upF ?_ | with_reducible refine Ext.upFF (by first | omega | simp) ?_ | with_reducible refine Ext.setCellsF _ _ _ (by first | omega | simp) ?_ | with_reducible refine Ext.setCellF _ _ _ (by first | omega | simp) ?_ | with_reducible refine Ext.upFN (by first | omega | simp) ?_ | with_reducible refine Ext.up1F (by first | omega | simp) ?_ | with_reducible refine Ext.up1N (by first | omega | simp) ?_ | with_reducible refine Ext.setCell ?_ (.inr (by first | omega | simp)) _ | refine Ext.alloc ?_ _ | refine Ext.setCellF _ _ _ (by first | omega | simp) ?_ | refine Ext.setCell ?_ (.inr (by first | omega | simp)) _))⟩
                  · as_aux_lemma =>
                    have hz : decide (0 < i) = false := decide_eq_false (by omega)
                    rw [hz]
                    clear hz
                    have hpv : (if i = 0 then 0 else (ctAt certs (i - 1)).slot) = 0 := if_pos (by omega)
                    rw [hpv] at HLast
                    clear hpv
                    ((try simp only [Bool.not_true, Bool.not_false, Bool.or_false, Bool.or_true, Bool.false_or, Bool.true_or, Bool.and_true, Bool.true_and, Bool.and_false, Bool.false_and]); (repeat (go_big_quiet_step ((first | (go_at_call 110; exact Calls.ext_eq (ref13_Of epoch cs HE.out _)) | (go_at_call 111; exact Calls.ext_of (ref13_Asked rc rs rk rkey rx rid _)) | (go_at_call 109; exact Calls.ext_of (ref13_sigsB sa scap sl _ (HSg.out.extN (by (repeat (first | with_reducible exact Ext.refl _ _ | assumption | with_reducible refine Ext.upN ?_ | with_reducible refine Ext.alloc ?_ _ | with_reducible refine Ext.upA (by assumption) ?_ | with_reducible refine Ext.upW ?_ | with_reducible refine Ext.drew ?_ | with_reducible refine Ext.drewN ?_ _ | with_reducible refine Ext.upF ?_ | with_reducible refine Ext.upFF (by first | omega | simp) ?_ | with_reducible refine Ext.setCellsF _ _ _ (by first | omega | simp) ?_ | with_reducible refine Ext.setCellF _ _ _ (by first | omega | simp) ?_ | with_reducible refine Ext.upFN (by first | omega | simp) ?_ | with_reducible refine Ext.up1F (by first | omega | simp) ?_ | with_reducible refine Ext.up1N (by first | omega | simp) ?_ | with_reducible refine Ext.setCell ?_ (.inr (by first | omega | simp)) _ | refine Ext.alloc ?_ _ | refine Ext.setCellF _ _ _ (by first | omega | simp) ?_ | refine Ext.setCell ?_ (.inr (by first | omega | simp)) _)))))))))))
                    cases hbG0 : decide (cv < 0)
                    · have G0 := Go.Lib.hid hbG0; clear hbG0
                      ((try simp only [Bool.not_true, Bool.not_false, Bool.or_false, Bool.or_true, Bool.false_or, Bool.true_or, Bool.and_true, Bool.true_and, Bool.and_false, Bool.false_and]); (repeat (go_big_quiet_step ((first | (go_at_call 110; exact Calls.ext_eq (ref13_Of epoch cs HE.out _)) | (go_at_call 111; exact Calls.ext_of (ref13_Asked rc rs rk rkey rx rid _)) | (go_at_call 109; exact Calls.ext_of (ref13_sigsB sa scap sl _ (HSg.out.extN (by (repeat (first | with_reducible exact Ext.refl _ _ | assumption | with_reducible refine Ext.upN ?_ | with_reducible refine Ext.alloc ?_ _ | with_reducible refine Ext.upA (by assumption) ?_ | with_reducible refine Ext.upW ?_ | with_reducible refine Ext.drew ?_ | with_reducible refine Ext.drewN ?_ _ | with_reducible refine Ext.upF ?_ | with_reducible refine Ext.upFF (by first | omega | simp) ?_ | with_reducible refine Ext.setCellsF _ _ _ (by first | omega | simp) ?_ | with_reducible refine Ext.setCellF _ _ _ (by first | omega | simp) ?_ | with_reducible refine Ext.upFN (by first | omega | simp) ?_ | with_reducible refine Ext.up1F (by first | omega | simp) ?_ | with_reducible refine Ext.up1N (by first | omega | simp) ?_ | with_reducible refine Ext.setCell ?_ (.inr (by first | omega | simp)) _ | refine Ext.alloc ?_ _ | refine Ext.setCellF _ _ _ (by first | omega | simp) ?_ | refine Ext.setCell ?_ (.inr (by first | omega | simp)) _)))))))))))
                      cases hbG1 : decide (15 < cv)
                      · have G1 := Go.Lib.hid hbG1; clear hbG1
                        ((try simp only [Bool.not_true, Bool.not_false, Bool.or_false, Bool.or_true, Bool.false_or, Bool.true_or, Bool.and_true, Bool.true_and, Bool.and_false, Bool.false_and]); (repeat (go_big_quiet_step ((first | (go_at_call 110; exact Calls.ext_eq (ref13_Of epoch cs HE.out _)) | (go_at_call 111; exact Calls.ext_of (ref13_Asked rc rs rk rkey rx rid _)) | (go_at_call 109; exact Calls.ext_of (ref13_sigsB sa scap sl _ (HSg.out.extN (by (repeat (first | with_reducible exact Ext.refl _ _ | assumption | with_reducible refine Ext.upN ?_ | with_reducible refine Ext.alloc ?_ _ | with_reducible refine Ext.upA (by assumption) ?_ | with_reducible refine Ext.upW ?_ | with_reducible refine Ext.drew ?_ | with_reducible refine Ext.drewN ?_ _ | with_reducible refine Ext.upF ?_ | with_reducible refine Ext.upFF (by first | omega | simp) ?_ | with_reducible refine Ext.setCellsF _ _ _ (by first | omega | simp) ?_ | with_reducible refine Ext.setCellF _ _ _ (by first | omega | simp) ?_ | with_reducible refine Ext.upFN (by first | omega | simp) ?_ | with_reducible refine Ext.up1F (by first | omega | simp) ?_ | with_reducible refine Ext.up1N (by first | omega | simp) ?_ | with_reducible refine Ext.setCell ?_ (.inr (by first | omega | simp)) _ | refine Ext.alloc ?_ _ | refine Ext.setCellF _ _ _ (by first | omega | simp) ?_ | refine Ext.setCell ?_ (.inr (by first | omega | simp)) _)))))))))))
                        cases hbHAs : askedB ⟨rc, rs, ⟨rk, rkey, rx, rid⟩⟩
                        · have HAs := Go.Lib.hid hbHAs; clear hbHAs
                          as_aux_lemma =>
                          ((try simp only [Bool.not_true, Bool.not_false, Bool.or_false, Bool.or_true, Bool.false_or, Bool.true_or, Bool.and_true, Bool.true_and, Bool.and_false, Bool.false_and]); (repeat (go_big_quiet_step ((first | (go_at_call 110; exact Calls.ext_eq (ref13_Of epoch cs HE.out _)) | (go_at_call 111; exact Calls.ext_of (ref13_Asked rc rs rk rkey rx rid _)) | (go_at_call 109; exact Calls.ext_of (ref13_sigsB sa scap sl _ (HSg.out.extN (by (repeat (first | with_reducible exact Ext.refl _ _ | assumption | with_reducible refine Ext.upN ?_ | with_reducible refine Ext.alloc ?_ _ | with_reducible refine Ext.upA (by assumption) ?_ | with_reducible refine Ext.upW ?_ | with_reducible refine Ext.drew ?_ | with_reducible refine Ext.drewN ?_ _ | with_reducible refine Ext.upF ?_ | with_reducible refine Ext.upFF (by first | omega | simp) ?_ | with_reducible refine Ext.setCellsF _ _ _ (by first | omega | simp) ?_ | with_reducible refine Ext.setCellF _ _ _ (by first | omega | simp) ?_ | with_reducible refine Ext.upFN (by first | omega | simp) ?_ | with_reducible refine Ext.up1F (by first | omega | simp) ?_ | with_reducible refine Ext.up1N (by first | omega | simp) ?_ | with_reducible refine Ext.setCell ?_ (.inr (by first | omega | simp)) _ | refine Ext.alloc ?_ _ | refine Ext.setCellF _ _ _ (by first | omega | simp) ?_ | refine Ext.setCell ?_ (.inr (by first | omega | simp)) _)))))))))))
                          (refine wpQuiet_nil ?_; intro _ hw'; obtain ⟨xq, hw''⟩ := hw'; subst hw'')
                          go_wp2
                          go_ret
                          exact ⟨ret_bool (by rw [YES.out, HLast.out]; exact (Bool.and_eq_false_iff.2 (.inl (by unfold fitsB headB; dsimp only; rw [HAs.out]; simp))).symm), by (repeat (first | with_reducible exact Ext.refl _ _ | assumption | with_reducible refine Ext.upN ?_ | with_reducible refine Ext.alloc ?_ _ | with_reducible refine Ext.upA (by assumption) ?_ | with_reducible refine Ext.upW ?_ | with_reducible refine Ext.drew ?_ | with_reducible refine Ext.drewN ?_ _ | with_reducible refine Ext.upF ?_ | with_reducible refine Ext.upFF (by first | omega | simp) ?_ | with_reducible refine Ext.setCellsF _ _ _ (by first | omega | simp) ?_ | with_reducible refine Ext.setCellF _ _ _ (by first | omega | simp) ?_ | with_reducible refine Ext.upFN (by first | omega | simp) ?_ | with_reducible refine Ext.up1F (by first | omega | simp) ?_ | with_reducible refine Ext.up1N (by first | omega | simp) ?_ | with_reducible refine Ext.setCell ?_ (.inr (by first | omega | simp)) _ | refine Ext.alloc ?_ _ | refine Ext.setCellF _ _ _ (by first | omega | simp) ?_ | refine Ext.setCell ?_ (.inr (by first | omega | simp)) _))⟩
                        · have HAs := Go.Lib.hid hbHAs; clear hbHAs
                          ((try simp only [Bool.not_true, Bool.not_false, Bool.or_false, Bool.or_true, Bool.false_or, Bool.true_or, Bool.and_true, Bool.true_and, Bool.and_false, Bool.false_and]); (repeat (go_big_quiet_step ((first | (go_at_call 110; exact Calls.ext_eq (ref13_Of epoch cs HE.out _)) | (go_at_call 111; exact Calls.ext_of (ref13_Asked rc rs rk rkey rx rid _)) | (go_at_call 109; exact Calls.ext_of (ref13_sigsB sa scap sl _ (HSg.out.extN (by (repeat (first | with_reducible exact Ext.refl _ _ | assumption | with_reducible refine Ext.upN ?_ | with_reducible refine Ext.alloc ?_ _ | with_reducible refine Ext.upA (by assumption) ?_ | with_reducible refine Ext.upW ?_ | with_reducible refine Ext.drew ?_ | with_reducible refine Ext.drewN ?_ _ | with_reducible refine Ext.upF ?_ | with_reducible refine Ext.upFF (by first | omega | simp) ?_ | with_reducible refine Ext.setCellsF _ _ _ (by first | omega | simp) ?_ | with_reducible refine Ext.setCellF _ _ _ (by first | omega | simp) ?_ | with_reducible refine Ext.upFN (by first | omega | simp) ?_ | with_reducible refine Ext.up1F (by first | omega | simp) ?_ | with_reducible refine Ext.up1N (by first | omega | simp) ?_ | with_reducible refine Ext.setCell ?_ (.inr (by first | omega | simp)) _ | refine Ext.alloc ?_ _ | refine Ext.setCellF _ _ _ (by first | omega | simp) ?_ | refine Ext.setCell ?_ (.inr (by first | omega | simp)) _)))))))))))
                          cases hbHSi : sigsB sl
                          · have HSi := Go.Lib.hid hbHSi; clear hbHSi
                            as_aux_lemma =>
                            ((try simp only [Bool.not_true, Bool.not_false, Bool.or_false, Bool.or_true, Bool.false_or, Bool.true_or, Bool.and_true, Bool.true_and, Bool.and_false, Bool.false_and]); (repeat (go_big_quiet_step ((first | (go_at_call 110; exact Calls.ext_eq (ref13_Of epoch cs HE.out _)) | (go_at_call 111; exact Calls.ext_of (ref13_Asked rc rs rk rkey rx rid _)) | (go_at_call 109; exact Calls.ext_of (ref13_sigsB sa scap sl _ (HSg.out.extN (by (repeat (first | with_reducible exact Ext.refl _ _ | assumption | with_reducible refine Ext.upN ?_ | with_reducible refine Ext.alloc ?_ _ | with_reducible refine Ext.upA (by assumption) ?_ | with_reducible refine Ext.upW ?_ | with_reducible refine Ext.drew ?_ | with_reducible refine Ext.drewN ?_ _ | with_reducible refine Ext.upF ?_ | with_reducible refine Ext.upFF (by first | omega | simp) ?_ | with_reducible refine Ext.setCellsF _ _ _ (by first | omega | simp) ?_ | with_reducible refine Ext.setCellF _ _ _ (by first | omega | simp) ?_ | with_reducible refine Ext.upFN (by first | omega | simp) ?_ | with_reducible refine Ext.up1F (by first | omega | simp) ?_ | with_reducible refine Ext.up1N (by first | omega | simp) ?_ | with_reducible refine Ext.setCell ?_ (.inr (by first | omega | simp)) _ | refine Ext.alloc ?_ _ | refine Ext.setCellF _ _ _ (by first | omega | simp) ?_ | refine Ext.setCell ?_ (.inr (by first | omega | simp)) _)))))))))))
                            (refine wpQuiet_nil ?_; intro _ hw'; obtain ⟨xq, hw''⟩ := hw'; subst hw'')
                            go_wp2
                            go_ret
                            exact ⟨ret_bool (by rw [YES.out, HLast.out]; exact (Bool.and_eq_false_iff.2 (.inl (fits_no_sigs _ _ _ HSi.out))).symm), by (repeat (first | with_reducible exact Ext.refl _ _ | assumption | with_reducible refine Ext.upN ?_ | with_reducible refine Ext.alloc ?_ _ | with_reducible refine Ext.upA (by assumption) ?_ | with_reducible refine Ext.upW ?_ | with_reducible refine Ext.drew ?_ | with_reducible refine Ext.drewN ?_ _ | with_reducible refine Ext.upF ?_ | with_reducible refine Ext.upFF (by first | omega | simp) ?_ | with_reducible refine Ext.setCellsF _ _ _ (by first | omega | simp) ?_ | with_reducible refine Ext.setCellF _ _ _ (by first | omega | simp) ?_ | with_reducible refine Ext.upFN (by first | omega | simp) ?_ | with_reducible refine Ext.up1F (by first | omega | simp) ?_ | with_reducible refine Ext.up1N (by first | omega | simp) ?_ | with_reducible refine Ext.setCell ?_ (.inr (by first | omega | simp)) _ | refine Ext.alloc ?_ _ | refine Ext.setCellF _ _ _ (by first | omega | simp) ?_ | refine Ext.setCell ?_ (.inr (by first | omega | simp)) _))⟩
                          · have HSi := Go.Lib.hid hbHSi; clear hbHSi
                            ((try simp only [Bool.not_true, Bool.not_false, Bool.or_false, Bool.or_true, Bool.false_or, Bool.true_or, Bool.and_true, Bool.true_and, Bool.and_false, Bool.false_and]); (repeat (go_big_quiet_step ((first | (go_at_call 110; exact Calls.ext_eq (ref13_Of epoch cs HE.out _)) | (go_at_call 111; exact Calls.ext_of (ref13_Asked rc rs rk rkey rx rid _)) | (go_at_call 109; exact Calls.ext_of (ref13_sigsB sa scap sl _ (HSg.out.extN (by (repeat (first | with_reducible exact Ext.refl _ _ | assumption | with_reducible refine Ext.upN ?_ | with_reducible refine Ext.alloc ?_ _ | with_reducible refine Ext.upA (by assumption) ?_ | with_reducible refine Ext.upW ?_ | with_reducible refine Ext.drew ?_ | with_reducible refine Ext.drewN ?_ _ | with_reducible refine Ext.upF ?_ | with_reducible refine Ext.upFF (by first | omega | simp) ?_ | with_reducible refine Ext.setCellsF _ _ _ (by first | omega | simp) ?_ | with_reducible refine Ext.setCellF _ _ _ (by first | omega | simp) ?_ | with_reducible refine Ext.upFN (by first | omega | simp) ?_ | with_reducible refine Ext.up1F (by first | omega | simp) ?_ | with_reducible refine Ext.up1N (by first | omega | simp) ?_ | with_reducible refine Ext.setCell ?_ (.inr (by first | omega | simp)) _ | refine Ext.alloc ?_ _ | refine Ext.setCellF _ _ _ (by first | omega | simp) ?_ | refine Ext.setCell ?_ (.inr (by first | omega | simp)) _)))))))))))
                            (refine wpQuiet_nil ?_; intro _ hw'; obtain ⟨xq, hw''⟩ := hw'; subst hw'')
                            go_wp2_with fail
                            go_roundw
                            case rel => exact ⟨i + 1, ⟨_, by (repeat (first | with_reducible exact Ext.refl _ _ | assumption | with_reducible refine Ext.upN ?_ | with_reducible refine Ext.alloc ?_ _ | with_reducible refine Ext.upA (by assumption) ?_ | with_reducible refine Ext.upW ?_ | with_reducible refine Ext.drew ?_ | with_reducible refine Ext.drewN ?_ _ | with_reducible refine Ext.upF ?_ | with_reducible refine Ext.upFF (by first | omega | simp) ?_ | with_reducible refine Ext.setCellsF _ _ _ (by first | omega | simp) ?_ | with_reducible refine Ext.setCellF _ _ _ (by first | omega | simp) ?_ | with_reducible refine Ext.upFN (by first | omega | simp) ?_ | with_reducible refine Ext.up1F (by first | omega | simp) ?_ | with_reducible refine Ext.up1N (by first | omega | simp) ?_ | with_reducible refine Ext.setCell ?_ (.inr (by first | omega | simp)) _ | refine Ext.alloc ?_ _ | refine Ext.setCellF _ _ _ (by first | omega | simp) ?_ | refine Ext.setCell ?_ (.inr (by first | omega | simp)) _))⟩, hlt, by go_num, rfl, Go.Lib.hid (by
                              have hsi := HSi.out
                              unfold sigsB at hsi
                              have hsi := Bool.and_eq_true_iff.1 hsi
                              have g0' : 0 ≤ cv := by have := of_decide_eq_false G0.out; omega
                              have g1' : cv ≤ 15 := by have := of_decide_eq_false G1.out; omega
                              rw [HLast.out, HSl.out]
                              show (fitsB epoch _ _ && _) = _
                              unfold fitsB headB; dsimp only
                              rw [HOf.out, HAs.out, decide_eq_true g0', decide_eq_true g1', hsi.1, hsi.2, decide_eq_true (show (0 : Int) < cs from HSlP.out HOf.out)]; simp)⟩
                            case measure => simp [intOf]; omega
                      · have G1 := Go.Lib.hid hbG1; clear hbG1
                        as_aux_lemma =>
                        ((try simp only [Bool.not_true, Bool.not_false, Bool.or_false, Bool.or_true, Bool.false_or, Bool.true_or, Bool.and_true, Bool.true_and, Bool.and_false, Bool.false_and]); (repeat (go_big_quiet_step ((first | (go_at_call 110; exact Calls.ext_eq (ref13_Of epoch cs HE.out _)) | (go_at_call 111; exact Calls.ext_of (ref13_Asked rc rs rk rkey rx rid _)) | (go_at_call 109; exact Calls.ext_of (ref13_sigsB sa scap sl _ (HSg.out.extN (by (repeat (first | with_reducible exact Ext.refl _ _ | assumption | with_reducible refine Ext.upN ?_ | with_reducible refine Ext.alloc ?_ _ | with_reducible refine Ext.upA (by assumption) ?_ | with_reducible refine Ext.upW ?_ | with_reducible refine Ext.drew ?_ | with_reducible refine Ext.drewN ?_ _ | with_reducible refine Ext.upF ?_ | with_reducible refine Ext.upFF (by first | omega | simp) ?_ | with_reducible refine Ext.setCellsF _ _ _ (by first | omega | simp) ?_ | with_reducible refine Ext.setCellF _ _ _ (by first | omega | simp) ?_ | with_reducible refine Ext.upFN (by first | omega | simp) ?_ | with_reducible refine Ext.up1F (by first | omega | simp) ?_ | with_reducible refine Ext.up1N (by first | omega | simp) ?_ | with_reducible refine Ext.setCell ?_ (.inr (by first | omega | simp)) _ | refine Ext.alloc ?_ _ | refine Ext.setCellF _ _ _ (by first | omega | simp) ?_ | refine Ext.setCell ?_ (.inr (by first | omega | simp)) _)))))))))))
                        (refine wpQuiet_nil ?_; intro _ hw'; obtain ⟨xq, hw''⟩ := hw'; subst hw'')
                        go_wp2
                        go_ret
                        exact ⟨ret_bool (by rw [YES.out, HLast.out]; exact (Bool.and_eq_false_iff.2 (.inl (by unfold fitsB headB; dsimp only; rw [decide_eq_false (show ¬ cv ≤ 15 by have := of_decide_eq_true G1.out; omega)]; simp))).symm), by (repeat (first | with_reducible exact Ext.refl _ _ | assumption | with_reducible refine Ext.upN ?_ | with_reducible refine Ext.alloc ?_ _ | with_reducible refine Ext.upA (by assumption) ?_ | with_reducible refine Ext.upW ?_ | with_reducible refine Ext.drew ?_ | with_reducible refine Ext.drewN ?_ _ | with_reducible refine Ext.upF ?_ | with_reducible refine Ext.upFF (by first | omega | simp) ?_ | with_reducible refine Ext.setCellsF _ _ _ (by first | omega | simp) ?_ | with_reducible refine Ext.setCellF _ _ _ (by first | omega | simp) ?_ | with_reducible refine Ext.upFN (by first | omega | simp) ?_ | with_reducible refine Ext.up1F (by first | omega | simp) ?_ | with_reducible refine Ext.up1N (by first | omega | simp) ?_ | with_reducible refine Ext.setCell ?_ (.inr (by first | omega | simp)) _ | refine Ext.alloc ?_ _ | refine Ext.setCellF _ _ _ (by first | omega | simp) ?_ | refine Ext.setCell ?_ (.inr (by first | omega | simp)) _))⟩
                    · have G0 := Go.Lib.hid hbG0; clear hbG0
                      as_aux_lemma =>
                      ((try simp only [Bool.not_true, Bool.not_false, Bool.or_false, Bool.or_true, Bool.false_or, Bool.true_or, Bool.and_true, Bool.true_and, Bool.and_false, Bool.false_and]); (repeat (go_big_quiet_step ((first | (go_at_call 110; exact Calls.ext_eq (ref13_Of epoch cs HE.out _)) | (go_at_call 111; exact Calls.ext_of (ref13_Asked rc rs rk rkey rx rid _)) | (go_at_call 109; exact Calls.ext_of (ref13_sigsB sa scap sl _ (HSg.out.extN (by (repeat (first | with_reducible exact Ext.refl _ _ | assumption | with_reducible refine Ext.upN ?_ | with_reducible refine Ext.alloc ?_ _ | with_reducible refine Ext.upA (by assumption) ?_ | with_reducible refine Ext.upW ?_ | with_reducible refine Ext.drew ?_ | with_reducible refine Ext.drewN ?_ _ | with_reducible refine Ext.upF ?_ | with_reducible refine Ext.upFF (by first | omega | simp) ?_ | with_reducible refine Ext.setCellsF _ _ _ (by first | omega | simp) ?_ | with_reducible refine Ext.setCellF _ _ _ (by first | omega | simp) ?_ | with_reducible refine Ext.upFN (by first | omega | simp) ?_ | with_reducible refine Ext.up1F (by first | omega | simp) ?_ | with_reducible refine Ext.up1N (by first | omega | simp) ?_ | with_reducible refine Ext.setCell ?_ (.inr (by first | omega | simp)) _ | refine Ext.alloc ?_ _ | refine Ext.setCellF _ _ _ (by first | omega | simp) ?_ | refine Ext.setCell ?_ (.inr (by first | omega | simp)) _)))))))))))
                      (refine wpQuiet_nil ?_; intro _ hw'; obtain ⟨xq, hw''⟩ := hw'; subst hw'')
                      go_wp2
                      go_ret
                      exact ⟨ret_bool (by rw [YES.out, HLast.out]; exact (Bool.and_eq_false_iff.2 (.inl (by unfold fitsB headB; dsimp only; rw [decide_eq_false (show ¬ 0 ≤ cv by have := of_decide_eq_true G0.out; omega)]; simp))).symm), by (repeat (first | with_reducible exact Ext.refl _ _ | assumption | with_reducible refine Ext.upN ?_ | with_reducible refine Ext.alloc ?_ _ | with_reducible refine Ext.upA (by assumption) ?_ | with_reducible refine Ext.upW ?_ | with_reducible refine Ext.drew ?_ | with_reducible refine Ext.drewN ?_ _ | with_reducible refine Ext.upF ?_ | with_reducible refine Ext.upFF (by first | omega | simp) ?_ | with_reducible refine Ext.setCellsF _ _ _ (by first | omega | simp) ?_ | with_reducible refine Ext.setCellF _ _ _ (by first | omega | simp) ?_ | with_reducible refine Ext.upFN (by first | omega | simp) ?_ | with_reducible refine Ext.up1F (by first | omega | simp) ?_ | with_reducible refine Ext.up1N (by first | omega | simp) ?_ | with_reducible refine Ext.setCell ?_ (.inr (by first | omega | simp)) _ | refine Ext.alloc ?_ _ | refine Ext.setCellF _ _ _ (by first | omega | simp) ?_ | refine Ext.setCell ?_ (.inr (by first | omega | simp)) _))⟩
              · go_wp2
                go_ret
                exact ⟨ret_bool (by rw [YES.out, HC.out, List.drop_eq_nil_of_le (by omega)]; rfl), by (repeat (first | with_reducible exact Ext.refl _ _ | assumption | with_reducible refine Ext.upN ?_ | with_reducible refine Ext.alloc ?_ _ | with_reducible refine Ext.upA (by assumption) ?_ | with_reducible refine Ext.upW ?_ | with_reducible refine Ext.drew ?_ | with_reducible refine Ext.drewN ?_ _ | with_reducible refine Ext.upF ?_ | with_reducible refine Ext.upFF (by first | omega | simp) ?_ | with_reducible refine Ext.setCellsF _ _ _ (by first | omega | simp) ?_ | with_reducible refine Ext.setCellF _ _ _ (by first | omega | simp) ?_ | with_reducible refine Ext.upFN (by first | omega | simp) ?_ | with_reducible refine Ext.up1F (by first | omega | simp) ?_ | with_reducible refine Ext.up1N (by first | omega | simp) ?_ | with_reducible refine Ext.setCell ?_ (.inr (by first | omega | simp)) _ | refine Ext.alloc ?_ _ | refine Ext.setCellF _ _ _ (by first | omega | simp) ?_ | refine Ext.setCell ?_ (.inr (by first | omega | simp)) _))⟩
          · have h7i : (4 : Int) < ((certs.length : Nat) : Int) := by omega
            have HG := Go.Lib.hid (NO.out (by rw [HT.out, decide_eq_false h7]; simp))
            go_enter Try.func63, Try.ntmps63
            go_wp2
            go_ret
            exact ⟨ret_bool HG.out.symm, by (repeat (first | with_reducible exact Ext.refl _ _ | assumption | with_reducible refine Ext.upN ?_ | with_reducible refine Ext.alloc ?_ _ | with_reducible refine Ext.upA (by assumption) ?_ | with_reducible refine Ext.upW ?_ | with_reducible refine Ext.drew ?_ | with_reducible refine Ext.drewN ?_ _ | with_reducible refine Ext.upF ?_ | with_reducible refine Ext.upFF (by first | omega | simp) ?_ | with_reducible refine Ext.setCellsF _ _ _ (by first | omega | simp) ?_ | with_reducible refine Ext.setCellF _ _ _ (by first | omega | simp) ?_ | with_reducible refine Ext.upFN (by first | omega | simp) ?_ | with_reducible refine Ext.up1F (by first | omega | simp) ?_ | with_reducible refine Ext.up1N (by first | omega | simp) ?_ | with_reducible refine Ext.setCell ?_ (.inr (by first | omega | simp)) _ | refine Ext.alloc ?_ _ | refine Ext.setCellF _ _ _ (by first | omega | simp) ?_ | refine Ext.setCell ?_ (.inr (by first | omega | simp)) _))⟩
        · have HG := Go.Lib.hid (NO.out (by rw [HT.out, decide_eq_false h6]; simp))
          have hn : 15 < view := by omega
          go_enter Try.func63, Try.ntmps63
          go_wp2
          go_ret
          exact ⟨ret_bool HG.out.symm, by (repeat (first | with_reducible exact Ext.refl _ _ | assumption | with_reducible refine Ext.upN ?_ | with_reducible refine Ext.alloc ?_ _ | with_reducible refine Ext.upA (by assumption) ?_ | with_reducible refine Ext.upW ?_ | with_reducible refine Ext.drew ?_ | with_reducible refine Ext.drewN ?_ _ | with_reducible refine Ext.upF ?_ | with_reducible refine Ext.upFF (by first | omega | simp) ?_ | with_reducible refine Ext.setCellsF _ _ _ (by first | omega | simp) ?_ | with_reducible refine Ext.setCellF _ _ _ (by first | omega | simp) ?_ | with_reducible refine Ext.upFN (by first | omega | simp) ?_ | with_reducible refine Ext.up1F (by first | omega | simp) ?_ | with_reducible refine Ext.up1N (by first | omega | simp) ?_ | with_reducible refine Ext.setCell ?_ (.inr (by first | omega | simp)) _ | refine Ext.alloc ?_ _ | refine Ext.setCellF _ _ _ (by first | omega | simp) ?_ | refine Ext.setCell ?_ (.inr (by first | omega | simp)) _))⟩
      · have HG := Go.Lib.hid (NO.out (by rw [HT.out, decide_eq_false h5]; simp))
        have hn : view < 1 := by omega
        go_enter Try.func63, Try.ntmps63
        go_wp2
        go_ret
        exact ⟨ret_bool HG.out.symm, by (repeat (first | with_reducible exact Ext.refl _ _ | assumption | with_reducible refine Ext.upN ?_ | with_reducible refine Ext.alloc ?_ _ | with_reducible refine Ext.upA (by assumption) ?_ | with_reducible refine Ext.upW ?_ | with_reducible refine Ext.drew ?_ | with_reducible refine Ext.drewN ?_ _ | with_reducible refine Ext.upF ?_ | with_reducible refine Ext.upFF (by first | omega | simp) ?_ | with_reducible refine Ext.setCellsF _ _ _ (by first | omega | simp) ?_ | with_reducible refine Ext.setCellF _ _ _ (by first | omega | simp) ?_ | with_reducible refine Ext.upFN (by first | omega | simp) ?_ | with_reducible refine Ext.up1F (by first | omega | simp) ?_ | with_reducible refine Ext.up1N (by first | omega | simp) ?_ | with_reducible refine Ext.setCell ?_ (.inr (by first | omega | simp)) _ | refine Ext.alloc ?_ _ | refine Ext.setCellF _ _ _ (by first | omega | simp) ?_ | refine Ext.setCell ?_ (.inr (by first | omega | simp)) _))⟩
    · have HG := Go.Lib.hid (NO.out (by rw [HT.out, decide_eq_false h4]; simp))
      have hn : 16 ≤ from_ := by omega
      go_enter Try.func63, Try.ntmps63
      go_wp2
      go_ret
      exact ⟨ret_bool HG.out.symm, by (repeat (first | with_reducible exact Ext.refl _ _ | assumption | with_reducible refine Ext.upN ?_ | with_reducible refine Ext.alloc ?_ _ | with_reducible refine Ext.upA (by assumption) ?_ | with_reducible refine Ext.upW ?_ | with_reducible refine Ext.drew ?_ | with_reducible refine Ext.drewN ?_ _ | with_reducible refine Ext.upF ?_ | with_reducible refine Ext.upFF (by first | omega | simp) ?_ | with_reducible refine Ext.setCellsF _ _ _ (by first | omega | simp) ?_ | with_reducible refine Ext.setCellF _ _ _ (by first | omega | simp) ?_ | with_reducible refine Ext.upFN (by first | omega | simp) ?_ | with_reducible refine Ext.up1F (by first | omega | simp) ?_ | with_reducible refine Ext.up1N (by first | omega | simp) ?_ | with_reducible refine Ext.setCell ?_ (.inr (by first | omega | simp)) _ | refine Ext.alloc ?_ _ | refine Ext.setCellF _ _ _ (by first | omega | simp) ?_ | refine Ext.setCell ?_ (.inr (by first | omega | simp)) _))⟩
  · have HG := Go.Lib.hid (NO.out (by rw [HT.out, decide_eq_false h3]; simp))
    have hn : from_ < 0 := by omega
    go_enter Try.func63, Try.ntmps63
    go_wp2
    go_ret
    exact ⟨ret_bool HG.out.symm, by (repeat (first | with_reducible exact Ext.refl _ _ | assumption | with_reducible refine Ext.upN ?_ | with_reducible refine Ext.alloc ?_ _ | with_reducible refine Ext.upA (by assumption) ?_ | with_reducible refine Ext.upW ?_ | with_reducible refine Ext.drew ?_ | with_reducible refine Ext.drewN ?_ _ | with_reducible refine Ext.upF ?_ | with_reducible refine Ext.upFF (by first | omega | simp) ?_ | with_reducible refine Ext.setCellsF _ _ _ (by first | omega | simp) ?_ | with_reducible refine Ext.setCellF _ _ _ (by first | omega | simp) ?_ | with_reducible refine Ext.upFN (by first | omega | simp) ?_ | with_reducible refine Ext.up1F (by first | omega | simp) ?_ | with_reducible refine Ext.up1N (by first | omega | simp) ?_ | with_reducible refine Ext.setCell ?_ (.inr (by first | omega | simp)) _ | refine Ext.alloc ?_ _ | refine Ext.setCellF _ _ _ (by first | omega | simp) ?_ | refine Ext.setCell ?_ (.inr (by first | omega | simp)) _))⟩
end Go.Proofs.Ytakbkpklfihfiaa

/- Worlds that grew behind a writer: 'y : EW (WB n0 b w) w'. A block that the writer does not write is told by NW; simp reads its cells through any number of such worlds. -/
namespace Go.Proofs.Ytakbkpklfihfiaa
open Go.RowKit
set_option linter.unusedVariables false

/-- Block k is there, and not the writer's. -/
def NW (n0 b : Nat) (w : World) (k : Nat) : Prop := k < w.heap.size ∧ ¬ WB n0 b w k
theorem NW.old {n0 b : Nat} {w : World} {k : Nat} (hk : k < n0) (hb : n0 ≤ b) (hw : n0 ≤ w.heap.size) : NW n0 b w k :=
  ⟨by omega, fun h => by rcases h with h | h; omega; have := h.1; omega⟩
theorem NW.box {n0 b : Nat} {w : World} {k : Nat} {c : Array Value} {t : TypeId} {fr : Nat × Nat} (h : w.heap[k]? = some (.cells c t fr)) (hk : k ≠ b) (ht : t ≠ 5) : NW n0 b w k :=
  ⟨(Array.getElem?_eq_some_iff.1 h).1, WB.other h hk ht⟩
theorem NW.new {n0 b : Nat} {w : World} {k : Nat} (c : Array Value) (t : TypeId) (hk : k = w.heap.size) (hb : b < w.heap.size) (ht : t ≠ 5) : NW n0 b (w.alloc (.cells c t)) k := by
  subst hk
  exact NW.box (heap_alloc_new _ _) (by omega) ht
theorem NW.ext {S : Nat → Prop} {n0 b : Nat} {w w' : World} {k : Nat} (h : NW n0 b w k) (x : Ext S w w') (hs : ¬ S k) : NW n0 b w' k :=
  ⟨Nat.lt_of_lt_of_le h.1 x.size, fun hb => h.2 (by
    rcases hb with e | ⟨h1, cs, fr, h2⟩
    · exact .inl e
    · exact .inr ⟨h1, cs, fr, (x.block k h.1 hs).symm.trans h2⟩)⟩
/-- What is NW in the later world alone. -/
def restN (n0 b : Nat) (w w' : World) (k : Nat) : Prop := NW n0 b w' k ∧ ¬ NW n0 b w k
theorem NW.or {S : Nat → Prop} {n0 b : Nat} {w w' : World} (x : Ext S w w') (k : Nat) (hs : NW n0 b w k → ¬ S k) : NW n0 b w' k = (NW n0 b w k ∨ restN n0 b w w' k) := by
  apply propext
  constructor
  · intro h
    by_cases g : NW n0 b w k
    · exact .inl g
    · exact .inr ⟨h, g⟩
  · rintro (h | h)
    · exact h.ext x (hs h)
    · exact h.1
theorem NW.ewN {n0 b : Nat} {w : World} (x : EW Non w) (k : Nat) : NW n0 b x.on k = (NW n0 b w k ∨ restN n0 b w x.on k) := NW.or x.ext k (fun _ f => f)
theorem NW.ewW {n0 b : Nat} {w : World} (x : EW (WB n0 b w) w) (k : Nat) : NW n0 b x.on k = (NW n0 b w k ∨ restN n0 b w x.on k) := NW.or x.ext k (fun h => h.2)
theorem NW.alloc {n0 b : Nat} {w : World} (o : Obj) (k : Nat) : NW n0 b (w.alloc o) k = (NW n0 b w k ∨ restN n0 b w (w.alloc o) k) := NW.or ((Ext.refl Non w).alloc o) k (fun _ f => f)
open Classical in
/-- A cell that the writer may have written. -/
noncomputable def restW (n0 b : Nat) (w w' : World) (p : Addr) : Option Value := w'.cell? p
open Classical in
theorem EW.cellW {n0 b : Nat} {w : World} (x : EW (WB n0 b w) w) (k i : Nat) (s : Option Nat) : x.on.cell? ⟨k, i, s⟩ = if NW n0 b w k then w.cell? ⟨k, i, s⟩ else restW n0 b w x.on ⟨k, i, s⟩ := by
  by_cases h : NW n0 b w k
  · rw [if_pos h]; exact x.ext.cell h.1 h.2
  · rw [if_neg h]; rfl
open Classical in
theorem EW.frozW {n0 b : Nat} {w : World} (x : EW (WB n0 b w) w) (k i : Nat) (s : Option Nat) : x.on.frozen? ⟨k, i, s⟩ = if NW n0 b w k then w.frozen? ⟨k, i, s⟩ else restF w x.on ⟨k, i, s⟩ := by
  by_cases h : NW n0 b w k
  · rw [if_pos h]; exact x.ext.froz h.1 h.2
  · rw [if_neg h]; rfl
theorem Ext.upW {n0 b : Nat} {a w : World} {x : EW (WB n0 b w) w} (h : Ext (WB n0 b a) a w) : Ext (WB n0 b a) a x.on := h.wtrans x.ext
/-- A writer's world, seen from ahead of the writer. -/
structure Ahead (n0 b : Nat) (a : World) : Prop where
  n : a.heap.size ≤ n0
  b : n0 ≤ b
theorem Ext.upA {n0 b : Nat} {a w : World} {x : EW (WB n0 b w) w} (hb : Ahead n0 b a) (h : Ext Non a w) : Ext Non a x.on :=
  h.step x.ext fun i hi s => by
    have := hb.n; have := hb.b
    rcases s with s | s
    · omega
    · have := s.1; omega
theorem PW.base_le' {w : World} {n0 b : Nat} {W : Wr} (h : PW w n0 b W) : n0 ≤ w.heap.size := Nat.le_trans h.nb (Nat.le_of_lt h.lt)
theorem RW.base_le {w : World} {n0 b : Nat} {W : Wr} (h : RW w n0 b W) : n0 ≤ w.heap.size := Nat.le_trans h.nb (Nat.le_of_lt h.lt)
end Go.Proofs.Ytakbkpklfihfiaa

/- Contracts of the reference of layer 16: the text that a change signs. -/
namespace Go.Proofs.Ytakbkpklfihfiaa
open Go.RowKit Go.Lib F64
set_option linter.unusedSimpArgs false
set_option linter.unusedVariables false
attribute [local go_sem] run_store_float
attribute [local go_sem low] EW.cellN EW.frozN alloc_cell_or alloc_froz_or EW.cellW EW.frozW NW.ewN NW.ewW NW.alloc
theorem mayB_sig (epoch from_ view by_ : Int) (text : ByteArray) (certs : List Ct) : mayB epoch ⟨from_, view, certs, 0, ByteArray.empty⟩ = mayB epoch ⟨from_, view, certs, by_, text⟩ := rfl
set_option maxHeartbeats 4000000 in
set_option maxRecDepth 100000 in
theorem ref16_Text (epoch from_ view by_ : Int) (text : ByteArray) (ca : Option Addr) (ccap : Nat) (certs : List Ct) (hie : I64 epoch) (hif : I64 from_) (hiv : I64 view) (w : World) (h : Certs w ca ccap certs) :
    Calls Try.prog 16 #[.int .i64 epoch, .agg #[.int .i64 from_, .int .i64 view, .slice ca certs.length ccap, .int .i64 by_, .string text]] w fun e w' =>
    e = .returned (.tuple #[.string (chS epoch ⟨from_, view, certs, by_, text⟩), .int .i64 (chE epoch ⟨from_, view, certs, by_, text⟩)]) ∧ Ext Non w w' := by
  have HH := Go.Lib.hid h
  have HI := Go.Lib.hid (And.intro hie (And.intro hif hiv))
  have hsm := h.small; have hsl := h.le
  have NO : Hid (mayB epoch ⟨from_, view, certs, by_, text⟩ = false → chS epoch ⟨from_, view, certs, by_, text⟩ = ⟨#[]⟩ ∧ chE epoch ⟨from_, view, certs, by_, text⟩ = 1) := Go.Lib.hid (fun hf => by unfold chS chE; rw [hf]; exact ⟨rfl, rfl⟩)
  have NT : Hid (topB epoch ⟨from_, view, certs, by_, text⟩ = (decide (0 ≤ epoch) && decide (epoch ≤ 60) && decide (0 ≤ from_) && decide (from_ < 16) && decide (1 ≤ view) && decide (view ≤ 15) && decide (certs.length ≤ 4))) := Go.Lib.hid rfl
  clear h hie hif hiv
  by_cases h1 : 0 ≤ epoch
  · by_cases h2 : epoch ≤ 60
    · go_enter Try.func16, Try.ntmps16
      go_wp2_with fail
      refine Calls.ew (ref13_Change epoch from_ view 0 ByteArray.empty ca ccap certs ⟨h1, h2⟩ (by omega) (by decide) _ (HH.out.extN (by (repeat (first | with_reducible exact Ext.refl _ _ | assumption | with_reducible refine Ext.upN ?_ | with_reducible refine Ext.alloc ?_ _ | with_reducible refine Ext.upA (by assumption) ?_ | with_reducible refine Ext.upW ?_ | with_reducible refine Ext.drew ?_ | with_reducible refine Ext.drewN ?_ _ | with_reducible refine Ext.upF ?_ | with_reducible refine Ext.upFF (by first | omega | simp) ?_ | with_reducible refine Ext.setCellsF _ _ _ (by first | omega | simp) ?_ | with_reducible refine Ext.setCellF _ _ _ (by first | omega | simp) ?_ | with_reducible refine Ext.upFN (by first | omega | simp) ?_ | with_reducible refine Ext.up1F (by first | omega | simp) ?_ | with_reducible refine Ext.up1N (by first | omega | simp) ?_ | with_reducible refine Ext.setCell ?_ (.inr (by first | omega | simp)) _ | refine Ext.alloc ?_ _ | refine Ext.setCellF _ _ _ (by first | omega | simp) ?_ | refine Ext.setCell ?_ (.inr (by first | omega | simp)) _))))) ?_
      rintro e x1 rfl
      rw [mayB_sig epoch from_ view by_ text certs]
      cases hm : mayB epoch ⟨from_, view, certs, by_, text⟩
      · as_aux_lemma =>
        have HX := Go.Lib.hid (NO.out hm)
        clear hm
        go_wp2
        go_returns
        exact ⟨by rw [HX.out.1, HX.out.2]; rfl, by (repeat (first | with_reducible exact Ext.refl _ _ | assumption | with_reducible refine Ext.upN ?_ | with_reducible refine Ext.alloc ?_ _ | with_reducible refine Ext.upA (by assumption) ?_ | with_reducible refine Ext.upW ?_ | with_reducible refine Ext.drew ?_ | with_reducible refine Ext.drewN ?_ _ | with_reducible refine Ext.upF ?_ | with_reducible refine Ext.upFF (by first | omega | simp) ?_ | with_reducible refine Ext.setCellsF _ _ _ (by first | omega | simp) ?_ | with_reducible refine Ext.setCellF _ _ _ (by first | omega | simp) ?_ | with_reducible refine Ext.upFN (by first | omega | simp) ?_ | with_reducible refine Ext.up1F (by first | omega | simp) ?_ | with_reducible refine Ext.up1N (by first | omega | simp) ?_ | with_reducible refine Ext.setCell ?_ (.inr (by first | omega | simp)) _ | refine Ext.alloc ?_ _ | refine Ext.setCellF _ _ _ (by first | omega | simp) ?_ | refine Ext.setCell ?_ (.inr (by first | omega | simp)) _))⟩
      · as_aux_lemma =>
        have HM := Go.Lib.hid hm; clear hm
        go_wp2_with fail
        obtain ⟨n0, hn0⟩ : ∃ n0, n0 = x1.on.heap.size := ⟨_, rfl⟩
        have hlt0 : w.heap.size < n0 := by rw [hn0]; have := x1.ext.size; simp at this; omega
        have HN0 := Go.Lib.hid hn0; clear hn0
        refine (refw_New 65535 (by decide) n0 _ (Nat.le_of_eq HN0.out)).mono ?_
        rintro e _ ⟨b, rfl, x, p, hnb⟩
        have HA : Ahead n0 b w := ⟨Nat.le_of_lt hlt0, by rw [HN0.out]; exact hnb⟩
        have PP := Go.Lib.hid p; clear p
        obtain ⟨x2, rfl⟩ := x.ew
        have hnw : NW n0 b x2.on w.heap.size := NW.old hlt0 HA.b PP.out.base_le
        have HNW := Go.Lib.hid (show ∀ k, k < w.heap.size → NW n0 b x2.on k from fun k hk => NW.old (by omega) HA.b PP.out.base_le)
        clear hnb
        go_wp2_with fail
        refine (refw_Num1 n0 b _ 86 (by unfold I64; omega) _ PP.out PP.out.base_le).mono ?_
        rintro e _ ⟨rfl, ⟨p, x⟩⟩
        clear PP
        have PP := Go.Lib.hid p; clear p
        obtain ⟨y, rfl⟩ := x.ew
        go_wp2_with fail
        refine (refw_Num2 n0 b _ epoch HI.out.1 _ PP.out PP.out.base_le).mono ?_
        rintro e _ ⟨rfl, ⟨p, x⟩⟩
        clear PP
        have PP := Go.Lib.hid p; clear p
        obtain ⟨y, rfl⟩ := x.ew
        go_wp2_with fail
        refine (refw_Num1 n0 b _ from_ HI.out.2.1 _ PP.out PP.out.base_le).mono ?_
        rintro e _ ⟨rfl, ⟨p, x⟩⟩
        clear PP
        have PP := Go.Lib.hid p; clear p
        obtain ⟨y, rfl⟩ := x.ew
        go_wp2_with fail
        refine (refw_Num1 n0 b _ view HI.out.2.2 _ PP.out PP.out.base_le).mono ?_
        rintro e _ ⟨rfl, ⟨p, x⟩⟩
        clear PP
        have PP := Go.Lib.hid p; clear p
        obtain ⟨y, rfl⟩ := x.ew
        go_wp2_with fail
        refine (refw_Num1 n0 b _ certs.length (by unfold I64; omega) _ PP.out PP.out.base_le).mono ?_
        rintro e _ ⟨rfl, ⟨p, x⟩⟩
        clear PP
        have PP := Go.Lib.hid p; clear p
        obtain ⟨y, rfl⟩ := x.ew
        go_wp2_with fail
        have PP' : Hid (RW y.on n0 b (wTop epoch ⟨from_, view, certs, by_, text⟩)) := Go.Lib.hid PP.out
        clear PP
        generalize hW0 : wTop epoch ⟨from_, view, certs, by_, text⟩ = W0 at *
        have HW0 := Go.Lib.hid hW0; clear hW0
        go_loopw [8] (fun iv wr => ∃ (i : Nat) (z : EW (WB n0 b y.on) y.on), i ≤ certs.length ∧ iv = .int .i64 i ∧ wr = z.on ∧ Hid (RW wr n0 b (wCerts W0 (certs.take i)))) (fun iv _ => certs.length - (intOf iv).toNat)
        case atStart => exact ⟨0, ⟨_, Ext.refl _ _⟩, Nat.zero_le _, rfl, rfl, PP'⟩
        case round =>
          obtain ⟨i, z, hi, rfl, rfl, PP⟩ := hrel
          clear PP'
          by_cases hlt : i < certs.length
          · obtain ⟨cb, co, sa, scap, rfl, hcb, hcells, hsg, hro, hvi, hsi⟩ := HH.out.at_ i hlt
            have HTk := Go.Lib.hid (wCerts_take W0 certs i hlt)
            generalize hct : ctAt certs i = ct at *
            obtain ⟨cv, cs, ⟨rc, rs, ⟨rk, rkey, rx, rid⟩⟩, sl⟩ := ct
            clear hct
            have z0 : w.cell? ⟨cb, co + i * 9, none⟩ = some (.int .i64 cv) := hcells 0 _ rfl
            have z1 : w.cell? ⟨cb, co + i * 9 + 1, none⟩ = some (.int .i64 cs) := hcells 1 _ rfl
            have z2 : w.cell? ⟨cb, co + i * 9 + 2, none⟩ = some (.int .i64 rc) := hcells 2 _ rfl
            have z3 : w.cell? ⟨cb, co + i * 9 + 3, none⟩ = some (.int .i64 rs) := hcells 3 _ rfl
            have z4 : w.cell? ⟨cb, co + i * 9 + 4, none⟩ = some (.int .i64 rk) := hcells 4 _ rfl
            have z5 : w.cell? ⟨cb, co + i * 9 + 5, none⟩ = some (.string rkey) := hcells 5 _ rfl
            have z6 : w.cell? ⟨cb, co + i * 9 + 6, none⟩ = some (.float .f64 rx) := hcells 6 _ rfl
            have z7 : w.cell? ⟨cb, co + i * 9 + 7, none⟩ = some (.int .i64 rid) := hcells 7 _ rfl
            have z8 : w.cell? ⟨cb, co + i * 9 + 8, none⟩ = some (.slice sa sl.length scap) := hcells 8 _ rfl
            have hcbn : NW n0 b x2.on cb := HNW.out cb hcb
            have HSg : Hid (Sigs w sa scap sl) := Go.Lib.hid hsg
            have HRo : Hid (ReqOk ⟨rc, rs, ⟨rk, rkey, rx, rid⟩⟩) := Go.Lib.hid hro; have HVS : Hid (I64 cv ∧ I64 cs) := Go.Lib.hid (And.intro hvi hsi)
            have hsgm := hsg.small; have hsgl := hsg.le
            clear hcells hsg hro hvi hsi
            have hbx : NW n0 b (z.on.alloc (.cells #[.int .i64 cv, .int .i64 cs, .int .i64 rc, .int .i64 rs, .int .i64 rk, .string rkey, .float .f64 rx, .int .i64 rid, .slice sa sl.length scap] 52)) z.on.heap.size := NW.new _ _ rfl PP.out.lt (by decide)
            go_wp2_with fail
            have PP' := Go.Lib.hid (PP.out.extN ((Ext.refl Non _).alloc (.cells #[.int .i64 cv, .int .i64 cs, .int .i64 rc, .int .i64 rs, .int .i64 rk, .string rkey, .float .f64 rx, .int .i64 rid, .slice sa sl.length scap] 52)))
            clear PP; have PP := PP'; clear PP'
            refine (refw_Num1 n0 b _ cv HVS.out.1 _ PP.out PP.out.base_le).mono ?_
            rintro e _ ⟨rfl, ⟨p, x⟩⟩
            clear PP
            have PP := Go.Lib.hid p; clear p
            obtain ⟨y1, rfl⟩ := x.ew
            go_wp2_with fail
            refine (refw_Num2 n0 b _ cs HVS.out.2 _ PP.out PP.out.base_le).mono ?_
            rintro e _ ⟨rfl, ⟨p, x⟩⟩
            clear PP
            have PP := Go.Lib.hid p; clear p
            obtain ⟨y2, rfl⟩ := x.ew
            go_wp2_with fail
            refine Calls.ew (ref_Text rc rs rk rkey rx rid HRo.out.c HRo.out.s HRo.out.k HRo.out.id HRo.out.x HRo.out.key _) ?_
            rintro e y3 rfl
            have PP' := Go.Lib.hid (PP.out.extN y3.ext)
            clear PP; have PP := PP'; clear PP'
            have HRS := Go.Lib.hid (reqS_list ⟨rc, rs, ⟨rk, rkey, rx, rid⟩⟩); have HRZ := Go.Lib.hid (reqS_size ⟨rc, rs, ⟨rk, rkey, rx, rid⟩⟩)
            generalize reqE ⟨rc, rs, ⟨rk, rkey, rx, rid⟩⟩ = re at *
            generalize hrs : reqS ⟨rc, rs, ⟨rk, rkey, rx, rid⟩⟩ = rst at *
            clear hrs
            go_wp2_with fail
            refine (refw_Text n0 b _ rst (by have := HRZ.out; omega) _ PP.out PP.out.base_le).mono ?_
            rintro e _ ⟨rfl, ⟨p, x⟩⟩
            clear PP
            have PP := Go.Lib.hid p; clear p
            obtain ⟨y4, rfl⟩ := x.ew
            rw [HRS.out] at PP
            go_wp2_with fail
            refine (refw_Num1 n0 b _ sl.length (by unfold I64; omega) _ PP.out PP.out.base_le).mono ?_
            rintro e _ ⟨rfl, ⟨p, x⟩⟩
            clear PP
            have PP := Go.Lib.hid p; clear p
            obtain ⟨y5, rfl⟩ := x.ew
            go_wp2_with fail
            generalize hW5 : byteW (textW (wordW (byteW (wCerts W0 (certs.take i)) cv) cs) (reqL ⟨rc, rs, ⟨rk, rkey, rx, rid⟩⟩)) sl.length = W5 at *
            have HW5 := Go.Lib.hid hW5; clear hW5
            go_loopw [12] (fun iv wr => ∃ (j : Nat) (z2 : EW (WB n0 b y5.on) y5.on), j ≤ sl.length ∧ iv = .int .i64 j ∧ wr = z2.on ∧ Hid (RW wr n0 b (wSigs W5 (sl.take j)))) (fun iv _ => sl.length - (intOf iv).toNat)
            case atStart => exact ⟨0, ⟨_, Ext.refl _ _⟩, Nat.zero_le _, rfl, rfl, PP⟩
            case round =>
              obtain ⟨j, z2, hj, rfl, rfl, P4⟩ := hrel
              clear PP
              by_cases hjl : j < sl.length
              · obtain ⟨sb, so, rfl, hsb, c0, c1, hI, hT⟩ := HSg.out.at_ j hjl
                have HTj := Go.Lib.hid (wSigs_take W5 sl j hjl)
                generalize hsgj : sgAt sl j = sg at *
                obtain ⟨by2, tx⟩ := sg
                clear hsgj
                have HIT : Hid (I64 by2 ∧ tx.size ≤ 9223372036854775807) := Go.Lib.hid ⟨hI, hT⟩
                have d0 : w.cell? ⟨sb, so + j * 2, none⟩ = some (.int .i64 by2) := c0
                have d1 : w.cell? ⟨sb, so + j * 2 + 1, none⟩ = some (.string tx) := c1
                have hsbn : NW n0 b x2.on sb := HNW.out sb hsb
                clear c0 c1 hI hT
                go_wp2_with fail
                refine (refw_Num1 n0 b _ by2 HIT.out.1 _ P4.out P4.out.base_le).mono ?_
                rintro e _ ⟨rfl, ⟨p, x⟩⟩
                clear P4
                have P4 := Go.Lib.hid p; clear p
                obtain ⟨y6, rfl⟩ := x.ew
                go_wp2_with fail
                refine (refw_Text n0 b _ tx HIT.out.2 _ P4.out P4.out.base_le).mono ?_
                rintro e _ ⟨rfl, ⟨p, x⟩⟩
                have PZ : Hid (RW _ n0 b (wSigs W5 (sl.take (j + 1)))) := Go.Lib.hid (by rw [HTj.out]; exact p)
                clear P4 p
                obtain ⟨y7, rfl⟩ := x.ew
                go_wp2_with fail
                go_roundw
                case rel => exact ⟨j + 1, ⟨_, by (repeat (first | with_reducible exact Ext.refl _ _ | assumption | with_reducible refine Ext.upN ?_ | with_reducible refine Ext.alloc ?_ _ | with_reducible refine Ext.upA (by assumption) ?_ | with_reducible refine Ext.upW ?_ | with_reducible refine Ext.drew ?_ | with_reducible refine Ext.drewN ?_ _ | with_reducible refine Ext.upF ?_ | with_reducible refine Ext.upFF (by first | omega | simp) ?_ | with_reducible refine Ext.setCellsF _ _ _ (by first | omega | simp) ?_ | with_reducible refine Ext.setCellF _ _ _ (by first | omega | simp) ?_ | with_reducible refine Ext.upFN (by first | omega | simp) ?_ | with_reducible refine Ext.up1F (by first | omega | simp) ?_ | with_reducible refine Ext.up1N (by first | omega | simp) ?_ | with_reducible refine Ext.setCell ?_ (.inr (by first | omega | simp)) _ | refine Ext.alloc ?_ _ | refine Ext.setCellF _ _ _ (by first | omega | simp) ?_ | refine Ext.setCell ?_ (.inr (by first | omega | simp)) _))⟩, hjl, by go_num, rfl, PZ⟩
                case measure => simp [intOf]; omega
              · have PZ : Hid (RW z2.on n0 b (wCerts W0 (certs.take (i + 1)))) := Go.Lib.hid (by
                  have := P4.out
                  rw [List.take_of_length_le (by omega : sl.length ≤ j)] at this
                  rw [HTk.out, show wCert (wCerts W0 (certs.take i)) ⟨cv, cs, ⟨rc, rs, ⟨rk, rkey, rx, rid⟩⟩, sl⟩ = wSigs (byteW (textW (wordW (byteW (wCerts W0 (certs.take i)) cv) cs) (reqL ⟨rc, rs, ⟨rk, rkey, rx, rid⟩⟩)) sl.length) sl from rfl, HW5.out]
                  exact this)
                go_wp2_with fail
                go_roundw
                case rel => exact ⟨i + 1, ⟨_, by (repeat (first | with_reducible exact Ext.refl _ _ | assumption | with_reducible refine Ext.upN ?_ | with_reducible refine Ext.alloc ?_ _ | with_reducible refine Ext.upA (by assumption) ?_ | with_reducible refine Ext.upW ?_ | with_reducible refine Ext.drew ?_ | with_reducible refine Ext.drewN ?_ _ | with_reducible refine Ext.upF ?_ | with_reducible refine Ext.upFF (by first | omega | simp) ?_ | with_reducible refine Ext.setCellsF _ _ _ (by first | omega | simp) ?_ | with_reducible refine Ext.setCellF _ _ _ (by first | omega | simp) ?_ | with_reducible refine Ext.upFN (by first | omega | simp) ?_ | with_reducible refine Ext.up1F (by first | omega | simp) ?_ | with_reducible refine Ext.up1N (by first | omega | simp) ?_ | with_reducible refine Ext.setCell ?_ (.inr (by first | omega | simp)) _ | refine Ext.alloc ?_ _ | refine Ext.setCellF _ _ _ (by first | omega | simp) ?_ | refine Ext.setCell ?_ (.inr (by first | omega | simp)) _))⟩, hlt, by go_num, rfl, PZ⟩
                case measure => simp [intOf]; omega
          · have PZ : Hid (RW z.on n0 b (chW epoch ⟨from_, view, certs, by_, text⟩)) := Go.Lib.hid (by
              have := PP.out
              rw [List.take_of_length_le (by omega : certs.length ≤ i), ← HW0.out] at this
              exact this)
            clear PP
            go_wp2_with fail
            refine Calls.ew (refw_Done _ _ _ _ PZ.out) ?_
            rintro e xz rfl
            have HS2 : Hid (chS epoch ⟨from_, view, certs, by_, text⟩ = doneS (chW epoch ⟨from_, view, certs, by_, text⟩) ∧ chE epoch ⟨from_, view, certs, by_, text⟩ = if (chW epoch ⟨from_, view, certs, by_, text⟩).err = 0 then 0 else 3) := Go.Lib.hid (by unfold chS chE; rw [HM.out]; exact ⟨rfl, rfl⟩)
            have HDn : Hid ((chW epoch ⟨from_, view, certs, by_, text⟩).err ≠ 0 → doneS (chW epoch ⟨from_, view, certs, by_, text⟩) = ⟨#[]⟩) := Go.Lib.hid (fun h => by unfold doneS; rw [if_neg h])
            clear PZ
            generalize chW epoch ⟨from_, view, certs, by_, text⟩ = WW at *
            by_cases he : WW.err = 0
            · have HE := Go.Lib.hid he
              rw [he]
              generalize doneS WW = ds at *
              clear he
              go_wp2
              go_returns
              exact ⟨by rw [HS2.out.1, HS2.out.2, HE.out]; rfl, by (repeat (first | with_reducible exact Ext.refl _ _ | assumption | with_reducible refine Ext.upN ?_ | with_reducible refine Ext.alloc ?_ _ | with_reducible refine Ext.upA (by assumption) ?_ | with_reducible refine Ext.upW ?_ | with_reducible refine Ext.drew ?_ | with_reducible refine Ext.drewN ?_ _ | with_reducible refine Ext.upF ?_ | with_reducible refine Ext.upFF (by first | omega | simp) ?_ | with_reducible refine Ext.setCellsF _ _ _ (by first | omega | simp) ?_ | with_reducible refine Ext.setCellF _ _ _ (by first | omega | simp) ?_ | with_reducible refine Ext.upFN (by first | omega | simp) ?_ | with_reducible refine Ext.up1F (by first | omega | simp) ?_ | with_reducible refine Ext.up1N (by first | omega | simp) ?_ | with_reducible refine Ext.setCell ?_ (.inr (by first | omega | simp)) _ | refine Ext.alloc ?_ _ | refine Ext.setCellF _ _ _ (by first | omega | simp) ?_ | refine Ext.setCell ?_ (.inr (by first | omega | simp)) _))⟩
            · have HE := Go.Lib.hid he
              have hbe : (WW.err != 0) = true := by rw [bne_iff_ne]; exact he
              have HZ := Go.Lib.hid (HDn.out he)
              generalize hds : doneS WW = ds at *
              generalize hee : WW.err = ee at *
              clear he hds hee
              go_wp2
              go_returns
              exact ⟨by rw [HS2.out.1, HS2.out.2, if_neg HE.out, HZ.out]; rfl, by (repeat (first | with_reducible exact Ext.refl _ _ | assumption | with_reducible refine Ext.upN ?_ | with_reducible refine Ext.alloc ?_ _ | with_reducible refine Ext.upA (by assumption) ?_ | with_reducible refine Ext.upW ?_ | with_reducible refine Ext.drew ?_ | with_reducible refine Ext.drewN ?_ _ | with_reducible refine Ext.upF ?_ | with_reducible refine Ext.upFF (by first | omega | simp) ?_ | with_reducible refine Ext.setCellsF _ _ _ (by first | omega | simp) ?_ | with_reducible refine Ext.setCellF _ _ _ (by first | omega | simp) ?_ | with_reducible refine Ext.upFN (by first | omega | simp) ?_ | with_reducible refine Ext.up1F (by first | omega | simp) ?_ | with_reducible refine Ext.up1N (by first | omega | simp) ?_ | with_reducible refine Ext.setCell ?_ (.inr (by first | omega | simp)) _ | refine Ext.alloc ?_ _ | refine Ext.setCellF _ _ _ (by first | omega | simp) ?_ | refine Ext.setCell ?_ (.inr (by first | omega | simp)) _))⟩
    · have HX := Go.Lib.hid (NO.out (by unfold mayB; rw [NT.out, decide_eq_false h2]; simp))
      have hn : 60 < epoch := by omega
      go_enter Try.func16, Try.ntmps16
      go_wp2
      go_returns
      exact ⟨by rw [HX.out.1, HX.out.2]; rfl, by (repeat (first | with_reducible exact Ext.refl _ _ | assumption | with_reducible refine Ext.upN ?_ | with_reducible refine Ext.alloc ?_ _ | with_reducible refine Ext.upA (by assumption) ?_ | with_reducible refine Ext.upW ?_ | with_reducible refine Ext.drew ?_ | with_reducible refine Ext.drewN ?_ _ | with_reducible refine Ext.upF ?_ | with_reducible refine Ext.upFF (by first | omega | simp) ?_ | with_reducible refine Ext.setCellsF _ _ _ (by first | omega | simp) ?_ | with_reducible refine Ext.setCellF _ _ _ (by first | omega | simp) ?_ | with_reducible refine Ext.upFN (by first | omega | simp) ?_ | with_reducible refine Ext.up1F (by first | omega | simp) ?_ | with_reducible refine Ext.up1N (by first | omega | simp) ?_ | with_reducible refine Ext.setCell ?_ (.inr (by first | omega | simp)) _ | refine Ext.alloc ?_ _ | refine Ext.setCellF _ _ _ (by first | omega | simp) ?_ | refine Ext.setCell ?_ (.inr (by first | omega | simp)) _))⟩
  · have HX := Go.Lib.hid (NO.out (by unfold mayB; rw [NT.out, decide_eq_false h1]; simp))
    have hn : epoch < 0 := by omega
    go_enter Try.func16, Try.ntmps16
    go_wp2
    go_returns
    exact ⟨by rw [HX.out.1, HX.out.2]; rfl, by (repeat (first | with_reducible exact Ext.refl _ _ | assumption | with_reducible refine Ext.upN ?_ | with_reducible refine Ext.alloc ?_ _ | with_reducible refine Ext.upA (by assumption) ?_ | with_reducible refine Ext.upW ?_ | with_reducible refine Ext.drew ?_ | with_reducible refine Ext.drewN ?_ _ | with_reducible refine Ext.upF ?_ | with_reducible refine Ext.upFF (by first | omega | simp) ?_ | with_reducible refine Ext.setCellsF _ _ _ (by first | omega | simp) ?_ | with_reducible refine Ext.setCellF _ _ _ (by first | omega | simp) ?_ | with_reducible refine Ext.upFN (by first | omega | simp) ?_ | with_reducible refine Ext.up1F (by first | omega | simp) ?_ | with_reducible refine Ext.up1N (by first | omega | simp) ?_ | with_reducible refine Ext.setCell ?_ (.inr (by first | omega | simp)) _ | refine Ext.alloc ?_ _ | refine Ext.setCellF _ _ _ (by first | omega | simp) ?_ | refine Ext.setCell ?_ (.inr (by first | omega | simp)) _))⟩
end Go.Proofs.Ytakbkpklfihfiaa

/- Contracts of layer 16: which changes are right. -/
namespace Go.Proofs.Ytakbkpklfihfiaa
open Go.RowKit Go.Lib F64
set_option linter.unusedSimpArgs false
set_option linter.unusedVariables false
attribute [local go_sem] run_store_float
attribute [local go_sem low] EW.cellN EW.frozN alloc_cell_or alloc_froz_or
theorem conf_len {ep : Int} {xs : List Int} (h : confB ep xs = true) : xs.length ≤ 4611686018427387903 := by
  unfold confB at h
  rw [Bool.and_eq_true] at h
  have := (members_facts h.2).2.2.2
  omega
def sigE (ep : Int) (c : Ch) : Int := if c.by_ = c.from_ ∧ c.text = chS ep c then 0 else 16
def certsE (ep : Int) (xs : List Int) (view last : Int) : List Ct → Int
  | [] => last
  | y :: t => if view ≤ y.view then 13 else if provesB ep xs (prepS ep y.view y.slot y.req) y.sigs = true then certsE ep xs view last t else 15
theorem certsE_drop (ep : Int) (xs : List Int) (view last : Int) (l : List Ct) (i : Nat) (h : i < l.length) :
    certsE ep xs view last (l.drop i) = if view ≤ (ctAt l i).view then 13 else if provesB ep xs (prepS ep (ctAt l i).view (ctAt l i).slot (ctAt l i).req) (ctAt l i).sigs = true then certsE ep xs view last (l.drop (i + 1)) else 15 := by
  rw [List.drop_eq_getElem_cons h, ctAt_get h]; rfl
/-- The first error of a change. -/
def rightE (ep : Int) (xs : List Int) (c : Ch) : Int :=
  if confB ep xs = true then (if chE ep c = 0 then (if hasB xs c.from_ = true then certsE ep xs c.view (sigE ep c) c.certs else 8) else chE ep c) else 1
set_option maxHeartbeats 4000000 in
set_option maxRecDepth 100000 in
theorem change_Right (ep : Int) (a : Option Addr) (cap : Nat) (xs : List Int) (from_ view by_ : Int) (text : ByteArray) (ca : Option Addr) (ccap : Nat) (certs : List Ct) (hie : I64 ep) (hif : I64 from_) (hiv : I64 view) (w : World) (hi : Ints w a cap xs) (h : Certs w ca ccap certs) :
    Calls Try.prog 17 #[.agg #[.int .i64 ep, .slice a xs.length cap], .agg #[.int .i64 from_, .int .i64 view, .slice ca certs.length ccap, .int .i64 by_, .string text]] w fun e w' =>
    e = .returned (.int .i64 (rightE ep xs ⟨from_, view, certs, by_, text⟩)) ∧ Ext Non w w' := by
  have HH := Go.Lib.hid h; have HI := Go.Lib.hid hi
  have HE := Go.Lib.hid (And.intro hie (And.intro hif hiv))
  have hsm := h.small; have hsl := h.le
  have DF : Hid (rightE ep xs ⟨from_, view, certs, by_, text⟩ = if confB ep xs = true then (if chE ep ⟨from_, view, certs, by_, text⟩ = 0 then (if hasB xs from_ = true then certsE ep xs view (sigE ep ⟨from_, view, certs, by_, text⟩) certs else 8) else chE ep ⟨from_, view, certs, by_, text⟩) else 1) := Go.Lib.hid rfl
  have SG : Hid (sigE ep ⟨from_, view, certs, by_, text⟩ = if by_ = from_ ∧ text = chS ep ⟨from_, view, certs, by_, text⟩ then 0 else 16) := Go.Lib.hid rfl
  clear h hi hie hif hiv
  go_enter Try.func17, Try.ntmps17
  go_wp2_with fail
  refine Calls.ew (council_Right ep a cap xs _ (HI.out.extN (by (repeat (first | with_reducible exact Ext.refl _ _ | assumption | with_reducible refine Ext.upN ?_ | with_reducible refine Ext.alloc ?_ _ | with_reducible refine Ext.upA (by assumption) ?_ | with_reducible refine Ext.upW ?_ | with_reducible refine Ext.drew ?_ | with_reducible refine Ext.drewN ?_ _ | with_reducible refine Ext.upF ?_ | with_reducible refine Ext.upFF (by first | omega | simp) ?_ | with_reducible refine Ext.setCellsF _ _ _ (by first | omega | simp) ?_ | with_reducible refine Ext.setCellF _ _ _ (by first | omega | simp) ?_ | with_reducible refine Ext.upFN (by first | omega | simp) ?_ | with_reducible refine Ext.up1F (by first | omega | simp) ?_ | with_reducible refine Ext.up1N (by first | omega | simp) ?_ | with_reducible refine Ext.setCell ?_ (.inr (by first | omega | simp)) _ | refine Ext.alloc ?_ _ | refine Ext.setCellF _ _ _ (by first | omega | simp) ?_ | refine Ext.setCell ?_ (.inr (by first | omega | simp)) _))))) ?_
  rintro e x1 rfl
  cases hc : confB ep xs
  · as_aux_lemma =>
    rw [hc] at DF
    clear hc
    go_wp2
    go_ret
    exact ⟨by rw [DF.out]; rfl, by (repeat (first | with_reducible exact Ext.refl _ _ | assumption | with_reducible refine Ext.upN ?_ | with_reducible refine Ext.alloc ?_ _ | with_reducible refine Ext.upA (by assumption) ?_ | with_reducible refine Ext.upW ?_ | with_reducible refine Ext.drew ?_ | with_reducible refine Ext.drewN ?_ _ | with_reducible refine Ext.upF ?_ | with_reducible refine Ext.upFF (by first | omega | simp) ?_ | with_reducible refine Ext.setCellsF _ _ _ (by first | omega | simp) ?_ | with_reducible refine Ext.setCellF _ _ _ (by first | omega | simp) ?_ | with_reducible refine Ext.upFN (by first | omega | simp) ?_ | with_reducible refine Ext.up1F (by first | omega | simp) ?_ | with_reducible refine Ext.up1N (by first | omega | simp) ?_ | with_reducible refine Ext.setCell ?_ (.inr (by first | omega | simp)) _ | refine Ext.alloc ?_ _ | refine Ext.setCellF _ _ _ (by first | omega | simp) ?_ | refine Ext.setCell ?_ (.inr (by first | omega | simp)) _))⟩
  · rw [hc] at DF
    have HC := Go.Lib.hid hc
    have HL := Go.Lib.hid (conf_len hc)
    clear hc
    go_wp2_with fail
    refine Calls.ew (change_Text ep from_ view by_ text ca ccap certs HE.out.1 HE.out.2.1 HE.out.2.2 _ (HH.out.extN (by (repeat (first | with_reducible exact Ext.refl _ _ | assumption | with_reducible refine Ext.upN ?_ | with_reducible refine Ext.alloc ?_ _ | with_reducible refine Ext.upA (by assumption) ?_ | with_reducible refine Ext.upW ?_ | with_reducible refine Ext.drew ?_ | with_reducible refine Ext.drewN ?_ _ | with_reducible refine Ext.upF ?_ | with_reducible refine Ext.upFF (by first | omega | simp) ?_ | with_reducible refine Ext.setCellsF _ _ _ (by first | omega | simp) ?_ | with_reducible refine Ext.setCellF _ _ _ (by first | omega | simp) ?_ | with_reducible refine Ext.upFN (by first | omega | simp) ?_ | with_reducible refine Ext.up1F (by first | omega | simp) ?_ | with_reducible refine Ext.up1N (by first | omega | simp) ?_ | with_reducible refine Ext.setCell ?_ (.inr (by first | omega | simp)) _ | refine Ext.alloc ?_ _ | refine Ext.setCellF _ _ _ (by first | omega | simp) ?_ | refine Ext.setCell ?_ (.inr (by first | omega | simp)) _))))) ?_
    rintro e x2 rfl
    generalize hs : chS ep ⟨from_, view, certs, by_, text⟩ = ts at *
    generalize he : chE ep ⟨from_, view, certs, by_, text⟩ = te at *
    clear hs he
    by_cases h0 : te = 0
    · subst h0
      go_wp2_with fail
      refine Calls.ew (council_Has ep a cap xs from_ _ (HI.out.extN (by (repeat (first | with_reducible exact Ext.refl _ _ | assumption | with_reducible refine Ext.upN ?_ | with_reducible refine Ext.alloc ?_ _ | with_reducible refine Ext.upA (by assumption) ?_ | with_reducible refine Ext.upW ?_ | with_reducible refine Ext.drew ?_ | with_reducible refine Ext.drewN ?_ _ | with_reducible refine Ext.upF ?_ | with_reducible refine Ext.upFF (by first | omega | simp) ?_ | with_reducible refine Ext.setCellsF _ _ _ (by first | omega | simp) ?_ | with_reducible refine Ext.setCellF _ _ _ (by first | omega | simp) ?_ | with_reducible refine Ext.upFN (by first | omega | simp) ?_ | with_reducible refine Ext.up1F (by first | omega | simp) ?_ | with_reducible refine Ext.up1N (by first | omega | simp) ?_ | with_reducible refine Ext.setCell ?_ (.inr (by first | omega | simp)) _ | refine Ext.alloc ?_ _ | refine Ext.setCellF _ _ _ (by first | omega | simp) ?_ | refine Ext.setCell ?_ (.inr (by first | omega | simp)) _))))) ?_
      rintro e x3 rfl
      cases hh : hasB xs from_
      · as_aux_lemma =>
        rw [hh] at DF
        clear hh
        go_wp2
        go_ret
        exact ⟨by rw [DF.out]; rfl, by (repeat (first | with_reducible exact Ext.refl _ _ | assumption | with_reducible refine Ext.upN ?_ | with_reducible refine Ext.alloc ?_ _ | with_reducible refine Ext.upA (by assumption) ?_ | with_reducible refine Ext.upW ?_ | with_reducible refine Ext.drew ?_ | with_reducible refine Ext.drewN ?_ _ | with_reducible refine Ext.upF ?_ | with_reducible refine Ext.upFF (by first | omega | simp) ?_ | with_reducible refine Ext.setCellsF _ _ _ (by first | omega | simp) ?_ | with_reducible refine Ext.setCellF _ _ _ (by first | omega | simp) ?_ | with_reducible refine Ext.upFN (by first | omega | simp) ?_ | with_reducible refine Ext.up1F (by first | omega | simp) ?_ | with_reducible refine Ext.up1N (by first | omega | simp) ?_ | with_reducible refine Ext.setCell ?_ (.inr (by first | omega | simp)) _ | refine Ext.alloc ?_ _ | refine Ext.setCellF _ _ _ (by first | omega | simp) ?_ | refine Ext.setCell ?_ (.inr (by first | omega | simp)) _))⟩
      · rw [hh] at DF
        clear hh
        go_wp2_with fail
        generalize hse : sigE ep ⟨from_, view, certs, by_, text⟩ = se at *
        have DG : Hid (rightE ep xs ⟨from_, view, certs, by_, text⟩ = certsE ep xs view se certs) := Go.Lib.hid (by rw [DF.out]; rfl)
        clear hse DF
        go_loopw [32] (fun iv wr => ∃ (i : Nat) (z : EW Non x3.on), i ≤ certs.length ∧ iv = .int .i64 i ∧ wr = z.on ∧ Hid (certsE ep xs view se certs = certsE ep xs view se (certs.drop i))) (fun iv _ => certs.length - (intOf iv).toNat)
        case atStart => exact ⟨0, ⟨_, Ext.refl _ _⟩, Nat.zero_le _, rfl, rfl, Go.Lib.hid rfl⟩
        case round =>
          obtain ⟨i, z, hi, rfl, rfl, HD⟩ := hrel
          by_cases hlt : i < certs.length
          · obtain ⟨cb, co, sa, scap, rfl, hcb, hcells, hsg, hro, hvi, hsi⟩ := HH.out.at_ i hlt
            have HDr := Go.Lib.hid (certsE_drop ep xs view se certs i hlt)
            generalize hct : ctAt certs i = ct at *
            obtain ⟨cv, cs, ⟨rc, rs, ⟨rk, rkey, rx, rid⟩⟩, sl⟩ := ct
            clear hct
            have z0 : w.cell? ⟨cb, co + i * 9, none⟩ = some (.int .i64 cv) := hcells 0 _ rfl
            have z1 : w.cell? ⟨cb, co + i * 9 + 1, none⟩ = some (.int .i64 cs) := hcells 1 _ rfl
            have z2 : w.cell? ⟨cb, co + i * 9 + 2, none⟩ = some (.int .i64 rc) := hcells 2 _ rfl
            have z3 : w.cell? ⟨cb, co + i * 9 + 3, none⟩ = some (.int .i64 rs) := hcells 3 _ rfl
            have z4 : w.cell? ⟨cb, co + i * 9 + 4, none⟩ = some (.int .i64 rk) := hcells 4 _ rfl
            have z5 : w.cell? ⟨cb, co + i * 9 + 5, none⟩ = some (.string rkey) := hcells 5 _ rfl
            have z6 : w.cell? ⟨cb, co + i * 9 + 6, none⟩ = some (.float .f64 rx) := hcells 6 _ rfl
            have z7 : w.cell? ⟨cb, co + i * 9 + 7, none⟩ = some (.int .i64 rid) := hcells 7 _ rfl
            have z8 : w.cell? ⟨cb, co + i * 9 + 8, none⟩ = some (.slice sa sl.length scap) := hcells 8 _ rfl
            have HSg : Hid (Sigs w sa scap sl) := Go.Lib.hid hsg
            have HRo : Hid (ReqOk ⟨rc, rs, ⟨rk, rkey, rx, rid⟩⟩) := Go.Lib.hid hro; have HVS : Hid (I64 cv ∧ I64 cs) := Go.Lib.hid (And.intro hvi hsi)
            clear hcells hsg hro hvi hsi
            have HDf : Hid (certsE ep xs view se (certs.drop i) = if view ≤ cv then 13 else if provesB ep xs (prepS ep cv cs ⟨rc, rs, ⟨rk, rkey, rx, rid⟩⟩) sl = true then certsE ep xs view se (certs.drop (i + 1)) else 15) := Go.Lib.hid HDr.out
            clear HDr
            by_cases hv : view ≤ cv
            · as_aux_lemma =>
              have HV := Go.Lib.hid hv
              go_wp2_with fail
              refine Calls.ew (deeds_Prepared ep cv cs rc rs rk rkey rx rid HE.out.1 HVS.out.1 HVS.out.2 HRo.out.c HRo.out.s HRo.out.k HRo.out.id HRo.out.x HRo.out.key _) ?_
              rintro e x4 rfl
              generalize prepS ep cv cs ⟨rc, rs, ⟨rk, rkey, rx, rid⟩⟩ = pt at *
              generalize prepE ep cv cs ⟨rc, rs, ⟨rk, rkey, rx, rid⟩⟩ = pe at *
              go_wp2
              go_ret
              exact ⟨ret_int (by rw [DG.out, HD.out, HDf.out, if_pos HV.out]), by (repeat (first | with_reducible exact Ext.refl _ _ | assumption | with_reducible refine Ext.upN ?_ | with_reducible refine Ext.alloc ?_ _ | with_reducible refine Ext.upA (by assumption) ?_ | with_reducible refine Ext.upW ?_ | with_reducible refine Ext.drew ?_ | with_reducible refine Ext.drewN ?_ _ | with_reducible refine Ext.upF ?_ | with_reducible refine Ext.upFF (by first | omega | simp) ?_ | with_reducible refine Ext.setCellsF _ _ _ (by first | omega | simp) ?_ | with_reducible refine Ext.setCellF _ _ _ (by first | omega | simp) ?_ | with_reducible refine Ext.upFN (by first | omega | simp) ?_ | with_reducible refine Ext.up1F (by first | omega | simp) ?_ | with_reducible refine Ext.up1N (by first | omega | simp) ?_ | with_reducible refine Ext.setCell ?_ (.inr (by first | omega | simp)) _ | refine Ext.alloc ?_ _ | refine Ext.setCellF _ _ _ (by first | omega | simp) ?_ | refine Ext.setCell ?_ (.inr (by first | omega | simp)) _))⟩
            · have HV := Go.Lib.hid hv
              have hv' : cv < view := by omega
              go_wp2_with fail
              refine Calls.ew (deeds_Prepared ep cv cs rc rs rk rkey rx rid HE.out.1 HVS.out.1 HVS.out.2 HRo.out.c HRo.out.s HRo.out.k HRo.out.id HRo.out.x HRo.out.key _) ?_
              rintro e x4 rfl
              generalize prepS ep cv cs ⟨rc, rs, ⟨rk, rkey, rx, rid⟩⟩ = pt at *
              generalize prepE ep cv cs ⟨rc, rs, ⟨rk, rkey, rx, rid⟩⟩ = pe at *
              go_wp2_with fail
              refine Calls.ew (terms_Proves ep a cap xs _ sa scap sl _ (HI.out.extN (by (repeat (first | with_reducible exact Ext.refl _ _ | assumption | with_reducible refine Ext.upN ?_ | with_reducible refine Ext.alloc ?_ _ | with_reducible refine Ext.upA (by assumption) ?_ | with_reducible refine Ext.upW ?_ | with_reducible refine Ext.drew ?_ | with_reducible refine Ext.drewN ?_ _ | with_reducible refine Ext.upF ?_ | with_reducible refine Ext.upFF (by first | omega | simp) ?_ | with_reducible refine Ext.setCellsF _ _ _ (by first | omega | simp) ?_ | with_reducible refine Ext.setCellF _ _ _ (by first | omega | simp) ?_ | with_reducible refine Ext.upFN (by first | omega | simp) ?_ | with_reducible refine Ext.up1F (by first | omega | simp) ?_ | with_reducible refine Ext.up1N (by first | omega | simp) ?_ | with_reducible refine Ext.setCell ?_ (.inr (by first | omega | simp)) _ | refine Ext.alloc ?_ _ | refine Ext.setCellF _ _ _ (by first | omega | simp) ?_ | refine Ext.setCell ?_ (.inr (by first | omega | simp)) _)))) (HSg.out.extN (by (repeat (first | with_reducible exact Ext.refl _ _ | assumption | with_reducible refine Ext.upN ?_ | with_reducible refine Ext.alloc ?_ _ | with_reducible refine Ext.upA (by assumption) ?_ | with_reducible refine Ext.upW ?_ | with_reducible refine Ext.drew ?_ | with_reducible refine Ext.drewN ?_ _ | with_reducible refine Ext.upF ?_ | with_reducible refine Ext.upFF (by first | omega | simp) ?_ | with_reducible refine Ext.setCellsF _ _ _ (by first | omega | simp) ?_ | with_reducible refine Ext.setCellF _ _ _ (by first | omega | simp) ?_ | with_reducible refine Ext.upFN (by first | omega | simp) ?_ | with_reducible refine Ext.up1F (by first | omega | simp) ?_ | with_reducible refine Ext.up1N (by first | omega | simp) ?_ | with_reducible refine Ext.setCell ?_ (.inr (by first | omega | simp)) _ | refine Ext.alloc ?_ _ | refine Ext.setCellF _ _ _ (by first | omega | simp) ?_ | refine Ext.setCell ?_ (.inr (by first | omega | simp)) _))))) ?_
              rintro e x5 rfl
              cases hp : provesB ep xs pt sl
              · as_aux_lemma =>
                have HP := Go.Lib.hid hp; clear hp
                go_wp2
                go_ret
                exact ⟨ret_int (by rw [DG.out, HD.out, HDf.out, if_neg (show ¬ view ≤ cv by have := HV.out; omega), HP.out]; rfl), by (repeat (first | with_reducible exact Ext.refl _ _ | assumption | with_reducible refine Ext.upN ?_ | with_reducible refine Ext.alloc ?_ _ | with_reducible refine Ext.upA (by assumption) ?_ | with_reducible refine Ext.upW ?_ | with_reducible refine Ext.drew ?_ | with_reducible refine Ext.drewN ?_ _ | with_reducible refine Ext.upF ?_ | with_reducible refine Ext.upFF (by first | omega | simp) ?_ | with_reducible refine Ext.setCellsF _ _ _ (by first | omega | simp) ?_ | with_reducible refine Ext.setCellF _ _ _ (by first | omega | simp) ?_ | with_reducible refine Ext.upFN (by first | omega | simp) ?_ | with_reducible refine Ext.up1F (by first | omega | simp) ?_ | with_reducible refine Ext.up1N (by first | omega | simp) ?_ | with_reducible refine Ext.setCell ?_ (.inr (by first | omega | simp)) _ | refine Ext.alloc ?_ _ | refine Ext.setCellF _ _ _ (by first | omega | simp) ?_ | refine Ext.setCell ?_ (.inr (by first | omega | simp)) _))⟩
              · have HP := Go.Lib.hid hp; clear hp
                go_wp2_with fail
                go_roundw
                case rel => exact ⟨i + 1, ⟨_, by (repeat (first | with_reducible exact Ext.refl _ _ | assumption | with_reducible refine Ext.upN ?_ | with_reducible refine Ext.alloc ?_ _ | with_reducible refine Ext.upA (by assumption) ?_ | with_reducible refine Ext.upW ?_ | with_reducible refine Ext.drew ?_ | with_reducible refine Ext.drewN ?_ _ | with_reducible refine Ext.upF ?_ | with_reducible refine Ext.upFF (by first | omega | simp) ?_ | with_reducible refine Ext.setCellsF _ _ _ (by first | omega | simp) ?_ | with_reducible refine Ext.setCellF _ _ _ (by first | omega | simp) ?_ | with_reducible refine Ext.upFN (by first | omega | simp) ?_ | with_reducible refine Ext.up1F (by first | omega | simp) ?_ | with_reducible refine Ext.up1N (by first | omega | simp) ?_ | with_reducible refine Ext.setCell ?_ (.inr (by first | omega | simp)) _ | refine Ext.alloc ?_ _ | refine Ext.setCellF _ _ _ (by first | omega | simp) ?_ | refine Ext.setCell ?_ (.inr (by first | omega | simp)) _))⟩, hlt, by go_num, rfl, Go.Lib.hid (by rw [HD.out, HDf.out, if_neg (show ¬ view ≤ cv by have := HV.out; omega), HP.out]; rfl)⟩
                case measure => simp [intOf]; omega
          · have DZ : Hid (rightE ep xs ⟨from_, view, certs, by_, text⟩ = se) := Go.Lib.hid (by rw [DG.out, HD.out, List.drop_eq_nil_of_le (by omega)]; rfl)
            by_cases hb : by_ = from_
            · subst hb
              have hbb : (by_ != by_) = false := by simp
              by_cases ht : text = ts
              · have hte : (text.toList == ts.toList) = true := by rw [ht]; simp
                have hte2 : text.toList = ts.toList := by rw [ht]
                have HZ : Hid (se = 0) := Go.Lib.hid (by rw [SG.out, if_pos ⟨rfl, ht⟩])
                clear ht
                go_wp2
                go_ret
                exact ⟨ret_int (by rw [DZ.out, HZ.out]), by (repeat (first | with_reducible exact Ext.refl _ _ | assumption | with_reducible refine Ext.upN ?_ | with_reducible refine Ext.alloc ?_ _ | with_reducible refine Ext.upA (by assumption) ?_ | with_reducible refine Ext.upW ?_ | with_reducible refine Ext.drew ?_ | with_reducible refine Ext.drewN ?_ _ | with_reducible refine Ext.upF ?_ | with_reducible refine Ext.upFF (by first | omega | simp) ?_ | with_reducible refine Ext.setCellsF _ _ _ (by first | omega | simp) ?_ | with_reducible refine Ext.setCellF _ _ _ (by first | omega | simp) ?_ | with_reducible refine Ext.upFN (by first | omega | simp) ?_ | with_reducible refine Ext.up1F (by first | omega | simp) ?_ | with_reducible refine Ext.up1N (by first | omega | simp) ?_ | with_reducible refine Ext.setCell ?_ (.inr (by first | omega | simp)) _ | refine Ext.alloc ?_ _ | refine Ext.setCellF _ _ _ (by first | omega | simp) ?_ | refine Ext.setCell ?_ (.inr (by first | omega | simp)) _))⟩
              · have hte : (text.toList == ts.toList) = false := by rw [beq_eq_false_iff_ne]; intro h; exact ht (toList_inj h)
                have hte2 : ¬ text.toList = ts.toList := fun h => ht (toList_inj h)
                have HZ : Hid (se = 16) := Go.Lib.hid (by rw [SG.out, if_neg (fun h => ht h.2)])
                clear ht
                go_wp2
                go_ret
                exact ⟨ret_int (by rw [DZ.out, HZ.out]), by (repeat (first | with_reducible exact Ext.refl _ _ | assumption | with_reducible refine Ext.upN ?_ | with_reducible refine Ext.alloc ?_ _ | with_reducible refine Ext.upA (by assumption) ?_ | with_reducible refine Ext.upW ?_ | with_reducible refine Ext.drew ?_ | with_reducible refine Ext.drewN ?_ _ | with_reducible refine Ext.upF ?_ | with_reducible refine Ext.upFF (by first | omega | simp) ?_ | with_reducible refine Ext.setCellsF _ _ _ (by first | omega | simp) ?_ | with_reducible refine Ext.setCellF _ _ _ (by first | omega | simp) ?_ | with_reducible refine Ext.upFN (by first | omega | simp) ?_ | with_reducible refine Ext.up1F (by first | omega | simp) ?_ | with_reducible refine Ext.up1N (by first | omega | simp) ?_ | with_reducible refine Ext.setCell ?_ (.inr (by first | omega | simp)) _ | refine Ext.alloc ?_ _ | refine Ext.setCellF _ _ _ (by first | omega | simp) ?_ | refine Ext.setCell ?_ (.inr (by first | omega | simp)) _))⟩
            · have hbn : (by_ != from_) = true := by rw [bne_iff_ne]; exact hb
              have hbe : (by_ == from_) = false := by rw [beq_eq_false_iff_ne]; exact hb
              have HZ : Hid (se = 16) := Go.Lib.hid (by rw [SG.out, if_neg (fun h => hb h.1)])
              go_wp2
              go_ret
              exact ⟨ret_int (by rw [DZ.out, HZ.out]), by (repeat (first | with_reducible exact Ext.refl _ _ | assumption | with_reducible refine Ext.upN ?_ | with_reducible refine Ext.alloc ?_ _ | with_reducible refine Ext.upA (by assumption) ?_ | with_reducible refine Ext.upW ?_ | with_reducible refine Ext.drew ?_ | with_reducible refine Ext.drewN ?_ _ | with_reducible refine Ext.upF ?_ | with_reducible refine Ext.upFF (by first | omega | simp) ?_ | with_reducible refine Ext.setCellsF _ _ _ (by first | omega | simp) ?_ | with_reducible refine Ext.setCellF _ _ _ (by first | omega | simp) ?_ | with_reducible refine Ext.upFN (by first | omega | simp) ?_ | with_reducible refine Ext.up1F (by first | omega | simp) ?_ | with_reducible refine Ext.up1N (by first | omega | simp) ?_ | with_reducible refine Ext.setCell ?_ (.inr (by first | omega | simp)) _ | refine Ext.alloc ?_ _ | refine Ext.setCellF _ _ _ (by first | omega | simp) ?_ | refine Ext.setCell ?_ (.inr (by first | omega | simp)) _))⟩
    · as_aux_lemma =>
      have HN := Go.Lib.hid h0
      have hbe : (te != 0) = true := by rw [bne_iff_ne]; exact h0
      clear h0
      go_wp2
      go_ret
      exact ⟨ret_int (by rw [DF.out]; simp [show ¬ te = 0 from HN.out]), by (repeat (first | with_reducible exact Ext.refl _ _ | assumption | with_reducible refine Ext.upN ?_ | with_reducible refine Ext.alloc ?_ _ | with_reducible refine Ext.upA (by assumption) ?_ | with_reducible refine Ext.upW ?_ | with_reducible refine Ext.drew ?_ | with_reducible refine Ext.drewN ?_ _ | with_reducible refine Ext.upF ?_ | with_reducible refine Ext.upFF (by first | omega | simp) ?_ | with_reducible refine Ext.setCellsF _ _ _ (by first | omega | simp) ?_ | with_reducible refine Ext.setCellF _ _ _ (by first | omega | simp) ?_ | with_reducible refine Ext.upFN (by first | omega | simp) ?_ | with_reducible refine Ext.up1F (by first | omega | simp) ?_ | with_reducible refine Ext.up1N (by first | omega | simp) ?_ | with_reducible refine Ext.setCell ?_ (.inr (by first | omega | simp)) _ | refine Ext.alloc ?_ _ | refine Ext.setCellF _ _ _ (by first | omega | simp) ?_ | refine Ext.setCell ?_ (.inr (by first | omega | simp)) _))⟩
set_option maxHeartbeats 4000000 in
set_option maxRecDepth 100000 in
theorem ref16_Right (ep : Int) (a : Option Addr) (cap : Nat) (xs : List Int) (from_ view by_ : Int) (text : ByteArray) (ca : Option Addr) (ccap : Nat) (certs : List Ct) (hie : I64 ep) (hif : I64 from_) (hiv : I64 view) (w : World) (hi : Ints w a cap xs) (h : Certs w ca ccap certs) :
    Calls Try.prog 18 #[.agg #[.int .i64 ep, .slice a xs.length cap], .agg #[.int .i64 from_, .int .i64 view, .slice ca certs.length ccap, .int .i64 by_, .string text]] w fun e w' =>
    e = .returned (.int .i64 (rightE ep xs ⟨from_, view, certs, by_, text⟩)) ∧ Ext Non w w' := by
  have HH := Go.Lib.hid h; have HI := Go.Lib.hid hi
  have HE := Go.Lib.hid (And.intro hie (And.intro hif hiv))
  have hsm := h.small; have hsl := h.le
  have DF : Hid (rightE ep xs ⟨from_, view, certs, by_, text⟩ = if confB ep xs = true then (if chE ep ⟨from_, view, certs, by_, text⟩ = 0 then (if hasB xs from_ = true then certsE ep xs view (sigE ep ⟨from_, view, certs, by_, text⟩) certs else 8) else chE ep ⟨from_, view, certs, by_, text⟩) else 1) := Go.Lib.hid rfl
  have SG : Hid (sigE ep ⟨from_, view, certs, by_, text⟩ = if by_ = from_ ∧ text = chS ep ⟨from_, view, certs, by_, text⟩ then 0 else 16) := Go.Lib.hid rfl
  clear h hi hie hif hiv
  go_enter Try.func18, Try.ntmps18
  go_wp2_with fail
  refine Calls.ew (ref_Right07 ep a cap xs _ (HI.out.extN (by (repeat (first | with_reducible exact Ext.refl _ _ | assumption | with_reducible refine Ext.upN ?_ | with_reducible refine Ext.alloc ?_ _ | with_reducible refine Ext.upA (by assumption) ?_ | with_reducible refine Ext.upW ?_ | with_reducible refine Ext.drew ?_ | with_reducible refine Ext.drewN ?_ _ | with_reducible refine Ext.upF ?_ | with_reducible refine Ext.upFF (by first | omega | simp) ?_ | with_reducible refine Ext.setCellsF _ _ _ (by first | omega | simp) ?_ | with_reducible refine Ext.setCellF _ _ _ (by first | omega | simp) ?_ | with_reducible refine Ext.upFN (by first | omega | simp) ?_ | with_reducible refine Ext.up1F (by first | omega | simp) ?_ | with_reducible refine Ext.up1N (by first | omega | simp) ?_ | with_reducible refine Ext.setCell ?_ (.inr (by first | omega | simp)) _ | refine Ext.alloc ?_ _ | refine Ext.setCellF _ _ _ (by first | omega | simp) ?_ | refine Ext.setCell ?_ (.inr (by first | omega | simp)) _))))) ?_
  rintro e x1 rfl
  cases hc : confB ep xs
  · as_aux_lemma =>
    rw [hc] at DF
    clear hc
    go_wp2
    go_ret
    exact ⟨by rw [DF.out]; rfl, by (repeat (first | with_reducible exact Ext.refl _ _ | assumption | with_reducible refine Ext.upN ?_ | with_reducible refine Ext.alloc ?_ _ | with_reducible refine Ext.upA (by assumption) ?_ | with_reducible refine Ext.upW ?_ | with_reducible refine Ext.drew ?_ | with_reducible refine Ext.drewN ?_ _ | with_reducible refine Ext.upF ?_ | with_reducible refine Ext.upFF (by first | omega | simp) ?_ | with_reducible refine Ext.setCellsF _ _ _ (by first | omega | simp) ?_ | with_reducible refine Ext.setCellF _ _ _ (by first | omega | simp) ?_ | with_reducible refine Ext.upFN (by first | omega | simp) ?_ | with_reducible refine Ext.up1F (by first | omega | simp) ?_ | with_reducible refine Ext.up1N (by first | omega | simp) ?_ | with_reducible refine Ext.setCell ?_ (.inr (by first | omega | simp)) _ | refine Ext.alloc ?_ _ | refine Ext.setCellF _ _ _ (by first | omega | simp) ?_ | refine Ext.setCell ?_ (.inr (by first | omega | simp)) _))⟩
  · rw [hc] at DF
    have HC := Go.Lib.hid hc
    have HL := Go.Lib.hid (conf_len hc)
    clear hc
    go_wp2_with fail
    refine Calls.ew (ref16_Text ep from_ view by_ text ca ccap certs HE.out.1 HE.out.2.1 HE.out.2.2 _ (HH.out.extN (by (repeat (first | with_reducible exact Ext.refl _ _ | assumption | with_reducible refine Ext.upN ?_ | with_reducible refine Ext.alloc ?_ _ | with_reducible refine Ext.upA (by assumption) ?_ | with_reducible refine Ext.upW ?_ | with_reducible refine Ext.drew ?_ | with_reducible refine Ext.drewN ?_ _ | with_reducible refine Ext.upF ?_ | with_reducible refine Ext.upFF (by first | omega | simp) ?_ | with_reducible refine Ext.setCellsF _ _ _ (by first | omega | simp) ?_ | with_reducible refine Ext.setCellF _ _ _ (by first | omega | simp) ?_ | with_reducible refine Ext.upFN (by first | omega | simp) ?_ | with_reducible refine Ext.up1F (by first | omega | simp) ?_ | with_reducible refine Ext.up1N (by first | omega | simp) ?_ | with_reducible refine Ext.setCell ?_ (.inr (by first | omega | simp)) _ | refine Ext.alloc ?_ _ | refine Ext.setCellF _ _ _ (by first | omega | simp) ?_ | refine Ext.setCell ?_ (.inr (by first | omega | simp)) _))))) ?_
    rintro e x2 rfl
    generalize hs : chS ep ⟨from_, view, certs, by_, text⟩ = ts at *
    generalize he : chE ep ⟨from_, view, certs, by_, text⟩ = te at *
    clear hs he
    by_cases h0 : te = 0
    · subst h0
      go_wp2_with fail
      refine Calls.ewD (ref_Has a cap xs from_ _ (HI.out.extN (by (repeat (first | with_reducible exact Ext.refl _ _ | assumption | with_reducible refine Ext.upN ?_ | with_reducible refine Ext.alloc ?_ _ | with_reducible refine Ext.upA (by assumption) ?_ | with_reducible refine Ext.upW ?_ | with_reducible refine Ext.drew ?_ | with_reducible refine Ext.drewN ?_ _ | with_reducible refine Ext.upF ?_ | with_reducible refine Ext.upFF (by first | omega | simp) ?_ | with_reducible refine Ext.setCellsF _ _ _ (by first | omega | simp) ?_ | with_reducible refine Ext.setCellF _ _ _ (by first | omega | simp) ?_ | with_reducible refine Ext.upFN (by first | omega | simp) ?_ | with_reducible refine Ext.up1F (by first | omega | simp) ?_ | with_reducible refine Ext.up1N (by first | omega | simp) ?_ | with_reducible refine Ext.setCell ?_ (.inr (by first | omega | simp)) _ | refine Ext.alloc ?_ _ | refine Ext.setCellF _ _ _ (by first | omega | simp) ?_ | refine Ext.setCell ?_ (.inr (by first | omega | simp)) _))))) ?_
      rintro e x3 rfl
      cases hh : hasB xs from_
      · as_aux_lemma =>
        rw [hh] at DF
        clear hh
        go_wp2
        go_ret
        exact ⟨by rw [DF.out]; rfl, by (repeat (first | with_reducible exact Ext.refl _ _ | assumption | with_reducible refine Ext.upN ?_ | with_reducible refine Ext.alloc ?_ _ | with_reducible refine Ext.upA (by assumption) ?_ | with_reducible refine Ext.upW ?_ | with_reducible refine Ext.drew ?_ | with_reducible refine Ext.drewN ?_ _ | with_reducible refine Ext.upF ?_ | with_reducible refine Ext.upFF (by first | omega | simp) ?_ | with_reducible refine Ext.setCellsF _ _ _ (by first | omega | simp) ?_ | with_reducible refine Ext.setCellF _ _ _ (by first | omega | simp) ?_ | with_reducible refine Ext.upFN (by first | omega | simp) ?_ | with_reducible refine Ext.up1F (by first | omega | simp) ?_ | with_reducible refine Ext.up1N (by first | omega | simp) ?_ | with_reducible refine Ext.setCell ?_ (.inr (by first | omega | simp)) _ | refine Ext.alloc ?_ _ | refine Ext.setCellF _ _ _ (by first | omega | simp) ?_ | refine Ext.setCell ?_ (.inr (by first | omega | simp)) _))⟩
      · rw [hh] at DF
        clear hh
        go_wp2_with fail
        generalize hse : sigE ep ⟨from_, view, certs, by_, text⟩ = se at *
        have DG : Hid (rightE ep xs ⟨from_, view, certs, by_, text⟩ = certsE ep xs view se certs) := Go.Lib.hid (by rw [DF.out]; rfl)
        clear hse DF
        go_loopw [7] (fun iv wr => ∃ (i : Nat) (z : EW Non x3.on), i ≤ certs.length ∧ iv = .int .i64 i ∧ wr = z.on ∧ Hid (certsE ep xs view se certs = certsE ep xs view se (certs.drop i))) (fun iv _ => certs.length - (intOf iv).toNat)
        case atStart => exact ⟨0, ⟨_, Ext.refl _ _⟩, Nat.zero_le _, rfl, rfl, Go.Lib.hid rfl⟩
        case round =>
          obtain ⟨i, z, hi, rfl, rfl, HD⟩ := hrel
          by_cases hlt : i < certs.length
          · obtain ⟨cb, co, sa, scap, rfl, hcb, hcells, hsg, hro, hvi, hsi⟩ := HH.out.at_ i hlt
            have HDr := Go.Lib.hid (certsE_drop ep xs view se certs i hlt)
            generalize hct : ctAt certs i = ct at *
            obtain ⟨cv, cs, ⟨rc, rs, ⟨rk, rkey, rx, rid⟩⟩, sl⟩ := ct
            clear hct
            have z0 : w.cell? ⟨cb, co + i * 9, none⟩ = some (.int .i64 cv) := hcells 0 _ rfl
            have z1 : w.cell? ⟨cb, co + i * 9 + 1, none⟩ = some (.int .i64 cs) := hcells 1 _ rfl
            have z2 : w.cell? ⟨cb, co + i * 9 + 2, none⟩ = some (.int .i64 rc) := hcells 2 _ rfl
            have z3 : w.cell? ⟨cb, co + i * 9 + 3, none⟩ = some (.int .i64 rs) := hcells 3 _ rfl
            have z4 : w.cell? ⟨cb, co + i * 9 + 4, none⟩ = some (.int .i64 rk) := hcells 4 _ rfl
            have z5 : w.cell? ⟨cb, co + i * 9 + 5, none⟩ = some (.string rkey) := hcells 5 _ rfl
            have z6 : w.cell? ⟨cb, co + i * 9 + 6, none⟩ = some (.float .f64 rx) := hcells 6 _ rfl
            have z7 : w.cell? ⟨cb, co + i * 9 + 7, none⟩ = some (.int .i64 rid) := hcells 7 _ rfl
            have z8 : w.cell? ⟨cb, co + i * 9 + 8, none⟩ = some (.slice sa sl.length scap) := hcells 8 _ rfl
            have HSg : Hid (Sigs w sa scap sl) := Go.Lib.hid hsg
            have HRo : Hid (ReqOk ⟨rc, rs, ⟨rk, rkey, rx, rid⟩⟩) := Go.Lib.hid hro; have HVS : Hid (I64 cv ∧ I64 cs) := Go.Lib.hid (And.intro hvi hsi)
            clear hcells hsg hro hvi hsi
            have HDf : Hid (certsE ep xs view se (certs.drop i) = if view ≤ cv then 13 else if provesB ep xs (prepS ep cv cs ⟨rc, rs, ⟨rk, rkey, rx, rid⟩⟩) sl = true then certsE ep xs view se (certs.drop (i + 1)) else 15) := Go.Lib.hid HDr.out
            clear HDr
            by_cases hv : view ≤ cv
            · as_aux_lemma =>
              have HV := Go.Lib.hid hv
              go_wp2
              go_ret
              exact ⟨ret_int (by rw [DG.out, HD.out, HDf.out, if_pos HV.out]), by (repeat (first | with_reducible exact Ext.refl _ _ | assumption | with_reducible refine Ext.upN ?_ | with_reducible refine Ext.alloc ?_ _ | with_reducible refine Ext.upA (by assumption) ?_ | with_reducible refine Ext.upW ?_ | with_reducible refine Ext.drew ?_ | with_reducible refine Ext.drewN ?_ _ | with_reducible refine Ext.upF ?_ | with_reducible refine Ext.upFF (by first | omega | simp) ?_ | with_reducible refine Ext.setCellsF _ _ _ (by first | omega | simp) ?_ | with_reducible refine Ext.setCellF _ _ _ (by first | omega | simp) ?_ | with_reducible refine Ext.upFN (by first | omega | simp) ?_ | with_reducible refine Ext.up1F (by first | omega | simp) ?_ | with_reducible refine Ext.up1N (by first | omega | simp) ?_ | with_reducible refine Ext.setCell ?_ (.inr (by first | omega | simp)) _ | refine Ext.alloc ?_ _ | refine Ext.setCellF _ _ _ (by first | omega | simp) ?_ | refine Ext.setCell ?_ (.inr (by first | omega | simp)) _))⟩
            · have HV := Go.Lib.hid hv
              have hv' : cv < view := by omega
              go_wp2_with fail
              refine Calls.ew (ref_Prepared ep cv cs rc rs rk rkey rx rid HE.out.1 HVS.out.1 HVS.out.2 HRo.out.c HRo.out.s HRo.out.k HRo.out.id HRo.out.x HRo.out.key _) ?_
              rintro e x4 rfl
              generalize prepS ep cv cs ⟨rc, rs, ⟨rk, rkey, rx, rid⟩⟩ = pt at *
              generalize prepE ep cv cs ⟨rc, rs, ⟨rk, rkey, rx, rid⟩⟩ = pe at *
              go_wp2_with fail
              refine Calls.ew (ref_Proves ep a cap xs HL.out _ sa scap sl _ (HI.out.extN (by (repeat (first | with_reducible exact Ext.refl _ _ | assumption | with_reducible refine Ext.upN ?_ | with_reducible refine Ext.alloc ?_ _ | with_reducible refine Ext.upA (by assumption) ?_ | with_reducible refine Ext.upW ?_ | with_reducible refine Ext.drew ?_ | with_reducible refine Ext.drewN ?_ _ | with_reducible refine Ext.upF ?_ | with_reducible refine Ext.upFF (by first | omega | simp) ?_ | with_reducible refine Ext.setCellsF _ _ _ (by first | omega | simp) ?_ | with_reducible refine Ext.setCellF _ _ _ (by first | omega | simp) ?_ | with_reducible refine Ext.upFN (by first | omega | simp) ?_ | with_reducible refine Ext.up1F (by first | omega | simp) ?_ | with_reducible refine Ext.up1N (by first | omega | simp) ?_ | with_reducible refine Ext.setCell ?_ (.inr (by first | omega | simp)) _ | refine Ext.alloc ?_ _ | refine Ext.setCellF _ _ _ (by first | omega | simp) ?_ | refine Ext.setCell ?_ (.inr (by first | omega | simp)) _)))) (HSg.out.extN (by (repeat (first | with_reducible exact Ext.refl _ _ | assumption | with_reducible refine Ext.upN ?_ | with_reducible refine Ext.alloc ?_ _ | with_reducible refine Ext.upA (by assumption) ?_ | with_reducible refine Ext.upW ?_ | with_reducible refine Ext.drew ?_ | with_reducible refine Ext.drewN ?_ _ | with_reducible refine Ext.upF ?_ | with_reducible refine Ext.upFF (by first | omega | simp) ?_ | with_reducible refine Ext.setCellsF _ _ _ (by first | omega | simp) ?_ | with_reducible refine Ext.setCellF _ _ _ (by first | omega | simp) ?_ | with_reducible refine Ext.upFN (by first | omega | simp) ?_ | with_reducible refine Ext.up1F (by first | omega | simp) ?_ | with_reducible refine Ext.up1N (by first | omega | simp) ?_ | with_reducible refine Ext.setCell ?_ (.inr (by first | omega | simp)) _ | refine Ext.alloc ?_ _ | refine Ext.setCellF _ _ _ (by first | omega | simp) ?_ | refine Ext.setCell ?_ (.inr (by first | omega | simp)) _))))) ?_
              rintro e x5 rfl
              cases hp : provesB ep xs pt sl
              · as_aux_lemma =>
                have HP := Go.Lib.hid hp; clear hp
                go_wp2
                go_ret
                exact ⟨ret_int (by rw [DG.out, HD.out, HDf.out, if_neg (show ¬ view ≤ cv by have := HV.out; omega), HP.out]; rfl), by (repeat (first | with_reducible exact Ext.refl _ _ | assumption | with_reducible refine Ext.upN ?_ | with_reducible refine Ext.alloc ?_ _ | with_reducible refine Ext.upA (by assumption) ?_ | with_reducible refine Ext.upW ?_ | with_reducible refine Ext.drew ?_ | with_reducible refine Ext.drewN ?_ _ | with_reducible refine Ext.upF ?_ | with_reducible refine Ext.upFF (by first | omega | simp) ?_ | with_reducible refine Ext.setCellsF _ _ _ (by first | omega | simp) ?_ | with_reducible refine Ext.setCellF _ _ _ (by first | omega | simp) ?_ | with_reducible refine Ext.upFN (by first | omega | simp) ?_ | with_reducible refine Ext.up1F (by first | omega | simp) ?_ | with_reducible refine Ext.up1N (by first | omega | simp) ?_ | with_reducible refine Ext.setCell ?_ (.inr (by first | omega | simp)) _ | refine Ext.alloc ?_ _ | refine Ext.setCellF _ _ _ (by first | omega | simp) ?_ | refine Ext.setCell ?_ (.inr (by first | omega | simp)) _))⟩
              · have HP := Go.Lib.hid hp; clear hp
                go_wp2_with fail
                go_roundw
                case rel => exact ⟨i + 1, ⟨_, by (repeat (first | with_reducible exact Ext.refl _ _ | assumption | with_reducible refine Ext.upN ?_ | with_reducible refine Ext.alloc ?_ _ | with_reducible refine Ext.upA (by assumption) ?_ | with_reducible refine Ext.upW ?_ | with_reducible refine Ext.drew ?_ | with_reducible refine Ext.drewN ?_ _ | with_reducible refine Ext.upF ?_ | with_reducible refine Ext.upFF (by first | omega | simp) ?_ | with_reducible refine Ext.setCellsF _ _ _ (by first | omega | simp) ?_ | with_reducible refine Ext.setCellF _ _ _ (by first | omega | simp) ?_ | with_reducible refine Ext.upFN (by first | omega | simp) ?_ | with_reducible refine Ext.up1F (by first | omega | simp) ?_ | with_reducible refine Ext.up1N (by first | omega | simp) ?_ | with_reducible refine Ext.setCell ?_ (.inr (by first | omega | simp)) _ | refine Ext.alloc ?_ _ | refine Ext.setCellF _ _ _ (by first | omega | simp) ?_ | refine Ext.setCell ?_ (.inr (by first | omega | simp)) _))⟩, hlt, by go_num, rfl, Go.Lib.hid (by rw [HD.out, HDf.out, if_neg (show ¬ view ≤ cv by have := HV.out; omega), HP.out]; rfl)⟩
                case measure => simp [intOf]; omega
          · have DZ : Hid (rightE ep xs ⟨from_, view, certs, by_, text⟩ = se) := Go.Lib.hid (by rw [DG.out, HD.out, List.drop_eq_nil_of_le (by omega)]; rfl)
            by_cases hb : by_ = from_
            · subst hb
              have hbb : (by_ != by_) = false := by simp
              by_cases ht : text = ts
              · have hte : (text.toList == ts.toList) = true := by rw [ht]; simp
                have hte2 : text.toList = ts.toList := by rw [ht]
                have HZ : Hid (se = 0) := Go.Lib.hid (by rw [SG.out, if_pos ⟨rfl, ht⟩])
                clear ht
                go_wp2
                go_ret
                exact ⟨ret_int (by rw [DZ.out, HZ.out]), by (repeat (first | with_reducible exact Ext.refl _ _ | assumption | with_reducible refine Ext.upN ?_ | with_reducible refine Ext.alloc ?_ _ | with_reducible refine Ext.upA (by assumption) ?_ | with_reducible refine Ext.upW ?_ | with_reducible refine Ext.drew ?_ | with_reducible refine Ext.drewN ?_ _ | with_reducible refine Ext.upF ?_ | with_reducible refine Ext.upFF (by first | omega | simp) ?_ | with_reducible refine Ext.setCellsF _ _ _ (by first | omega | simp) ?_ | with_reducible refine Ext.setCellF _ _ _ (by first | omega | simp) ?_ | with_reducible refine Ext.upFN (by first | omega | simp) ?_ | with_reducible refine Ext.up1F (by first | omega | simp) ?_ | with_reducible refine Ext.up1N (by first | omega | simp) ?_ | with_reducible refine Ext.setCell ?_ (.inr (by first | omega | simp)) _ | refine Ext.alloc ?_ _ | refine Ext.setCellF _ _ _ (by first | omega | simp) ?_ | refine Ext.setCell ?_ (.inr (by first | omega | simp)) _))⟩
              · have hte : (text.toList == ts.toList) = false := by rw [beq_eq_false_iff_ne]; intro h; exact ht (toList_inj h)
                have hte2 : ¬ text.toList = ts.toList := fun h => ht (toList_inj h)
                have HZ : Hid (se = 16) := Go.Lib.hid (by rw [SG.out, if_neg (fun h => ht h.2)])
                clear ht
                go_wp2
                go_ret
                exact ⟨ret_int (by rw [DZ.out, HZ.out]), by (repeat (first | with_reducible exact Ext.refl _ _ | assumption | with_reducible refine Ext.upN ?_ | with_reducible refine Ext.alloc ?_ _ | with_reducible refine Ext.upA (by assumption) ?_ | with_reducible refine Ext.upW ?_ | with_reducible refine Ext.drew ?_ | with_reducible refine Ext.drewN ?_ _ | with_reducible refine Ext.upF ?_ | with_reducible refine Ext.upFF (by first | omega | simp) ?_ | with_reducible refine Ext.setCellsF _ _ _ (by first | omega | simp) ?_ | with_reducible refine Ext.setCellF _ _ _ (by first | omega | simp) ?_ | with_reducible refine Ext.upFN (by first | omega | simp) ?_ | with_reducible refine Ext.up1F (by first | omega | simp) ?_ | with_reducible refine Ext.up1N (by first | omega | simp) ?_ | with_reducible refine Ext.setCell ?_ (.inr (by first | omega | simp)) _ | refine Ext.alloc ?_ _ | refine Ext.setCellF _ _ _ (by first | omega | simp) ?_ | refine Ext.setCell ?_ (.inr (by first | omega | simp)) _))⟩
            · have hbn : (by_ != from_) = true := by rw [bne_iff_ne]; exact hb
              have hbe : (by_ == from_) = false := by rw [beq_eq_false_iff_ne]; exact hb
              have HZ : Hid (se = 16) := Go.Lib.hid (by rw [SG.out, if_neg (fun h => hb h.1)])
              go_wp2
              go_ret
              exact ⟨ret_int (by rw [DZ.out, HZ.out]), by (repeat (first | with_reducible exact Ext.refl _ _ | assumption | with_reducible refine Ext.upN ?_ | with_reducible refine Ext.alloc ?_ _ | with_reducible refine Ext.upA (by assumption) ?_ | with_reducible refine Ext.upW ?_ | with_reducible refine Ext.drew ?_ | with_reducible refine Ext.drewN ?_ _ | with_reducible refine Ext.upF ?_ | with_reducible refine Ext.upFF (by first | omega | simp) ?_ | with_reducible refine Ext.setCellsF _ _ _ (by first | omega | simp) ?_ | with_reducible refine Ext.setCellF _ _ _ (by first | omega | simp) ?_ | with_reducible refine Ext.upFN (by first | omega | simp) ?_ | with_reducible refine Ext.up1F (by first | omega | simp) ?_ | with_reducible refine Ext.up1N (by first | omega | simp) ?_ | with_reducible refine Ext.setCell ?_ (.inr (by first | omega | simp)) _ | refine Ext.alloc ?_ _ | refine Ext.setCellF _ _ _ (by first | omega | simp) ?_ | refine Ext.setCell ?_ (.inr (by first | omega | simp)) _))⟩
    · as_aux_lemma =>
      have HN := Go.Lib.hid h0
      have hbe : (te != 0) = true := by rw [bne_iff_ne]; exact h0
      clear h0
      go_wp2
      go_ret
      exact ⟨ret_int (by rw [DF.out]; simp [show ¬ te = 0 from HN.out]), by (repeat (first | with_reducible exact Ext.refl _ _ | assumption | with_reducible refine Ext.upN ?_ | with_reducible refine Ext.alloc ?_ _ | with_reducible refine Ext.upA (by assumption) ?_ | with_reducible refine Ext.upW ?_ | with_reducible refine Ext.drew ?_ | with_reducible refine Ext.drewN ?_ _ | with_reducible refine Ext.upF ?_ | with_reducible refine Ext.upFF (by first | omega | simp) ?_ | with_reducible refine Ext.setCellsF _ _ _ (by first | omega | simp) ?_ | with_reducible refine Ext.setCellF _ _ _ (by first | omega | simp) ?_ | with_reducible refine Ext.upFN (by first | omega | simp) ?_ | with_reducible refine Ext.up1F (by first | omega | simp) ?_ | with_reducible refine Ext.up1N (by first | omega | simp) ?_ | with_reducible refine Ext.setCell ?_ (.inr (by first | omega | simp)) _ | refine Ext.alloc ?_ _ | refine Ext.setCellF _ _ _ (by first | omega | simp) ?_ | refine Ext.setCell ?_ (.inr (by first | omega | simp)) _))⟩
end Go.Proofs.Ytakbkpklfihfiaa
