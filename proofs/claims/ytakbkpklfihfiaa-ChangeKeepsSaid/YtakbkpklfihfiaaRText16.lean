/- Contracts of the reference of layer 16: the text that a change signs. -/
import Derived.Test.YtakbkpklfihfiaaOf13
import Derived.Test.YtakbkpklfihfiaaEw2
namespace Go.Proofs.Ytakbkpklfihfiaa
open Go.RowKit Go.Lib F64
set_option linter.unusedSimpArgs false
set_option linter.unusedVariables false
attribute [local go_sem] run_store_float
attribute [local go_sem low] EW.cellN EW.frozN alloc_cell_or alloc_froz_or EW.cellW EW.frozW NW.ewN NW.ewW NW.alloc
theorem mayB_sig (epoch from_ view by_ : Int) (text : ByteArray) (certs : List Ct) : mayB epoch ⟨from_, view, certs, 0, ByteArray.empty⟩ = mayB epoch ⟨from_, view, certs, by_, text⟩ := rfl
set_option maxHeartbeats 4000000 in
set_option maxRecDepth 100000 in
theorem ref16_Text (epoch from_ view by_ : Int) (text : ByteArray) (ca : Option Addr) (ccap : Nat) (certs : List Ct) (hie : I64 epoch) (hif : I64 from_) (hiv : I64 view) (w : World) (h : Certs w ca ccap certs) :
    Calls Try.prog 16 #[.int .i64 epoch, .agg #[.int .i64 from_, .int .i64 view, .slice ca certs.length ccap, .int .i64 by_, .string text]] w fun e w' =>
    e = .returned (.tuple #[.string (chS epoch ⟨from_, view, certs, by_, text⟩), .int .i64 (chE epoch ⟨from_, view, certs, by_, text⟩)]) ∧ Ext Non w w' := by
  have HH := Go.Lib.hid h
  have HI := Go.Lib.hid (And.intro hie (And.intro hif hiv))
  have hsm := h.small; have hsl := h.le
  have NO : Hid (mayB epoch ⟨from_, view, certs, by_, text⟩ = false → chS epoch ⟨from_, view, certs, by_, text⟩ = ⟨#[]⟩ ∧ chE epoch ⟨from_, view, certs, by_, text⟩ = 1) := Go.Lib.hid (fun hf => by unfold chS chE; rw [hf]; exact ⟨rfl, rfl⟩)
  have NT : Hid (topB epoch ⟨from_, view, certs, by_, text⟩ = (decide (0 ≤ epoch) && decide (epoch ≤ 60) && decide (0 ≤ from_) && decide (from_ < 16) && decide (1 ≤ view) && decide (view ≤ 15) && decide (certs.length ≤ 4))) := Go.Lib.hid rfl
  clear h hie hif hiv
  by_cases h1 : 0 ≤ epoch
  · by_cases h2 : epoch ≤ 60
    · go_enter Try.func16, Try.ntmps16
      go_wp2_with fail
      refine Calls.ew (ref13_Change epoch from_ view 0 ByteArray.empty ca ccap certs ⟨h1, h2⟩ (by omega) (by decide) _ (HH.out.extN (by (repeat (first | with_reducible exact Ext.refl _ _ | assumption | with_reducible refine Ext.upN ?_ | with_reducible refine Ext.alloc ?_ _ | with_reducible refine Ext.upA (by assumption) ?_ | with_reducible refine Ext.upW ?_ | with_reducible refine Ext.drew ?_ | with_reducible refine Ext.drewN ?_ _ | with_reducible refine Ext.upF ?_ | with_reducible refine Ext.upFF (by first | omega | simp) ?_ | with_reducible refine Ext.setCellsF _ _ _ (by first | omega | simp) ?_ | with_reducible refine Ext.setCellF _ _ _ (by first | omega | simp) ?_ | with_reducible refine Ext.upFN (by first | omega | simp) ?_ | with_reducible refine Ext.up1F (by first | omega | simp) ?_ | with_reducible refine Ext.up1N (by first | omega | simp) ?_ | with_reducible refine Ext.setCell ?_ (.inr (by first | omega | simp)) _ | refine Ext.alloc ?_ _ | refine Ext.setCellF _ _ _ (by first | omega | simp) ?_ | refine Ext.setCell ?_ (.inr (by first | omega | simp)) _))))) ?_
      rintro e x1 rfl
      rw [mayB_sig epoch from_ view by_ text certs]
      cases hm : mayB epoch ⟨from_, view, certs, by_, text⟩
      · as_aux_lemma =>
        have HX := Go.Lib.hid (NO.out hm)
        clear hm
        go_wp2
        go_returns
        exact ⟨by rw [HX.out.1, HX.out.2]; rfl, by (repeat (first | with_reducible exact Ext.refl _ _ | assumption | with_reducible refine Ext.upN ?_ | with_reducible refine Ext.alloc ?_ _ | with_reducible refine Ext.upA (by assumption) ?_ | with_reducible refine Ext.upW ?_ | with_reducible refine Ext.drew ?_ | with_reducible refine Ext.drewN ?_ _ | with_reducible refine Ext.upF ?_ | with_reducible refine Ext.upFF (by first | omega | simp) ?_ | with_reducible refine Ext.setCellsF _ _ _ (by first | omega | simp) ?_ | with_reducible refine Ext.setCellF _ _ _ (by first | omega | simp) ?_ | with_reducible refine Ext.upFN (by first | omega | simp) ?_ | with_reducible refine Ext.up1F (by first | omega | simp) ?_ | with_reducible refine Ext.up1N (by first | omega | simp) ?_ | with_reducible refine Ext.setCell ?_ (.inr (by first | omega | simp)) _ | refine Ext.alloc ?_ _ | refine Ext.setCellF _ _ _ (by first | omega | simp) ?_ | refine Ext.setCell ?_ (.inr (by first | omega | simp)) _))⟩
      · as_aux_lemma =>
        have HM := Go.Lib.hid hm; clear hm
        go_wp2_with fail
        obtain ⟨n0, hn0⟩ : ∃ n0, n0 = x1.on.heap.size := ⟨_, rfl⟩
        have hlt0 : w.heap.size < n0 := by rw [hn0]; have := x1.ext.size; simp at this; omega
        have HN0 := Go.Lib.hid hn0; clear hn0
        refine (refw_New 65535 (by decide) n0 _ (Nat.le_of_eq HN0.out)).mono ?_
        rintro e _ ⟨b, rfl, x, p, hnb⟩
        have HA : Ahead n0 b w := ⟨Nat.le_of_lt hlt0, by rw [HN0.out]; exact hnb⟩
        have PP := Go.Lib.hid p; clear p
        obtain ⟨x2, rfl⟩ := x.ew
        have hnw : NW n0 b x2.on w.heap.size := NW.old hlt0 HA.b PP.out.base_le
        have HNW := Go.Lib.hid (show ∀ k, k < w.heap.size → NW n0 b x2.on k from fun k hk => NW.old (by omega) HA.b PP.out.base_le)
        clear hnb
        go_wp2_with fail
        refine (refw_Num1 n0 b _ 86 (by unfold I64; omega) _ PP.out PP.out.base_le).mono ?_
        rintro e _ ⟨rfl, ⟨p, x⟩⟩
        clear PP
        have PP := Go.Lib.hid p; clear p
        obtain ⟨y, rfl⟩ := x.ew
        go_wp2_with fail
        refine (refw_Num2 n0 b _ epoch HI.out.1 _ PP.out PP.out.base_le).mono ?_
        rintro e _ ⟨rfl, ⟨p, x⟩⟩
        clear PP
        have PP := Go.Lib.hid p; clear p
        obtain ⟨y, rfl⟩ := x.ew
        go_wp2_with fail
        refine (refw_Num1 n0 b _ from_ HI.out.2.1 _ PP.out PP.out.base_le).mono ?_
        rintro e _ ⟨rfl, ⟨p, x⟩⟩
        clear PP
        have PP := Go.Lib.hid p; clear p
        obtain ⟨y, rfl⟩ := x.ew
        go_wp2_with fail
        refine (refw_Num1 n0 b _ view HI.out.2.2 _ PP.out PP.out.base_le).mono ?_
        rintro e _ ⟨rfl, ⟨p, x⟩⟩
        clear PP
        have PP := Go.Lib.hid p; clear p
        obtain ⟨y, rfl⟩ := x.ew
        go_wp2_with fail
        refine (refw_Num1 n0 b _ certs.length (by unfold I64; omega) _ PP.out PP.out.base_le).mono ?_
        rintro e _ ⟨rfl, ⟨p, x⟩⟩
        clear PP
        have PP := Go.Lib.hid p; clear p
        obtain ⟨y, rfl⟩ := x.ew
        go_wp2_with fail
        have PP' : Hid (RW y.on n0 b (wTop epoch ⟨from_, view, certs, by_, text⟩)) := Go.Lib.hid PP.out
        clear PP
        generalize hW0 : wTop epoch ⟨from_, view, certs, by_, text⟩ = W0 at *
        have HW0 := Go.Lib.hid hW0; clear hW0
        go_loopw [8] (fun iv wr => ∃ (i : Nat) (z : EW (WB n0 b y.on) y.on), i ≤ certs.length ∧ iv = .int .i64 i ∧ wr = z.on ∧ Hid (RW wr n0 b (wCerts W0 (certs.take i)))) (fun iv _ => certs.length - (intOf iv).toNat)
        case atStart => exact ⟨0, ⟨_, Ext.refl _ _⟩, Nat.zero_le _, rfl, rfl, PP'⟩
        case round =>
          obtain ⟨i, z, hi, rfl, rfl, PP⟩ := hrel
          clear PP'
          by_cases hlt : i < certs.length
          · obtain ⟨cb, co, sa, scap, rfl, hcb, hcells, hsg, hro, hvi, hsi⟩ := HH.out.at_ i hlt
            have HTk := Go.Lib.hid (wCerts_take W0 certs i hlt)
            generalize hct : ctAt certs i = ct at *
            obtain ⟨cv, cs, ⟨rc, rs, ⟨rk, rkey, rx, rid⟩⟩, sl⟩ := ct
            clear hct
            have z0 : w.cell? ⟨cb, co + i * 9, none⟩ = some (.int .i64 cv) := hcells 0 _ rfl
            have z1 : w.cell? ⟨cb, co + i * 9 + 1, none⟩ = some (.int .i64 cs) := hcells 1 _ rfl
            have z2 : w.cell? ⟨cb, co + i * 9 + 2, none⟩ = some (.int .i64 rc) := hcells 2 _ rfl
            have z3 : w.cell? ⟨cb, co + i * 9 + 3, none⟩ = some (.int .i64 rs) := hcells 3 _ rfl
            have z4 : w.cell? ⟨cb, co + i * 9 + 4, none⟩ = some (.int .i64 rk) := hcells 4 _ rfl
            have z5 : w.cell? ⟨cb, co + i * 9 + 5, none⟩ = some (.string rkey) := hcells 5 _ rfl
            have z6 : w.cell? ⟨cb, co + i * 9 + 6, none⟩ = some (.float .f64 rx) := hcells 6 _ rfl
            have z7 : w.cell? ⟨cb, co + i * 9 + 7, none⟩ = some (.int .i64 rid) := hcells 7 _ rfl
            have z8 : w.cell? ⟨cb, co + i * 9 + 8, none⟩ = some (.slice sa sl.length scap) := hcells 8 _ rfl
            have hcbn : NW n0 b x2.on cb := HNW.out cb hcb
            have HSg : Hid (Sigs w sa scap sl) := Go.Lib.hid hsg
            have HRo : Hid (ReqOk ⟨rc, rs, ⟨rk, rkey, rx, rid⟩⟩) := Go.Lib.hid hro; have HVS : Hid (I64 cv ∧ I64 cs) := Go.Lib.hid (And.intro hvi hsi)
            have hsgm := hsg.small; have hsgl := hsg.le
            clear hcells hsg hro hvi hsi
            have hbx : NW n0 b (z.on.alloc (.cells #[.int .i64 cv, .int .i64 cs, .int .i64 rc, .int .i64 rs, .int .i64 rk, .string rkey, .float .f64 rx, .int .i64 rid, .slice sa sl.length scap] 52)) z.on.heap.size := NW.new _ _ rfl PP.out.lt (by decide)
            go_wp2_with fail
            have PP' := Go.Lib.hid (PP.out.extN ((Ext.refl Non _).alloc (.cells #[.int .i64 cv, .int .i64 cs, .int .i64 rc, .int .i64 rs, .int .i64 rk, .string rkey, .float .f64 rx, .int .i64 rid, .slice sa sl.length scap] 52)))
            clear PP; have PP := PP'; clear PP'
            refine (refw_Num1 n0 b _ cv HVS.out.1 _ PP.out PP.out.base_le).mono ?_
            rintro e _ ⟨rfl, ⟨p, x⟩⟩
            clear PP
            have PP := Go.Lib.hid p; clear p
            obtain ⟨y1, rfl⟩ := x.ew
            go_wp2_with fail
            refine (refw_Num2 n0 b _ cs HVS.out.2 _ PP.out PP.out.base_le).mono ?_
            rintro e _ ⟨rfl, ⟨p, x⟩⟩
            clear PP
            have PP := Go.Lib.hid p; clear p
            obtain ⟨y2, rfl⟩ := x.ew
            go_wp2_with fail
            refine Calls.ew (ref_Text rc rs rk rkey rx rid HRo.out.c HRo.out.s HRo.out.k HRo.out.id HRo.out.x HRo.out.key _) ?_
            rintro e y3 rfl
            have PP' := Go.Lib.hid (PP.out.extN y3.ext)
            clear PP; have PP := PP'; clear PP'
            have HRS := Go.Lib.hid (reqS_list ⟨rc, rs, ⟨rk, rkey, rx, rid⟩⟩); have HRZ := Go.Lib.hid (reqS_size ⟨rc, rs, ⟨rk, rkey, rx, rid⟩⟩)
            generalize reqE ⟨rc, rs, ⟨rk, rkey, rx, rid⟩⟩ = re at *
            generalize hrs : reqS ⟨rc, rs, ⟨rk, rkey, rx, rid⟩⟩ = rst at *
            clear hrs
            go_wp2_with fail
            refine (refw_Text n0 b _ rst (by have := HRZ.out; omega) _ PP.out PP.out.base_le).mono ?_
            rintro e _ ⟨rfl, ⟨p, x⟩⟩
            clear PP
            have PP := Go.Lib.hid p; clear p
            obtain ⟨y4, rfl⟩ := x.ew
            rw [HRS.out] at PP
            go_wp2_with fail
            refine (refw_Num1 n0 b _ sl.length (by unfold I64; omega) _ PP.out PP.out.base_le).mono ?_
            rintro e _ ⟨rfl, ⟨p, x⟩⟩
            clear PP
            have PP := Go.Lib.hid p; clear p
            obtain ⟨y5, rfl⟩ := x.ew
            go_wp2_with fail
            generalize hW5 : byteW (textW (wordW (byteW (wCerts W0 (certs.take i)) cv) cs) (reqL ⟨rc, rs, ⟨rk, rkey, rx, rid⟩⟩)) sl.length = W5 at *
            have HW5 := Go.Lib.hid hW5; clear hW5
            go_loopw [12] (fun iv wr => ∃ (j : Nat) (z2 : EW (WB n0 b y5.on) y5.on), j ≤ sl.length ∧ iv = .int .i64 j ∧ wr = z2.on ∧ Hid (RW wr n0 b (wSigs W5 (sl.take j)))) (fun iv _ => sl.length - (intOf iv).toNat)
            case atStart => exact ⟨0, ⟨_, Ext.refl _ _⟩, Nat.zero_le _, rfl, rfl, PP⟩
            case round =>
              obtain ⟨j, z2, hj, rfl, rfl, P4⟩ := hrel
              clear PP
              by_cases hjl : j < sl.length
              · obtain ⟨sb, so, rfl, hsb, c0, c1, hI, hT⟩ := HSg.out.at_ j hjl
                have HTj := Go.Lib.hid (wSigs_take W5 sl j hjl)
                generalize hsgj : sgAt sl j = sg at *
                obtain ⟨by2, tx⟩ := sg
                clear hsgj
                have HIT : Hid (I64 by2 ∧ tx.size ≤ 9223372036854775807) := Go.Lib.hid ⟨hI, hT⟩
                have d0 : w.cell? ⟨sb, so + j * 2, none⟩ = some (.int .i64 by2) := c0
                have d1 : w.cell? ⟨sb, so + j * 2 + 1, none⟩ = some (.string tx) := c1
                have hsbn : NW n0 b x2.on sb := HNW.out sb hsb
                clear c0 c1 hI hT
                go_wp2_with fail
                refine (refw_Num1 n0 b _ by2 HIT.out.1 _ P4.out P4.out.base_le).mono ?_
                rintro e _ ⟨rfl, ⟨p, x⟩⟩
                clear P4
                have P4 := Go.Lib.hid p; clear p
                obtain ⟨y6, rfl⟩ := x.ew
                go_wp2_with fail
                refine (refw_Text n0 b _ tx HIT.out.2 _ P4.out P4.out.base_le).mono ?_
                rintro e _ ⟨rfl, ⟨p, x⟩⟩
                have PZ : Hid (RW _ n0 b (wSigs W5 (sl.take (j + 1)))) := Go.Lib.hid (by rw [HTj.out]; exact p)
                clear P4 p
                obtain ⟨y7, rfl⟩ := x.ew
                go_wp2_with fail
                go_roundw
                case rel => exact ⟨j + 1, ⟨_, by (repeat (first | with_reducible exact Ext.refl _ _ | assumption | with_reducible refine Ext.upN ?_ | with_reducible refine Ext.alloc ?_ _ | with_reducible refine Ext.upA (by assumption) ?_ | with_reducible refine Ext.upW ?_ | with_reducible refine Ext.drew ?_ | with_reducible refine Ext.drewN ?_ _ | with_reducible refine Ext.upF ?_ | with_reducible refine Ext.upFF (by first | omega | simp) ?_ | with_reducible refine Ext.setCellsF _ _ _ (by first | omega | simp) ?_ | with_reducible refine Ext.setCellF _ _ _ (by first | omega | simp) ?_ | with_reducible refine Ext.upFN (by first | omega | simp) ?_ | with_reducible refine Ext.up1F (by first | omega | simp) ?_ | with_reducible refine Ext.up1N (by first | omega | simp) ?_ | with_reducible refine Ext.setCell ?_ (.inr (by first | omega | simp)) _ | refine Ext.alloc ?_ _ | refine Ext.setCellF _ _ _ (by first | omega | simp) ?_ | refine Ext.setCell ?_ (.inr (by first | omega | simp)) _))⟩, hjl, by go_num, rfl, PZ⟩
                case measure => simp [intOf]; omega
              · have PZ : Hid (RW z2.on n0 b (wCerts W0 (certs.take (i + 1)))) := Go.Lib.hid (by
                  have := P4.out
                  rw [List.take_of_length_le (by omega : sl.length ≤ j)] at this
                  rw [HTk.out, show wCert (wCerts W0 (certs.take i)) ⟨cv, cs, ⟨rc, rs, ⟨rk, rkey, rx, rid⟩⟩, sl⟩ = wSigs (byteW (textW (wordW (byteW (wCerts W0 (certs.take i)) cv) cs) (reqL ⟨rc, rs, ⟨rk, rkey, rx, rid⟩⟩)) sl.length) sl from rfl, HW5.out]
                  exact this)
                go_wp2_with fail
                go_roundw
                case rel => exact ⟨i + 1, ⟨_, by (repeat (first | with_reducible exact Ext.refl _ _ | assumption | with_reducible refine Ext.upN ?_ | with_reducible refine Ext.alloc ?_ _ | with_reducible refine Ext.upA (by assumption) ?_ | with_reducible refine Ext.upW ?_ | with_reducible refine Ext.drew ?_ | with_reducible refine Ext.drewN ?_ _ | with_reducible refine Ext.upF ?_ | with_reducible refine Ext.upFF (by first | omega | simp) ?_ | with_reducible refine Ext.setCellsF _ _ _ (by first | omega | simp) ?_ | with_reducible refine Ext.setCellF _ _ _ (by first | omega | simp) ?_ | with_reducible refine Ext.upFN (by first | omega | simp) ?_ | with_reducible refine Ext.up1F (by first | omega | simp) ?_ | with_reducible refine Ext.up1N (by first | omega | simp) ?_ | with_reducible refine Ext.setCell ?_ (.inr (by first | omega | simp)) _ | refine Ext.alloc ?_ _ | refine Ext.setCellF _ _ _ (by first | omega | simp) ?_ | refine Ext.setCell ?_ (.inr (by first | omega | simp)) _))⟩, hlt, by go_num, rfl, PZ⟩
                case measure => simp [intOf]; omega
          · have PZ : Hid (RW z.on n0 b (chW epoch ⟨from_, view, certs, by_, text⟩)) := Go.Lib.hid (by
              have := PP.out
              rw [List.take_of_length_le (by omega : certs.length ≤ i), ← HW0.out] at this
              exact this)
            clear PP
            go_wp2_with fail
            refine Calls.ew (refw_Done _ _ _ _ PZ.out) ?_
            rintro e xz rfl
            have HS2 : Hid (chS epoch ⟨from_, view, certs, by_, text⟩ = doneS (chW epoch ⟨from_, view, certs, by_, text⟩) ∧ chE epoch ⟨from_, view, certs, by_, text⟩ = if (chW epoch ⟨from_, view, certs, by_, text⟩).err = 0 then 0 else 3) := Go.Lib.hid (by unfold chS chE; rw [HM.out]; exact ⟨rfl, rfl⟩)
            have HDn : Hid ((chW epoch ⟨from_, view, certs, by_, text⟩).err ≠ 0 → doneS (chW epoch ⟨from_, view, certs, by_, text⟩) = ⟨#[]⟩) := Go.Lib.hid (fun h => by unfold doneS; rw [if_neg h])
            clear PZ
            generalize chW epoch ⟨from_, view, certs, by_, text⟩ = WW at *
            by_cases he : WW.err = 0
            · have HE := Go.Lib.hid he
              rw [he]
              generalize doneS WW = ds at *
              clear he
              go_wp2
              go_returns
              exact ⟨by rw [HS2.out.1, HS2.out.2, HE.out]; rfl, by (repeat (first | with_reducible exact Ext.refl _ _ | assumption | with_reducible refine Ext.upN ?_ | with_reducible refine Ext.alloc ?_ _ | with_reducible refine Ext.upA (by assumption) ?_ | with_reducible refine Ext.upW ?_ | with_reducible refine Ext.drew ?_ | with_reducible refine Ext.drewN ?_ _ | with_reducible refine Ext.upF ?_ | with_reducible refine Ext.upFF (by first | omega | simp) ?_ | with_reducible refine Ext.setCellsF _ _ _ (by first | omega | simp) ?_ | with_reducible refine Ext.setCellF _ _ _ (by first | omega | simp) ?_ | with_reducible refine Ext.upFN (by first | omega | simp) ?_ | with_reducible refine Ext.up1F (by first | omega | simp) ?_ | with_reducible refine Ext.up1N (by first | omega | simp) ?_ | with_reducible refine Ext.setCell ?_ (.inr (by first | omega | simp)) _ | refine Ext.alloc ?_ _ | refine Ext.setCellF _ _ _ (by first | omega | simp) ?_ | refine Ext.setCell ?_ (.inr (by first | omega | simp)) _))⟩
            · have HE := Go.Lib.hid he
              have hbe : (WW.err != 0) = true := by rw [bne_iff_ne]; exact he
              have HZ := Go.Lib.hid (HDn.out he)
              generalize hds : doneS WW = ds at *
              generalize hee : WW.err = ee at *
              clear he hds hee
              go_wp2
              go_returns
              exact ⟨by rw [HS2.out.1, HS2.out.2, if_neg HE.out, HZ.out]; rfl, by (repeat (first | with_reducible exact Ext.refl _ _ | assumption | with_reducible refine Ext.upN ?_ | with_reducible refine Ext.alloc ?_ _ | with_reducible refine Ext.upA (by assumption) ?_ | with_reducible refine Ext.upW ?_ | with_reducible refine Ext.drew ?_ | with_reducible refine Ext.drewN ?_ _ | with_reducible refine Ext.upF ?_ | with_reducible refine Ext.upFF (by first | omega | simp) ?_ | with_reducible refine Ext.setCellsF _ _ _ (by first | omega | simp) ?_ | with_reducible refine Ext.setCellF _ _ _ (by first | omega | simp) ?_ | with_reducible refine Ext.upFN (by first | omega | simp) ?_ | with_reducible refine Ext.up1F (by first | omega | simp) ?_ | with_reducible refine Ext.up1N (by first | omega | simp) ?_ | with_reducible refine Ext.setCell ?_ (.inr (by first | omega | simp)) _ | refine Ext.alloc ?_ _ | refine Ext.setCellF _ _ _ (by first | omega | simp) ?_ | refine Ext.setCell ?_ (.inr (by first | omega | simp)) _))⟩
    · have HX := Go.Lib.hid (NO.out (by unfold mayB; rw [NT.out, decide_eq_false h2]; simp))
      have hn : 60 < epoch := by omega
      go_enter Try.func16, Try.ntmps16
      go_wp2
      go_returns
      exact ⟨by rw [HX.out.1, HX.out.2]; rfl, by (repeat (first | with_reducible exact Ext.refl _ _ | assumption | with_reducible refine Ext.upN ?_ | with_reducible refine Ext.alloc ?_ _ | with_reducible refine Ext.upA (by assumption) ?_ | with_reducible refine Ext.upW ?_ | with_reducible refine Ext.drew ?_ | with_reducible refine Ext.drewN ?_ _ | with_reducible refine Ext.upF ?_ | with_reducible refine Ext.upFF (by first | omega | simp) ?_ | with_reducible refine Ext.setCellsF _ _ _ (by first | omega | simp) ?_ | with_reducible refine Ext.setCellF _ _ _ (by first | omega | simp) ?_ | with_reducible refine Ext.upFN (by first | omega | simp) ?_ | with_reducible refine Ext.up1F (by first | omega | simp) ?_ | with_reducible refine Ext.up1N (by first | omega | simp) ?_ | with_reducible refine Ext.setCell ?_ (.inr (by first | omega | simp)) _ | refine Ext.alloc ?_ _ | refine Ext.setCellF _ _ _ (by first | omega | simp) ?_ | refine Ext.setCell ?_ (.inr (by first | omega | simp)) _))⟩
  · have HX := Go.Lib.hid (NO.out (by unfold mayB; rw [NT.out, decide_eq_false h1]; simp))
    have hn : epoch < 0 := by omega
    go_enter Try.func16, Try.ntmps16
    go_wp2
    go_returns
    exact ⟨by rw [HX.out.1, HX.out.2]; rfl, by (repeat (first | with_reducible exact Ext.refl _ _ | assumption | with_reducible refine Ext.upN ?_ | with_reducible refine Ext.alloc ?_ _ | with_reducible refine Ext.upA (by assumption) ?_ | with_reducible refine Ext.upW ?_ | with_reducible refine Ext.drew ?_ | with_reducible refine Ext.drewN ?_ _ | with_reducible refine Ext.upF ?_ | with_reducible refine Ext.upFF (by first | omega | simp) ?_ | with_reducible refine Ext.setCellsF _ _ _ (by first | omega | simp) ?_ | with_reducible refine Ext.setCellF _ _ _ (by first | omega | simp) ?_ | with_reducible refine Ext.upFN (by first | omega | simp) ?_ | with_reducible refine Ext.up1F (by first | omega | simp) ?_ | with_reducible refine Ext.up1N (by first | omega | simp) ?_ | with_reducible refine Ext.setCell ?_ (.inr (by first | omega | simp)) _ | refine Ext.alloc ?_ _ | refine Ext.setCellF _ _ _ (by first | omega | simp) ?_ | refine Ext.setCell ?_ (.inr (by first | omega | simp)) _))⟩
end Go.Proofs.Ytakbkpklfihfiaa
