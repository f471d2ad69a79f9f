/- Contracts of layer 9 (terms): proofs; the reference's. -/
import Derived.Test.YtakbkpklfihfiaaTerms
namespace Go.Proofs.Ytakbkpklfihfiaa
open Go.RowKit Go.Lib F64
set_option linter.unusedSimpArgs false
set_option linter.unusedVariables false

/-- A row of signatures that can be read behind an address. -/
structure Sigs (w : World) (a : Option Addr) (cap : Nat) (l : List Sg) : Prop where
  le : l.length ≤ cap
  small : cap ≤ 9223372036854775807
  at_ : ∀ j (h : j < l.length), ∃ b o, a = some ⟨b, o, none⟩ ∧ b < w.heap.size ∧ w.cell? ⟨b, o + j * 2, none⟩ = some (.int .i64 (sgAt l j).by_) ∧ w.cell? ⟨b, o + j * 2 + 1, none⟩ = some (.string (sgAt l j).text) ∧ I64 (sgAt l j).by_ ∧ (sgAt l j).text.size ≤ 9223372036854775807
theorem Sigs.extN {w w' : World} {a : Option Addr} {cap : Nat} {l : List Sg} (h : Sigs w a cap l) (x : Ext Non w w') : Sigs w' a cap l :=
  ⟨h.le, h.small, fun j hj => by
    obtain ⟨b, o, e, hb, c0, c1, i, t⟩ := h.at_ j hj
    exact ⟨b, o, e, Nat.lt_of_lt_of_le hb x.size, (x.cell (p := ⟨b, o + j * 2, none⟩) hb (fun f => f)).trans c0, (x.cell (p := ⟨b, o + j * 2 + 1, none⟩) hb (fun f => f)).trans c1, i, t⟩⟩
theorem ref_Right07 (ep : Int) (a : Option Addr) (cap : Nat) (xs : List Int) (w : World) (h : Ints w a cap xs) : Calls Try.prog 71 #[.agg #[.int .i64 ep, .slice a xs.length cap]] w fun e w' => e = .returned (.bool (confB ep xs)) ∧ Ext Non w w' := by
  have HE : Hid (confB ep xs = (decide (0 ≤ ep) && decide (ep ≤ 60) && membersB xs)) := Go.Lib.hid rfl
  have HH : Hid (Ints (w.alloc (.cells #[.int .i64 ep, .slice a xs.length cap] 34)) a cap xs) := Go.Lib.hid (h.extN ((Ext.refl _ _).alloc _))
  clear h
  by_cases h0 : 0 ≤ ep
  · by_cases h1 : ep ≤ 60
    · go_enter Try.func71, Try.ntmps71
      go_wp2_with fail
      refine (ref_Members _ _ _ _ HH.out).mono ?_
      rintro e w1 ⟨rfl, y⟩
      go_wp2
      go_ret
      exact ⟨ret_bool (by rw [HE.out, decide_eq_true h0, decide_eq_true h1]; rfl), ((Ext.refl _ _).alloc _).trans y⟩
    · go_enter Try.func71, Try.ntmps71
      go_wp2
      go_ret
      exact ⟨ret_bool (by rw [HE.out, decide_eq_false (by omega : ¬ ep ≤ 60)]; simp), (Ext.refl _ _).alloc _⟩
  · go_enter Try.func71, Try.ntmps71
    go_wp2
    go_ret
    exact ⟨ret_bool (by rw [HE.out, decide_eq_false (by omega : ¬ 0 ≤ ep)]; simp), (Ext.refl _ _).alloc _⟩
set_option maxHeartbeats 4000000 in
set_option maxRecDepth 100000 in
theorem terms_Proves (ep : Int) (a : Option Addr) (cap : Nat) (xs : List Int) (text : ByteArray) (sa : Option Addr) (scap : Nat) (l : List Sg) (w : World) (h : Ints w a cap xs) (hs : Sigs w sa scap l) :
    Calls Try.prog 54 #[.agg #[.int .i64 ep, .slice a xs.length cap], .string text, .slice sa l.length scap] w fun e w' => e = .returned (.bool (provesB ep xs text l)) ∧ Ext Non w w' := by
  have HH := Go.Lib.hid h; have HS := Go.Lib.hid hs
  have B0 := Go.Lib.hid (Bx.new w [.int .i64 ep, .slice a xs.length cap] 34)
  have X0 := Go.Lib.hid ((Ext.refl Non w).alloc (.cells #[.int .i64 ep, .slice a xs.length cap] 34))
  have hsm := hs.small; have hsl := hs.le
  clear h hs
  cases hc : confB ep xs
  · have HE := Go.Lib.hid (show provesB ep xs text l = false by unfold provesB; rw [hc]; rfl)
    have HC := Go.Lib.hid hc; clear hc
    go_enter Try.func54, Try.ntmps54
    go_wp2_with fail
    refine (council_Right _ _ _ _ _ (HH.out.extN X0.out)).mono ?_
    rintro e w1 ⟨rfl, y⟩
    rw [HC.out]
    go_wp2
    go_ret
    exact ⟨ret_bool HE.out.symm, X0.out.trans y⟩
  · have HC := Go.Lib.hid hc; clear hc
    have hmb : membersB xs = true := by have := HC.out; unfold confB at this; simp only [Bool.and_eq_true] at this; exact this.2
    have hx10 := (members_facts hmb).2.2.2
    by_cases h16 : l.length ≤ 16
    · have h16i : ((l.length : Nat) : Int) ≤ 16 := by omega
      by_cases hq : quorumI xs.length ≤ l.length
      · have HE := Go.Lib.hid (show provesB ep xs text l = chainB xs text (-1) l by unfold provesB; rw [HC.out, decide_eq_true h16, decide_eq_true hq]; rfl)
        clear hmb
        go_enter Try.func54, Try.ntmps54
        go_wp2_with fail
        refine (council_Right _ _ _ _ _ (HH.out.extN X0.out)).mono ?_
        rintro e w1 ⟨rfl, y⟩
        rw [HC.out]
        have X1 := Go.Lib.hid (X0.out.trans y)
        have B1 := Go.Lib.hid (B0.out.extN y)
        have q1 : w1.cell? ⟨w.heap.size, 1, none⟩ = some (.slice a xs.length cap) := B1.out.cell rfl
        clear y
        go_wp2_with fail
        refine (council_Quorum _ (by omega) (by omega) _).mono ?_
        rintro e w2 ⟨rfl, rfl⟩
        generalize quorumI (xs.length : Int) = Q at *
        clear q1
        go_wp2_with fail
        go_loopw [7, 29] (fun lv iv wr => ∃ (i : Nat) (last : Int), i ≤ l.length ∧ lv = .int .i64 last ∧ iv = .int .i64 i ∧ Ext Non w1 wr ∧ chainB xs text (-1) l = chainB xs text last (l.drop i)) (fun _ iv _ => l.length - (intOf iv).toNat)
        case atStart => exact ⟨0, -1, Nat.zero_le _, rfl, rfl, Ext.refl _ _, rfl⟩
        case round =>
          obtain ⟨i, last, hi, rfl, rfl, x, hch⟩ := hrel
          have XX := Go.Lib.hid x; have HCh := Go.Lib.hid hch
          clear x hch
          by_cases hlt : i < l.length
          · obtain ⟨sb, so, rfl, hsb, c0, c1, hI, hT⟩ := (HS.out.extN (X1.out.trans XX.out)).at_ i hlt
            have HD := Go.Lib.hid (chain_drop xs text l last i hlt)
            have BR := Go.Lib.hid (B1.out.extN XX.out)
            generalize hsg : sgAt l i = sg at *
            obtain ⟨by_, tx⟩ := sg
            clear hsg
            have BX := Go.Lib.hid (Bx.new wr [.int .i64 by_, .string tx] 24)
            have XA := Go.Lib.hid ((Ext.refl Non wr).alloc (.cells #[.int .i64 by_, .string tx] 24))
            obtain ⟨z0, z1⟩ : (wr.alloc (.cells #[.int .i64 by_, .string tx] 24)).cell? ⟨w.heap.size, 0, none⟩ = some (.int .i64 ep) ∧ (wr.alloc (.cells #[.int .i64 by_, .string tx] 24)).cell? ⟨w.heap.size, 1, none⟩ = some (.slice a xs.length cap) := ⟨(BR.out.extN XA.out).cell rfl, (BR.out.extN XA.out).cell rfl⟩
            by_cases ht : tx = text
            · subst ht
              by_cases hl : last < by_
              · go_wp2_with fail
                refine (council_Has ep _ _ _ by_ _ (HH.out.extN ((X1.out.trans XX.out).trans XA.out))).mono ?_
                rintro e w3 ⟨rfl, y3⟩
                have XF := Go.Lib.hid (XX.out.trans (XA.out.trans y3))
                have zb : w3.cell? ⟨wr.heap.size, 0, none⟩ = some (.int .i64 by_) := (BX.out.extN y3).cell rfl
                clear y3
                cases hh : hasB xs by_
                · have HF := Go.Lib.hid (show chainB xs tx (-1) l = false by rw [HCh.out, HD.out, hh]; simp)
                  clear hh
                  go_wp2
                  go_ret
                  exact ⟨ret_bool (by rw [HE.out, HF.out]), X1.out.trans XF.out⟩
                · have HF := Go.Lib.hid (show chainB xs tx (-1) l = chainB xs tx by_ (l.drop (i + 1)) by rw [HCh.out, HD.out, hh, decide_eq_true hl]; simp)
                  clear hh
                  go_wp2_with fail
                  go_roundw
                  case rel => exact ⟨i + 1, by_, hlt, rfl, by go_num, XF.out, HF.out⟩
                  case measure => simp [intOf]; omega
              · have HF := Go.Lib.hid (show chainB xs tx (-1) l = false by rw [HCh.out, HD.out, decide_eq_false hl]; simp)
                go_wp2
                go_ret
                exact ⟨ret_bool (by rw [HE.out, HF.out]), (X1.out.trans XX.out).trans XA.out⟩
            · have HF := Go.Lib.hid (show chainB xs text (-1) l = false by rw [HCh.out, HD.out, decide_eq_false ht]; simp)
              have ht2 : ¬ tx.toList = text.toList := fun e => ht (toList_inj e)
              clear ht
              go_wp2
              go_ret
              exact ⟨ret_bool (by rw [HE.out, HF.out]), (X1.out.trans XX.out).trans XA.out⟩
          · have HF := Go.Lib.hid (show chainB xs text (-1) l = true by rw [HCh.out, List.drop_eq_nil_of_le (by omega)]; rfl)
            go_wp2
            go_ret
            exact ⟨ret_bool (by rw [HE.out, HF.out]), X1.out.trans XX.out⟩
      · have HE := Go.Lib.hid (show provesB ep xs text l = false by unfold provesB; rw [decide_eq_false hq]; simp)
        have hq' : ((l.length : Nat) : Int) < quorumI xs.length := by omega
        go_enter Try.func54, Try.ntmps54
        go_wp2_with fail
        refine (council_Right _ _ _ _ _ (HH.out.extN X0.out)).mono ?_
        rintro e w1 ⟨rfl, y⟩
        rw [HC.out]
        have q1 : w1.cell? ⟨w.heap.size, 1, none⟩ = some (.slice a xs.length cap) := (B0.out.extN y).cell rfl
        go_wp2_with fail
        refine (council_Quorum _ (by omega) (by omega) _).mono ?_
        rintro e w2 ⟨rfl, rfl⟩
        go_wp2
        go_ret
        exact ⟨ret_bool HE.out.symm, X0.out.trans y⟩
    · have HE := Go.Lib.hid (show provesB ep xs text l = false by unfold provesB; rw [decide_eq_false h16]; simp)
      have h16i : (16 : Int) < ((l.length : Nat) : Int) := by omega
      go_enter Try.func54, Try.ntmps54
      go_wp2_with fail
      refine (council_Right _ _ _ _ _ (HH.out.extN X0.out)).mono ?_
      rintro e w1 ⟨rfl, y⟩
      rw [HC.out]
      go_wp2
      go_ret
      exact ⟨ret_bool HE.out.symm, X0.out.trans y⟩
end Go.Proofs.Ytakbkpklfihfiaa
