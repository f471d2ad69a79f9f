/- The reference's proofs (layer 9). -/
import Derived.Test.YtakbkpklfihfiaaProves
namespace Go.Proofs.Ytakbkpklfihfiaa
open Go.RowKit Go.Lib F64
set_option linter.unusedSimpArgs false
set_option linter.unusedVariables false

set_option maxHeartbeats 8000000 in
set_option maxRecDepth 100000 in
theorem ref_Proves (ep : Int) (a : Option Addr) (cap : Nat) (xs : List Int) (hxl : xs.length ≤ 4611686018427387903) (text : ByteArray) (sa : Option Addr) (scap : Nat) (l : List Sg) (w : World) (h : Ints w a cap xs) (hs : Sigs w sa scap l) :
    Calls Try.prog 72 #[.agg #[.int .i64 ep, .slice a xs.length cap], .string text, .slice sa l.length scap] w fun e w' => e = .returned (.bool (provesB ep xs text l)) ∧ Ext Non w w' := by
  have HH := Go.Lib.hid h; have HS := Go.Lib.hid hs
  have B0 := Go.Lib.hid (Bx.new w [.int .i64 ep, .slice a xs.length cap] 34)
  have X0 := Go.Lib.hid ((Ext.refl Non w).alloc (.cells #[.int .i64 ep, .slice a xs.length cap] 34))
  have hsm := hs.small; have hsl := hs.le
  have PR := Go.Lib.hid (proves_ref ep xs text l)
  clear h hs
  go_enter Try.func72, Try.ntmps72
  go_wp2_with fail
  have hk0 : (w.alloc (.cells #[.int .i64 ep, .slice a xs.length cap] 34)).heap.size = w.heap.size + 1 := by simp
  have HK0 := Go.Lib.hid hk0; clear hk0
  generalize hW1 : w.alloc (.cells #[.int .i64 ep, .slice a xs.length cap] 34) = w1 at *
  clear hW1
  go_loopw [7] (fun iv wr => ∃ (i : Nat), i ≤ l.length ∧ iv = .int .i64 i ∧ Ext Non w1 wr ∧ (∀ j, j < i → okAt xs text l j)) (fun iv _ => l.length - (intOf iv).toNat)
  case atStart => exact ⟨0, Nat.zero_le _, rfl, Ext.refl _ _, fun j hj => absurd hj (Nat.not_lt_zero _)⟩
  case round =>
    obtain ⟨i, hi, rfl, x, hok⟩ := hrel
    have XX := Go.Lib.hid x; have HO := Go.Lib.hid hok
    clear x hok
    by_cases hlt : i < l.length
    · obtain ⟨sb, so, rfl, hsb, c0, c1, hI, hT⟩ := (HS.out.extN (X0.out.trans XX.out)).at_ i hlt
      have BAD : Hid (¬ okAt xs text l i → provesB ep xs text l = false) := Go.Lib.hid (fun hn => PR.out.2 ⟨i, hlt, hn⟩)
      have PV : Hid (0 < i → wr.cell? ⟨sb, so + (i - 1) * 2, none⟩ = some (.int .i64 (sgAt l (i - 1)).by_)) := Go.Lib.hid (fun h0 => by
        obtain ⟨b', o', e', _, p0, _⟩ := (HS.out.extN (X0.out.trans XX.out)).at_ (i - 1) (by omega)
        cases e'; exact p0)
      have BR := Go.Lib.hid (B0.out.extN XX.out)
      have GOOD : Hid ((sgAt l i).text = text ∧ hasB xs (sgAt l i).by_ = true ∧ (0 < i → (sgAt l (i - 1)).by_ < (sgAt l i).by_) → okAt xs text l i) := Go.Lib.hid id
      have BAD1 : Hid (okAt xs text l i → (sgAt l i).text = text ∧ hasB xs (sgAt l i).by_ = true ∧ (0 < i → (sgAt l (i - 1)).by_ < (sgAt l i).by_)) := Go.Lib.hid id
      generalize hsg : sgAt l i = sg at *
      generalize hpv : (sgAt l (i - 1)).by_ = pv at *
      obtain ⟨by_, tx⟩ := sg
      clear hsg hpv
      have XA := Go.Lib.hid ((Ext.refl Non wr).alloc (.cells #[.int .i64 by_, .string tx] 24))
      have z1 : (wr.alloc (.cells #[.int .i64 by_, .string tx] 24)).cell? ⟨w.heap.size, 1, none⟩ = some (.slice a xs.length cap) := (BR.out.extN XA.out).cell rfl
      have s0 : (wr.alloc (.cells #[.int .i64 by_, .string tx] 24)).cell? ⟨wr.heap.size, 0, none⟩ = some (.int .i64 by_) := (Bx.new wr [.int .i64 by_, .string tx] 24).cell rfl
      have s1 : (wr.alloc (.cells #[.int .i64 by_, .string tx] 24)).cell? ⟨wr.heap.size, 1, none⟩ = some (.string tx) := (Bx.new wr [.int .i64 by_, .string tx] 24).cell rfl
      have IH := Go.Lib.hid (HH.out.extN ((X0.out.trans XX.out).trans XA.out))
      by_cases ht : tx = text
      · subst ht
        have ht2 : (tx.toList == tx.toList) = true := beq_self_eq_true _
        cases hh : hasB xs by_
        · have HF := Go.Lib.hid (BAD.out (fun ho => by have := (BAD1.out ho).2.1; rw [show hasB xs (⟨by_, tx⟩ : Sg).by_ = hasB xs by_ from rfl, hh] at this; cases this))
          have HHas := Go.Lib.hid hh; clear hh
          go_upto_region 5 with fail
          generalize wr.alloc (.cells #[.int .i64 by_, .string tx] 24) = w5 at *
          have hq := fun n => ref_Has a cap xs by_ (w5.drewN n) (IH.out.drewN n)
          rw [HHas.out] at hq
          have HQ := Go.Lib.hid hq; clear hq
          go_big_quiet (first | (go_at_call 26; exact Calls.quiet_of (HQ.out _)))
          go_wp2
          go_ret
          exact ⟨ret_bool HF.out.symm, ((X0.out.trans XX.out).trans XA.out).drewN _⟩
        · have HHas := Go.Lib.hid hh; clear hh
          by_cases h0 : i = 0
          · subst h0
            rw [Nat.zero_mul, Nat.add_zero] at c0 c1
            have HG := Go.Lib.hid (GOOD.out ⟨rfl, HHas.out, fun h => absurd h (Nat.lt_irrefl 0)⟩)
            have d3 : decide (0 < 0) = false := rfl
            go_upto_region 5 with fail
            generalize wr.alloc (.cells #[.int .i64 by_, .string tx] 24) = w5 at *
            have hq := fun n => ref_Has a cap xs by_ (w5.drewN n) (IH.out.drewN n)
            rw [HHas.out] at hq
            have HQ := Go.Lib.hid hq; clear hq
            go_big_quiet (first | (go_at_call 26; exact Calls.quiet_of (HQ.out _)))
            go_wp2_with fail
            go_roundw
            case rel =>
              refine ⟨1, by omega, rfl, (XX.out.trans XA.out).drewN _, fun j hj => ?_⟩
              obtain rfl : j = 0 := by omega
              exact HG.out
            case measure => simp [intOf]; omega
          · have d3 : decide (0 < i) = true := decide_eq_true (by omega)
            have hw : IntKind.i64.wrap ((i : Int) - 1) = ((i - 1 : Nat) : Int) := by rw [show ((i : Int) - 1) = ((i - 1 : Nat) : Int) by omega]; exact IntWalk.i64_in _ (by omega)
            have p0 := (XA.out.cell (p := ⟨sb, so + (i - 1) * 2, none⟩) hsb (fun f => f)).trans (PV.out (by omega))
            have hp1' : i - 1 < l.length := by omega
            generalize hpn : i - 1 = p at *
            have HPn := Go.Lib.hid hpn; clear hpn
            have hp0 : (0 : Int) ≤ (p : Int) := by omega
            have hp1 : (p : Int) < (l.length : Int) := by omega
            by_cases h4 : pv < by_
            · have d4 : decide (by_ ≤ pv) = false := decide_eq_false (by omega)
              have HG := Go.Lib.hid (GOOD.out ⟨rfl, HHas.out, fun _ => h4⟩)
              go_upto_region 5 with fail
              generalize wr.alloc (.cells #[.int .i64 by_, .string tx] 24) = w5 at *
              have hq := fun n => ref_Has a cap xs by_ (w5.drewN n) (IH.out.drewN n)
              rw [HHas.out] at hq
              have HQ := Go.Lib.hid hq; clear hq
              go_big_quiet (first | (go_at_call 26; exact Calls.quiet_of (HQ.out _)))
              go_wp2_with fail
              go_roundw
              case rel =>
                refine ⟨i + 1, hlt, by go_num, (XX.out.trans XA.out).drewN _, fun j hj => ?_⟩
                rcases Nat.lt_or_eq_of_le (Nat.lt_succ_iff.1 hj) with h | rfl
                · exact HO.out j h
                · exact HG.out
              case measure => simp [intOf]; omega
            · have d4 : decide (by_ ≤ pv) = true := decide_eq_true (by omega)
              have HF := Go.Lib.hid (BAD.out (fun ho => h4 ((BAD1.out ho).2.2 (by omega))))
              go_upto_region 5 with fail
              generalize wr.alloc (.cells #[.int .i64 by_, .string tx] 24) = w5 at *
              have hq := fun n => ref_Has a cap xs by_ (w5.drewN n) (IH.out.drewN n)
              rw [HHas.out] at hq
              have HQ := Go.Lib.hid hq; clear hq
              go_big_quiet (first | (go_at_call 26; exact Calls.quiet_of (HQ.out _)))
              go_wp2
              go_ret
              exact ⟨ret_bool HF.out.symm, ((X0.out.trans XX.out).trans XA.out).drewN _⟩
      · have HF := Go.Lib.hid (BAD.out (fun ho => ht (BAD1.out ho).1))
        have ht2 : (tx.toList == text.toList) = false := by rw [beq_eq_false_iff_ne]; exact fun e => ht (toList_inj e)
        clear ht
        go_upto_region 5 with fail
        generalize wr.alloc (.cells #[.int .i64 by_, .string tx] 24) = w5 at *
        go_big_quiet (fail)
        go_wp2
        go_ret
        exact ⟨ret_bool HF.out.symm, ((X0.out.trans XX.out).trans XA.out).drewN _⟩
    · have HF := Go.Lib.hid (PR.out.1 (fun j hj => HO.out j (by omega)))
      have BR := Go.Lib.hid (B0.out.extN XX.out)
      have q0 : wr.cell? ⟨w.heap.size, 0, none⟩ = some (.int .i64 ep) := BR.out.cell rfl
      have q1 : wr.cell? ⟨w.heap.size, 1, none⟩ = some (.slice a xs.length cap) := BR.out.cell rfl
      go_wp2_with fail
      refine (ref_Right07 _ _ _ _ _ (HH.out.extN (X0.out.trans XX.out))).mono ?_
      rintro e w6 ⟨rfl, x6⟩
      have XZ := Go.Lib.hid ((X0.out.trans XX.out).trans x6)
      have q2 : w6.cell? ⟨w.heap.size, 1, none⟩ = some (.slice a xs.length cap) := (BR.out.extN x6).cell rfl
      clear x6 q0 q1
      cases hc : confB ep xs
      · have HC := Go.Lib.hid hc; clear hc
        go_wp2
        go_ret
        exact ⟨ret_bool (by rw [HF.out, HC.out]; rfl), XZ.out⟩
      · have HC := Go.Lib.hid hc; clear hc
        go_wp2_with fail
        refine (ref_Quorum _ (by omega) (by omega) _).mono ?_
        rintro e w7 ⟨rfl, rfl⟩
        generalize hQ : quorumI (xs.length : Int) = Q at *
        clear hQ
        by_cases h1 : Q ≤ l.length
        · go_wp2
          go_ret
          exact ⟨ret_bool (by rw [HF.out, HC.out, decide_eq_true h1, Bool.eq_iff_iff]; simp; try omega), XZ.out⟩
        · have H1 := Go.Lib.hid h1
          go_wp2
          go_ret
          exact ⟨ret_bool (by rw [HF.out, HC.out, decide_eq_false (by have := H1.out; omega : ¬ Q ≤ (l.length : Int))]; rfl), XZ.out⟩
end Go.Proofs.Ytakbkpklfihfiaa
