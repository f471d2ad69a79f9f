/- Joined texts: Again12. What each proves stands at its head; no conditions beside those in its theorems. -/
import Derived.Test.YtfefeepljbfcdaaPjAA
import Derived.Test.YtfefeepljbfcdaaPjAB
import Derived.Test.YtfefeepljbfcdaaPjAC
import Derived.Test.YtfefeepljbfcdaaPjAE
import Derived.Test.YtfefeepljbfcdaaPjAI
import Derived.Test.YtfefeepljbfcdaaPjAM
import Derived.Test.YtfefeepljbfcdaaPjAF
import Derived.Test.YtfefeepljbfcdaaPjAJ
import Derived.Test.YtfefeepljbfcdaaPjAK
import Derived.Test.YtfefeepljbfcdaaPjAN
import Derived.Test.YtfefeepljbfcdaaPjAR
import Derived.Test.YtfefeepljbfcdaaPjAS
import Derived.Test.YtfefeepljbfcdaaPjAG
import Derived.Test.YtfefeepljbfcdaaPjAL
import Derived.Test.YtfefeepljbfcdaaPjAO
import Derived.Test.YtfefeepljbfcdaaPjBC
import Derived.Test.YtfefeepljbfcdaaPjBD
import Derived.Test.YtfefeepljbfcdaaPjAD
import Derived.Test.YtfefeepljbfcdaaPjAP
import Derived.Test.YtfefeepljbfcdaaPjAT
import Derived.Test.YtfefeepljbfcdaaPjAU
import Derived.Test.YtfefeepljbfcdaaPjAV
import Derived.Test.YtfefeepljbfcdaaPjAW
import Derived.Test.YtfefeepljbfcdaaPjAX
import Derived.Test.YtfefeepljbfcdaaPjAY
import Derived.Test.YtfefeepljbfcdaaPjAZ
import Derived.Test.YtfefeepljbfcdaaPjBA
import Derived.Test.YtfefeepljbfcdaaPjBF
import Derived.Test.YtfefeepljbfcdaaPjBG
import Derived.Test.YtfefeepljbfcdaaPjAH
import Derived.Test.YtfefeepljbfcdaaPjBI
import Derived.Test.YtfefeepljbfcdaaPjBJ
import Derived.Test.YtfefeepljbfcdaaPjBK
import Derived.Test.YtfefeepljbfcdaaPjBL
import Derived.Test.YtfefeepljbfcdaaPjBM
import Derived.Test.YtfefeepljbfcdaaPjBN
import Derived.Test.YtfefeepljbfcdaaPjBO
import Derived.Test.YtfefeepljbfcdaaPjBH
import Derived.Test.YtfefeepljbfcdaaPjAQ
import Derived.Test.YtfefeepljbfcdaaPjBB
import Derived.Test.YtfefeepljbfcdaaPjBE
/- The law LedgerAgain: the walk. -/
namespace Go.Proofs.Ytfefeepljbfcdaa
open Go.RowKit Go.Lib F64
set_option linter.unusedSimpArgs false
set_option linter.unusedVariables false
attribute [local go_sem] run_store_float
attribute [local go_sem low] EW.cellN EW.frozN alloc_cell_or alloc_froz_or EW.cellF EW.frozF EW.cell1 EW.froz1
attribute [local go_sem] relAt relUpon
theorem same_resA (k : Int) (x : Nat) (w : World) : Calls Try.prog 23 #[.agg #[.int .i64 k, .float .f64 x], .agg #[.int .i64 k, .float .f64 x]] w fun e w' => e = .returned (.bool true) ∧ Ext Non w w' :=
  (ref_SameResult k k x x w).mono fun e w' ⟨he, hx⟩ => ⟨by rw [he]; simp, hx⟩
set_option maxHeartbeats 4000000 in
set_option maxRecDepth 100000 in
theorem walk_LedgerAgain (ep : Int) (a : Option Addr) (cap : Nat) (xs : List Int) (sa : Option Addr) (len scap : Nat) (F : Nat → Qop) (hl : len ≤ maxLen) (sa2 : Option Addr) (len2 scap2 : Nat) (F2 : Nat → Qop) (hl2 : len2 ≤ maxLen) (w : World) (h : Ints w a cap xs) (hs : Ops w sa len F) (hs2 : Ops w sa2 len2 F2) :
    Calls Try.prog 7 #[.agg #[.int .i64 ep, .slice a xs.length cap], .slice sa len scap, .slice sa2 len2 scap2] w fun e w' => e = .returned (.bool true) ∧ Ext Non w w' := by
  unfold maxLen at hl2
  have HH := Go.Lib.hid h
  have HS := Go.Lib.hid hs
  have HS2 := Go.Lib.hid hs2
  have HL := Go.Lib.hid hl
  clear h hs hs2 hl
  by_cases hne : confB ep xs = true ∧ ep = 0
  · obtain ⟨hc, rfl⟩ := hne
    have hm : membersB xs = true := by unfold confB at hc; simp only [Bool.and_eq_true] at hc; exact hc.2
    have HM := Go.Lib.hid hm
    clear hc hm
    have B0 := Go.Lib.hid (Bx.newAt w [.int .i64 0, .slice a xs.length cap] 24 _ rfl)
    go_enter Try.func7, Try.ntmps7
    go_wp2_with fail
    refine Calls.ew (law12_lives _) ?_
    rintro e x1 rfl
    have B1 := Go.Lib.hid (B0.out.extN x1.ext)
    have c0 : x1.on.cell? ⟨w.heap.size, 0, none⟩ = some (.int .i64 0) := B1.out.cell rfl
    have c1 : x1.on.cell? ⟨w.heap.size, 1, none⟩ = some (.slice a xs.length cap) := B1.out.cell rfl
    have XA := Go.Lib.hid (by (repeat (first | with_reducible (first | exact Ext.refl _ _ | assumption | refine Ext.upN ?_ | refine Ext.alloc ?_ _ | refine Ext.drew ?_ | refine Ext.drewN ?_ _ | refine Ext.up1N (by first | omega | simp) ?_) | refine Ext.alloc ?_ _ | refine Ext.setCell ?_ (.inr (by first | omega | simp)) _)) : Ext Non w x1.on)
    go_wp2_with fail
    refine (played_ok a cap xs HM.out sa len scap F HL.out _ (HH.out.extN XA.out) (HS.out.extN XA.out)).mono ?_
    rintro e w2 ⟨b, m, g, rfl, hx, hL, I, hb, hm⟩
    have X2 := Go.Lib.hid (XA.out.trans hx)
    have L2 := Go.Lib.hid hL; have HI := Go.Lib.hid I
    have nd : NdK g.keys := hL.mp.nodup
    have HND := Go.Lib.hid nd
    have hb0 : w.heap.size ≤ b := Nat.le_trans XA.out.size hb
    have hm0 : w.heap.size ≤ m := Nat.le_trans XA.out.size hm
    obtain ⟨tt, htt⟩ : ∃ tt, tt = sB (ledgT g) := ⟨_, rfl⟩
    have KT : Hid (∀ w' b m h, Sm g h → Inv h → LD w' b m h → Calls Try.prog 27 #[.pointer (some ⟨b, 0, none⟩)] w' fun e w'' => e = .returned (.string tt) ∧ Ext Non w' w'') := Go.Lib.hid (fun w' b m h s I' h' => by
      have := ledger_Text b m h I' w' h'
      rw [ledgS_of I' h'.mp.nodup, s.text] at this
      rw [htt]
      exact this)
    have KO : Hid (∀ w', Calls Try.prog 29 #[.string tt] w' fun e w'' => ∃ b m, e = .returned (.tuple #[.pointer (some ⟨b, 0, none⟩), .int .i64 0]) ∧ Ext Non w' w'' ∧ LD w'' b m (srtL g) ∧ w'.heap.size ≤ b ∧ w'.heap.size ≤ m) := Go.Lib.hid (fun w' => by rw [htt]; exact ledger_Open_ok g I nd w')
    clear hx hL I nd htt c0 c1 B1 B0 hb hm
    clear XA x1
    go_wp2_with fail
    refine Calls.ew (KT.out _ b m g (Sm.refl HND.out) HI.out L2.out) ?_
    rintro e x3 rfl
    go_wp2_with fail
    refine (KO.out _).mono ?_
    rintro e w4 ⟨b1, m1, rfl, hx4, hL4, hb1, hm1⟩
    have X4 := Go.Lib.hid ((X2.out.trans x3.ext).trans hx4)
    have L4 := Go.Lib.hid (L2.out.extN (x3.ext.trans hx4))
    have M4 := Go.Lib.hid hL4
    have lb : b < w4.heap.size := L4.out.lt
    have lm : m < w4.heap.size := L4.out.mp.lt
    have A1 : b < b1 ∧ b < m1 ∧ m < b1 ∧ m < m1 := by
      have z1 := L2.out.lt; have z2 := L2.out.mp.lt; have z3 := x3.ext.size
      refine ⟨?_, ?_, ?_, ?_⟩ <;> omega
    have n1 : w.heap.size ≤ b1 ∧ w.heap.size ≤ m1 := by
      have z1 := L2.out.lt; omega
    have IS := Go.Lib.hid (srt_inv HI.out)
    have SS := Go.Lib.hid (Sm.srt HND.out)
    clear hx4 hL4 hb1 hm1 X2 L2
    clear x3
    go_wp2_with fail
    refine (ledger_Copy b m g HI.out _ L4.out).mono ?_
    rintro e w5 ⟨b2, m2, rfl, hx5, hL5, hb2, hm2⟩
    have X5 := Go.Lib.hid (X4.out.trans hx5)
    have L5 := Go.Lib.hid (L4.out.extN hx5)
    have M5 := Go.Lib.hid (M4.out.extN hx5)
    have N5 := Go.Lib.hid hL5
    have A2 : b < b2 ∧ b < m2 ∧ m < b2 ∧ m < m2 := by refine ⟨?_, ?_, ?_, ?_⟩ <;> omega
    have A3 : b1 < b2 ∧ b1 < m2 ∧ m1 < b2 ∧ m1 < m2 := by
      have z1 := M4.out.lt; have z2 := M4.out.mp.lt
      refine ⟨?_, ?_, ?_, ?_⟩ <;> omega
    have n2 : w.heap.size ≤ b2 ∧ w.heap.size ≤ m2 := by omega
    clear hx5 hL5 hb2 hm2 X4 L4 M4 lb lm
    have A1 := Go.Lib.hid A1; have A2 := Go.Lib.hid A2; have A3 := Go.Lib.hid A3; have n1 := Go.Lib.hid n1; have n2 := Go.Lib.hid n2
    go_wp2_with fail
    refine Calls.ew (KT.out _ b1 m1 _ SS.out IS.out M5.out) ?_
    rintro e y1 rfl
    go_wp2_with fail
    refine Calls.ew (KT.out _ b2 m2 _ (Sm.refl HND.out) HI.out (N5.out.extN y1.ext)) ?_
    rintro e y2 rfl
    have X6 := Go.Lib.hid ((X5.out.trans y1.ext).trans y2.ext)
    have L6 := Go.Lib.hid ((L5.out.extN y1.ext).extN y2.ext)
    have M6 := Go.Lib.hid ((M5.out.extN y1.ext).extN y2.ext)
    have N6 := Go.Lib.hid ((N5.out.extN y1.ext).extN y2.ext)
    clear X5 L5 M5 N5 KO
    generalize y2.on = w6 at *
    clear y2
    clear y1
    go_wp2_with fail
    go_loopg [12, 13, 14, 15, 16] len2 (fun k iv v13 v14 v15 v16 wr => ∃ (i : Nat) (g1 g2 : Lg), i ≤ len2 ∧ k = len2 - i ∧ iv = .int .i64 i ∧ Inv g1 ∧ Inv g2 ∧ Sm g1 g2 ∧ LD wr b1 m1 g2 ∧ LD wr b2 m2 g1 ∧ LD wr b m g ∧ Ext Non w wr)
    case atStart => exact ⟨0, g, srtL g, Nat.zero_le _, rfl, rfl, HI.out, IS.out, SS.out, M6.out, N6.out, L6.out, X6.out⟩
    case round =>
      obtain ⟨i, g1, g2, hi, rfl, rfl, J1, J2, S, hM, hN, hL, x⟩ := hrel
      have J1 := Go.Lib.hid J1; have J2 := Go.Lib.hid J2; have S := Go.Lib.hid S; have HM7 := Go.Lib.hid hM; have HN7 := Go.Lib.hid hN; have HL7 := Go.Lib.hid hL; have XX := Go.Lib.hid x
      clear hM hN hL x L6 M6 N6 X6
      by_cases hlt : i < len2
      · obtain ⟨ob, oo, rfl, hsb, p0, p1, p2, p3, p4, p5, p6⟩ := (HS2.out.extN XX.out).at_ i hlt
        have OK := Go.Lib.hid (HS2.out.ok i hlt)
        generalize hq : F2 i = q at *
        obtain ⟨qt, qc, qs, qk, qkey, qn, qid⟩ := q
        have HQ := Go.Lib.hid hq
        clear hq
        simp only at p0 p1 p2 p3 p4 p5 p6
        cases qt
        · go_wp2_with fail
          refine Calls.ew (ask_Request qc qs qk qkey qn qid _) ?_
          rintro e y3 rfl
          have hn64 : qn.toNat < 18446744073709551616 := by have := OK.out.b0; have := OK.out.b1; simp only at this; omega
          have HN64 := Go.Lib.hid hn64
          have HM8 := Go.Lib.hid (HM7.out.extN y3.ext); have HN8 := Go.Lib.hid (HN7.out.extN y3.ext); have HL8 := Go.Lib.hid (HL7.out.extN y3.ext)
          have X8 := Go.Lib.hid (XX.out.trans y3.ext)
          clear hn64
          go_wp2_with fail
          refine (ledger_Do b1 m1 g2 J2.out qc qs qk qkey qn.toNat qid OK.out.c OK.out.s OK.out.k OK.out.id HN64.out _ HM8.out).mono ?_
          rintro e w9 ⟨rfl, x9, hM⟩
          obtain ⟨rq, hrq⟩ : ∃ rq : Req, rq = ⟨qc, qs, ⟨qk, qkey, qn.toNat, qid⟩⟩ := ⟨_, rfl⟩
          rw [← hrq] at hM
          rw [← hrq]
          have HRQ := Go.Lib.hid hrq
          have HM9 := Go.Lib.hid hM
          have HN9 := Go.Lib.hid (HN8.out.ext x9 (fun z => by have := A3.out; rcases z with z | z <;> omega) (fun z => by have := A3.out; rcases z with z | z <;> omega) HM8.out.noInts)
          have HL9 := Go.Lib.hid (HL8.out.ext x9 (fun z => by have := A1.out; rcases z with z | z <;> omega) (fun z => by have := A1.out; rcases z with z | z <;> omega) HM8.out.noInts)
          have X9 := Go.Lib.hid (X8.out.step x9 (fun k hk z => by have := n1.out; rcases z with z | z <;> omega))
          have ID2 := Go.Lib.hid (inv_do J2.out rq (by rw [HRQ.out]; exact HN64.out)).1
          have ID1 := Go.Lib.hid (inv_do J1.out rq (by rw [HRQ.out]; exact HN64.out)).1
          have SD := Go.Lib.hid (S.out.doL rq)
          have SE := Go.Lib.hid (S.out.doE rq)
          have SR := Go.Lib.hid (S.out.doR rq)
          rw [SE.out, SR.out]
          clear hrq hM x9 p0 p1 p2 p3 p4 p5 p6 HM8 HN8 HL8 X8
          clear XX HM7 HN7 HL7
          clear y3
          obtain ⟨ob', oo', he, -, r0, r1, r2, r3, r4, r5, r6⟩ := (HS2.out.extN X9.out).at_ i hlt
          cases he
          rw [HQ.out] at r0 r1 r2 r3 r4 r5 r6
          simp only at r0 r1 r2 r3 r4 r5 r6
          have KD1 : Hid (∀ w', LD w' b2 m2 g1 → Calls Try.prog 16 #[.pointer (some ⟨b2, 0, none⟩), .agg #[.int .i64 qc, .int .i64 qs, .int .i64 qk, .string qkey, .float .f64 qn.toNat, .int .i64 qid]] w' fun e w'' =>
              e = .returned (.tuple #[.agg #[.int .i64 (Go.Proofs.Ytfefeepljbfcdaa.doR g1 rq).code, .float .f64 (Go.Proofs.Ytfefeepljbfcdaa.doR g1 rq).real], .int .i64 (Go.Proofs.Ytfefeepljbfcdaa.doE g1 rq)]) ∧ Ext (Two b2 m2) w' w'' ∧ LD w'' b2 m2 (Go.Proofs.Ytfefeepljbfcdaa.doL g1 rq)) := Go.Lib.hid (fun w' h => by
            rw [HRQ.out]
            exact ledger_Do b2 m2 g1 J1.out qc qs qk qkey qn.toNat qid OK.out.c OK.out.s OK.out.k OK.out.id HN64.out w' h)
          generalize Go.Proofs.Ytfefeepljbfcdaa.doL g1 rq = h1 at *
          generalize Go.Proofs.Ytfefeepljbfcdaa.doL g2 rq = h2 at *
          generalize Go.Proofs.Ytfefeepljbfcdaa.doE g1 rq = er at *
          generalize (Go.Proofs.Ytfefeepljbfcdaa.doR g1 rq).code = rc at *
          generalize (Go.Proofs.Ytfefeepljbfcdaa.doR g1 rq).real = rr at *
          have AL : Ext Non w9 (w9.alloc (.cells #[.int .i64 rc, .float .f64 rr] 43)) := (Ext.refl _ _).alloc _
          have BX := Go.Lib.hid (Bx.newAt w9 [.int .i64 rc, .float .f64 rr] 43 _ rfl)
          have HMa := Go.Lib.hid (HM9.out.extN AL); have HNa := Go.Lib.hid (HN9.out.extN AL); have HLa := Go.Lib.hid (HL9.out.extN AL); have Xa := Go.Lib.hid (X9.out.trans AL)
          have lb2 : b2 < w9.heap.size := HN9.out.lt
          have lm2 : m2 < w9.heap.size := HN9.out.mp.lt
          have lb1 : b1 < w9.heap.size := HM9.out.lt
          go_wp2_with fail
          refine Calls.ew (ask_Request qc qs qk qkey qn qid _) ?_
          rintro e y4 rfl
          have BXb := Go.Lib.hid (BX.out.extN y4.ext)
          have HMb := Go.Lib.hid (HMa.out.extN y4.ext); have HNb := Go.Lib.hid (HNa.out.extN y4.ext); have HLb := Go.Lib.hid (HLa.out.extN y4.ext); have Xb := Go.Lib.hid (Xa.out.trans y4.ext)
          have LB := Go.Lib.hid (And.intro lb2 (And.intro lm2 lb1))
          clear AL BX HM9 HN9 HL9 X9 HMa HNa HLa Xa lb2 lm2 lb1
          go_wp2_with fail
          refine (KD1.out _ HNb.out).mono ?_
          rintro e wc ⟨rfl, xc, hN⟩
          have HNc := Go.Lib.hid hN
          have HMc := Go.Lib.hid (HMb.out.ext xc (fun z => by have := A3.out; rcases z with z | z <;> omega) (fun z => by have := A3.out; rcases z with z | z <;> omega) HNb.out.noInts)
          have HLc := Go.Lib.hid (HLb.out.ext xc (fun z => by have := A2.out; rcases z with z | z <;> omega) (fun z => by have := A2.out; rcases z with z | z <;> omega) HNb.out.noInts)
          have Xc := Go.Lib.hid (Xb.out.step xc (fun k hk z => by have := n2.out; rcases z with z | z <;> omega))
          have BXc := Go.Lib.hid (BXb.out.ext xc (fun z => by have := LB.out; rcases z with z | z <;> omega))
          clear hN xc HMb HNb HLb Xb BXb r0 r1 r2 r3 r4 r5 r6
          clear y4
          have c0 : wc.cell? ⟨w9.heap.size, 0, none⟩ = some (.int .i64 rc) := BXc.out.cell rfl
          have c1 : wc.cell? ⟨w9.heap.size, 1, none⟩ = some (.float .f64 rr) := BXc.out.cell rfl
          go_wp2_with fail
          refine Calls.ew (same_resA rc rr _) ?_
          rintro e y5 rfl
          go_wp2_with fail
          go_roundg (len2 - (i + 1))
          case measure => omega
          case rel => exact ⟨i + 1, h1, h2, hlt, rfl, by go_num, ID1.out, ID2.out, SD.out, HMc.out.extN (by (repeat (first | with_reducible (first | exact Ext.refl _ _ | assumption | refine Ext.upN ?_ | refine Ext.alloc ?_ _ | refine Ext.drew ?_ | refine Ext.drewN ?_ _ | refine Ext.up1N (by first | omega | simp) ?_) | refine Ext.alloc ?_ _ | refine Ext.setCell ?_ (.inr (by first | omega | simp)) _))), HNc.out.extN (by (repeat (first | with_reducible (first | exact Ext.refl _ _ | assumption | refine Ext.upN ?_ | refine Ext.alloc ?_ _ | refine Ext.drew ?_ | refine Ext.drewN ?_ _ | refine Ext.up1N (by first | omega | simp) ?_) | refine Ext.alloc ?_ _ | refine Ext.setCell ?_ (.inr (by first | omega | simp)) _))), HLc.out.extN (by (repeat (first | with_reducible (first | exact Ext.refl _ _ | assumption | refine Ext.upN ?_ | refine Ext.alloc ?_ _ | refine Ext.drew ?_ | refine Ext.drewN ?_ _ | refine Ext.up1N (by first | omega | simp) ?_) | refine Ext.alloc ?_ _ | refine Ext.setCell ?_ (.inr (by first | omega | simp)) _))), Xc.out.trans (by (repeat (first | with_reducible (first | exact Ext.refl _ _ | assumption | refine Ext.upN ?_ | refine Ext.alloc ?_ _ | refine Ext.drew ?_ | refine Ext.drewN ?_ _ | refine Ext.up1N (by first | omega | simp) ?_) | refine Ext.alloc ?_ _ | refine Ext.setCell ?_ (.inr (by first | omega | simp)) _)))⟩
        · clear p1 p2 p3 p4 p5 p6
          go_wp2_with fail
          refine (ledger_Turn b1 m1 g2 J2.out _ HM7.out).mono ?_
          rintro e w9 ⟨rfl, x9, hM⟩
          have HM9 := Go.Lib.hid hM
          have HN9 := Go.Lib.hid (HN7.out.ext x9 (fun z => by have z : b2 = b1 := z; have := A3.out; omega) (fun z => by have z : m2 = b1 := z; have := A3.out; omega) (fun k q => HM7.out.noInts k (.inl q)))
          have HL9 := Go.Lib.hid (HL7.out.ext x9 (fun z => by have z : b = b1 := z; have := A1.out; omega) (fun z => by have z : m = b1 := z; have := A1.out; omega) (fun k q => HM7.out.noInts k (.inl q)))
          have X9 := Go.Lib.hid (XX.out.step x9 (fun k hk z => by have z : k = b1 := z; have := n1.out; omega))
          rw [S.out.turnE]
          clear hM x9 HM7 HN7 HL7 XX p0
          go_wp2_with fail
          refine (ledger_Turn b2 m2 g1 J1.out _ HN9.out).mono ?_
          rintro e wa ⟨rfl, xa, hN⟩
          have HNa := Go.Lib.hid hN
          have HMa := Go.Lib.hid (HM9.out.ext xa (fun z => by have z : b1 = b2 := z; have := A3.out; omega) (fun z => by have z : m1 = b2 := z; have := A3.out; omega) (fun k q => HN9.out.noInts k (.inl q)))
          have HLa := Go.Lib.hid (HL9.out.ext xa (fun z => by have z : b = b2 := z; have := A2.out; omega) (fun z => by have z : m = b2 := z; have := A2.out; omega) (fun k q => HN9.out.noInts k (.inl q)))
          have Xa := Go.Lib.hid (X9.out.step xa (fun k hk z => by have z : k = b2 := z; have := n2.out; omega))
          have I1 := Go.Lib.hid (inv_turn J1.out); have I2 := Go.Lib.hid (inv_turn J2.out); have ST := Go.Lib.hid S.out.turn
          clear hN xa HM9 HN9 HL9 X9
          generalize turnL g1 = h1 at *
          generalize turnL g2 = h2 at *
          generalize Go.Proofs.Ytfefeepljbfcdaa.turnE g1 = te at *
          go_wp2_with fail
          go_roundg (len2 - (i + 1))
          case measure => omega
          case rel => exact ⟨i + 1, h1, h2, hlt, rfl, by go_num, I1.out, I2.out, ST.out, HMa.out, HNa.out, HLa.out, Xa.out⟩
      · have SM : Hid (∀ w', LD w' b1 m1 g2 → Calls Try.prog 27 #[.pointer (some ⟨b1, 0, none⟩)] w' fun e w'' => e = .returned (.string (sB (ledgT g1))) ∧ Ext Non w' w'') := Go.Lib.hid (fun w' h => by
          have := ledger_Text b1 m1 g2 J2.out w' h
          rw [ledgS_of J2.out h.mp.nodup, S.out.text] at this
          exact this)
        have SN : Hid (∀ w', LD w' b2 m2 g1 → Calls Try.prog 27 #[.pointer (some ⟨b2, 0, none⟩)] w' fun e w'' => e = .returned (.string (sB (ledgT g1))) ∧ Ext Non w' w'') := Go.Lib.hid (fun w' h => by
          have := ledger_Text b2 m2 g1 J1.out w' h
          rw [ledgS_of J1.out h.mp.nodup] at this
          exact this)
        generalize sB (ledgT g1) = t2 at *
        go_wp2_with fail
        refine Calls.ew (SM.out _ HM7.out) ?_
        rintro e y1 rfl
        go_wp2_with fail
        refine Calls.ew (SN.out _ (HN7.out.extN y1.ext)) ?_
        rintro e y2 rfl
        go_wp2_with fail
        refine Calls.ew (KT.out _ b m g (Sm.refl HND.out) HI.out ((HL7.out.extN y1.ext).extN y2.ext)) ?_
        rintro e y3 rfl
        go_wp2
        go_ret
        exact ⟨rfl, ((XX.out.trans y1.ext).trans y2.ext).trans y3.ext⟩
  · have hn : confB ep xs = false ∨ ep ≠ 0 := by
      rcases Classical.em (ep = 0) with h | h
      · exact .inl (by simpa [h] using hne)
      · exact .inr h
    have HN := Go.Lib.hid hn
    have hb : (Go.Proofs.Ytfefeepljbfcdaa.confB ep xs && decide (ep = 0)) = false := by
      rcases hn with h | h <;> simp [h]
    clear hne hn
    have B0 := Go.Lib.hid (Bx.newAt w [.int .i64 ep, .slice a xs.length cap] 24 _ rfl)
    go_enter Try.func7, Try.ntmps7
    go_wp2_with fail
    refine Calls.ew (law12_lives _) ?_
    rintro e x1 rfl
    have B1 := Go.Lib.hid (B0.out.extN x1.ext)
    have c0 : x1.on.cell? ⟨w.heap.size, 0, none⟩ = some (.int .i64 ep) := B1.out.cell rfl
    have c1 : x1.on.cell? ⟨w.heap.size, 1, none⟩ = some (.slice a xs.length cap) := B1.out.cell rfl
    go_wp2_with fail
    refine Calls.ew (played_no ep a cap xs HN.out _ _ (HH.out.extN (by (repeat (first | with_reducible (first | exact Ext.refl _ _ | assumption | refine Ext.upN ?_ | refine Ext.alloc ?_ _ | refine Ext.drew ?_ | refine Ext.drewN ?_ _ | refine Ext.up1N (by first | omega | simp) ?_) | refine Ext.alloc ?_ _ | refine Ext.setCell ?_ (.inr (by first | omega | simp)) _))))) ?_
    rintro e x2 rfl
    go_wp2_with fail
    cases hcb : Go.Proofs.Ytfefeepljbfcdaa.confB ep xs with
    | false =>
      refine Calls.ew ((council_Right ep a cap xs _ (HH.out.extN (by (repeat (first | with_reducible (first | exact Ext.refl _ _ | assumption | refine Ext.upN ?_ | refine Ext.alloc ?_ _ | refine Ext.drew ?_ | refine Ext.drewN ?_ _ | refine Ext.up1N (by first | omega | simp) ?_) | refine Ext.alloc ?_ _ | refine Ext.setCell ?_ (.inr (by first | omega | simp)) _))))).mono fun e w' ⟨h1, h2⟩ => (⟨by rw [h1, hcb], h2⟩ : e = .returned (.bool false) ∧ Ext Non _ w')) ?_
      rintro e x3 rfl
      go_wp2
      go_ret
      exact ⟨rfl, by (repeat (first | with_reducible (first | exact Ext.refl _ _ | assumption | refine Ext.upN ?_ | refine Ext.alloc ?_ _ | refine Ext.drew ?_ | refine Ext.drewN ?_ _ | refine Ext.up1N (by first | omega | simp) ?_) | refine Ext.alloc ?_ _ | refine Ext.setCell ?_ (.inr (by first | omega | simp)) _))⟩
    | true =>
      have hep : (ep != 0) = true := by
        rcases HN.out with h | h
        · rw [hcb] at h; cases h
        · simpa using h
      refine Calls.ew ((council_Right ep a cap xs _ (HH.out.extN (by (repeat (first | with_reducible (first | exact Ext.refl _ _ | assumption | refine Ext.upN ?_ | refine Ext.alloc ?_ _ | refine Ext.drew ?_ | refine Ext.drewN ?_ _ | refine Ext.up1N (by first | omega | simp) ?_) | refine Ext.alloc ?_ _ | refine Ext.setCell ?_ (.inr (by first | omega | simp)) _))))).mono fun e w' ⟨h1, h2⟩ => (⟨by rw [h1, hcb], h2⟩ : e = .returned (.bool true) ∧ Ext Non _ w')) ?_
      rintro e x3 rfl
      go_wp2
      go_ret
      exact ⟨rfl, by (repeat (first | with_reducible (first | exact Ext.refl _ _ | assumption | refine Ext.upN ?_ | refine Ext.alloc ?_ _ | refine Ext.drew ?_ | refine Ext.drewN ?_ _ | refine Ext.up1N (by first | omega | simp) ?_) | refine Ext.alloc ?_ _ | refine Ext.setCell ?_ (.inr (by first | omega | simp)) _))⟩
set_option maxRecDepth 100000 in
open Go.ChangeShapes Go.WideShapes in
theorem law_LedgerAgain {H : Type} {enc : TypeId × Value → H} (W : World) {base : Nat} (v0 : Value) (d0 : DataW H) (p0 : List MemPlace) (v1 : Value) (d1 : DataW H) (p1 : List MemPlace) (v2 : Value) (d2 : DataW H) (p2 : List MemPlace)
    (h0 : DataW.Trod enc Try.prog W 0 (fun _ => true) true 24 v0 d0 p0) (ok0 : Value.okWide Try.prog W .any base 24 v0)
    (h1 : DataW.Trod enc Try.prog W 0 (fun _ => true) true 25 v1 d1 p1) (ok1 : Value.okWide Try.prog W .any base 25 v1)
    (h2 : DataW.Trod enc Try.prog W 0 (fun _ => true) true 25 v2 d2 p2) (ok2 : Value.okWide Try.prog W .any base 25 v2) :
    Calls Try.prog 7 #[v0, v1, v2] W fun e w' => e = .returned (.bool true) ∧ Below W.heap.size W w' := by
  obtain ⟨ep, a, cap, xs, rfl, _, hi, _⟩ := arg_conf ok0 h0
  obtain ⟨sa, len, scap, F, rfl, hl, hs⟩ := arg_ops ok1 h1
  obtain ⟨sa2, len2, scap2, F2, rfl, hl2, hs2⟩ := arg_ops ok2 h2
  exact (walk_LedgerAgain ep a cap xs sa len scap F hl sa2 len2 scap2 F2 hl2 W hi hs hs2).mono fun _ _ ⟨a, b⟩ => ⟨a, b.toBelow⟩
end Go.Proofs.Ytfefeepljbfcdaa
