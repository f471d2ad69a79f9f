/- Joined texts: R22d. What each proves stands at its head; no conditions beside those in its theorems. -/
import Derived.Test.YtekbonciafbjiaaGreatPjAA
import Derived.Test.YtekbonciafbjiaaGreatPjAC
import Derived.Test.YtekbonciafbjiaaGreatPjAD
import Derived.Test.YtekbonciafbjiaaGreatPjAG
import Derived.Test.YtekbonciafbjiaaGreatPjAH
import Derived.Test.YtekbonciafbjiaaGreatPjAI
import Derived.Test.YtekbonciafbjiaaGreatPjAN
import Derived.Test.YtekbonciafbjiaaGreatPjAJ
import Derived.Test.YtekbonciafbjiaaGreatPjAS
import Derived.Test.YtekbonciafbjiaaGreatPjAT
import Derived.Test.YtekbonciafbjiaaGreatPjAU
import Derived.Test.YtekbonciafbjiaaGreatPjAV
import Derived.Test.YtekbonciafbjiaaGreatPjAY
import Derived.Test.YtekbonciafbjiaaGreatPjAL
import Derived.Test.YtekbonciafbjiaaGreatPjAM
import Derived.Test.YtekbonciafbjiaaGreatPjAO
import Derived.Test.YtekbonciafbjiaaGreatPjAR
import Derived.Test.YtekbonciafbjiaaGreatPjAW
import Derived.Test.YtekbonciafbjiaaGreatPjBC
import Derived.Test.YtekbonciafbjiaaGreatPjAE
import Derived.Test.YtekbonciafbjiaaGreatPjAP
import Derived.Test.YtekbonciafbjiaaGreatPjBA
import Derived.Test.YtekbonciafbjiaaGreatPjBI
import Derived.Test.YtekbonciafbjiaaGreatPjBJ
import Derived.Test.YtekbonciafbjiaaGreatPjBK
import Derived.Test.YtekbonciafbjiaaGreatPjAX
import Derived.Test.YtekbonciafbjiaaGreatPjBM
import Derived.Test.YtekbonciafbjiaaGreatPjAB
import Derived.Test.YtekbonciafbjiaaGreatPjBN
import Derived.Test.YtekbonciafbjiaaGreatPjBP
import Derived.Test.YtekbonciafbjiaaGreatPjAQ
import Derived.Test.YtekbonciafbjiaaGreatPjBL
import Derived.Test.YtekbonciafbjiaaGreatPjAK
import Derived.Test.YtekbonciafbjiaaGreatPjBB
import Derived.Test.YtekbonciafbjiaaGreatPjBD
import Derived.Test.YtekbonciafbjiaaGreatPjBE
import Derived.Test.YtekbonciafbjiaaGreatPjBF
import Derived.Test.YtekbonciafbjiaaGreatPjAZ
import Derived.Test.YtekbonciafbjiaaGreatPjBG
import Derived.Test.YtekbonciafbjiaaGreatPjBH
import Derived.Test.YtekbonciafbjiaaGreatPjBO
import Derived.Test.YtekbonciafbjiaaGreatPjBQ
import Derived.Test.YtekbonciafbjiaaGreatPjBS
import Derived.Test.YtekbonciafbjiaaGreatPjBT
/- The reference of layer 22: where a request took effect. -/
namespace Go.Proofs.YtekbonciafbjiaaGreat
open Go.RowKit Go.Lib F64
set_option linter.unusedSimpArgs false
set_option linter.unusedVariables false
attribute [local go_sem] run_store_float
attribute [local go_sem low] EW.cellN EW.frozN alloc_cell_or alloc_froz_or EW.cellF EW.frozF EW.cell1 EW.froz1
attribute [local go_sem] relAt relUpon
theorem outI_wrong {xs : List Int} {l : List Req} (hm : membersB xs = true) (hq : ∀ q ∈ l, AskOk q) {q : Req} (hx : q.op.real < 18446744073709551616) (hr : rightB q = false) : outI q (stepsL (newL xs) l) = none := by
  have hlen := stepsL_len l (newL xs)
  cases ho : outI q (stepsL (newL xs) l) with
  | none => rfl
  | some j =>
    exfalso
    obtain ⟨h1, h2, _⟩ := outI_some ho
    have hj : j < l.length := by omega
    rw [hit_iff _ j hj, Bool.and_eq_true, decide_eq_true_eq] at h2
    have ha := hq _ (List.getElem_mem hj)
    obtain ⟨w1, w2, w3⟩ := whole_right (sameT_whole ha.2 hx h2.2)
    have hn : nullB l[j] = true := by
      rcases ha.1 with e | e
      · rw [w3, hr] at e; cases e
      · exact e
    have hs : l[j].stamp = 0 := by
      unfold nullB at hn
      simp only [Bool.and_eq_true, decide_eq_true_eq] at hn
      omega
    have := last_nonneg hm hq j l[j].client
    omega
theorem hit_ref {xs : List Int} {l : List Req} (hq : ∀ q ∈ l, AskOk q) {q : Req} (hx : q.op.real < 18446744073709551616) {i : Nat} (h : i < l.length) : hitB q ((stepsL (newL xs) l)[i]'(by rw [stepsL_len]; exact h)) = (sameT l[i] q && decide (lastS (gAt xs l i) q.client < q.stamp)) := by
  rw [hit_iff q i h]
  cases hs : sameT l[i] q
  · simp
  · obtain ⟨w1, w2, -⟩ := whole_right (sameT_whole (hq _ (List.getElem_mem h)).2 hx hs)
    rw [w1, w2]; simp
set_option maxHeartbeats 8000000 in
set_option maxRecDepth 100000 in
theorem ref22_Outcome (a : Option Addr) (cap : Nat) (xs : List Int) (hm : membersB xs = true) (la : Option Addr) (lc : Nat) (l : List Req) (hl : l.length ≤ 244) (hok : ∀ r ∈ l, ReqOk r) (hq : ∀ q ∈ l, AskOk q) (qc qs qk : Int) (qkey : ByteArray) (qx : Nat) (qid : Int) (hro : ReqOk ⟨qc, qs, ⟨qk, qkey, qx, qid⟩⟩) (w : World) (h : Ints w a cap xs) (hr : Reqs w la lc l) :
    Calls Tryz.prog 14 #[.agg #[.int .i64 0, .slice a xs.length cap], .slice la l.length lc, .agg #[.int .i64 qc, .int .i64 qs, .int .i64 qk, .string qkey, .float .f64 qx, .int .i64 qid]] w fun e w' =>
      e = .returned (outV (stepsL (newL xs) l) (outI ⟨qc, qs, ⟨qk, qkey, qx, qid⟩⟩ (stepsL (newL xs) l))) ∧ Ext Non w w' := by
  have HI := Go.Lib.hid h; have HL := Go.Lib.hid hr; have HM := Go.Lib.hid hm; have HQ := Go.Lib.hid hq; have HOK := Go.Lib.hid hok; have HRO := Go.Lib.hid hro
  have HX64 : Hid (∀ q ∈ l, q.op.real < 18446744073709551616) := Go.Lib.hid (fun q h => (hq q h).2)
  have HG : Hid (∀ i, Inv (gAt xs l i)) := Go.Lib.hid (gAt_inv hm hq)
  have hsl := stepsL_len l (newL xs)
  have HSP : Hid (∀ i (hi : i < l.length) (hi2 : i < (stepsL (newL xs) l).length), (stepsL (newL xs) l)[i] = spOf (gAt xs l i) l[i]) := Go.Lib.hid (fun i hi _ => step_at i hi)
  have HHIT : Hid (∀ i (hi : i < l.length) (hi2 : i < (stepsL (newL xs) l).length), hitB ⟨qc, qs, ⟨qk, qkey, qx, qid⟩⟩ (stepsL (newL xs) l)[i] = (sameT l[i] ⟨qc, qs, ⟨qk, qkey, qx, qid⟩⟩ && decide (lastS (gAt xs l i) qc < qs))) := Go.Lib.hid (fun i hi _ => hit_ref hq hro.x hi)
  have HWR : Hid (rightB ⟨qc, qs, ⟨qk, qkey, qx, qid⟩⟩ = false → outI ⟨qc, qs, ⟨qk, qkey, qx, qid⟩⟩ (stepsL (newL xs) l) = none) := Go.Lib.hid (fun e => outI_wrong hm hq hro.x e)
  have HSL := Go.Lib.hid hsl
  have s1 := hr.small; have s2 := hr.le
  have BQ := Go.Lib.hid ((Bx.newAt (w.alloc (.cells [Value.int .i64 0, .slice a xs.length cap].toArray 24)) [.int .i64 qc, .int .i64 qs, .int .i64 qk, .string qkey, .float .f64 qx, .int .i64 qid] 53 (w.heap.size + 1) (by simp)).alloc (.cells #[.int .i64 0, .float .f64 0] 47))
  have B7 := Go.Lib.hid (Bx.newAt ((w.alloc (.cells [Value.int .i64 0, .slice a xs.length cap].toArray 24)).alloc (.cells [Value.int .i64 qc, .int .i64 qs, .int .i64 qk, .string qkey, .float .f64 qx, .int .i64 qid].toArray 53)) [.int .i64 0, .float .f64 0] 47 (w.heap.size + 2) (by simp))
  clear h hr hm hq hok hro hsl
  generalize stepsL (newL xs) l = sp at *
  go_enter Tryz.func14, Tryz.ntmps14
  go_wp2_with fail
  refine (ref12_New a cap xs HM.out _ (HI.out.extN (by (repeat (first | with_reducible (first | exact Ext.refl _ _ | assumption | refine Ext.upN ?_ | refine Ext.alloc ?_ _ | refine Ext.drew ?_ | refine Ext.drewN ?_ _ | refine Ext.up1N (by first | omega | simp) ?_) | refine Ext.alloc ?_ _ | refine Ext.setCell ?_ (.inr (by first | omega | simp)) _))))).mono ?_
  rintro e _ ⟨b, sb, rb, rfl, hL, hx, hb1, hb2, hb3⟩
  obtain ⟨x1, rfl⟩ := hx.ew
  have HL0 : Hid (RL x1.on b sb rb (gAt xs l 0)) := Go.Lib.hid hL
  have HBS : Hid (w.heap.size + 2 < b ∧ w.heap.size + 2 < sb ∧ w.heap.size + 2 < rb) := Go.Lib.hid (by simp at hb1 hb2 hb3; omega)
  have BQ1 := Go.Lib.hid (BQ.out.extN x1.ext)
  have B71 := Go.Lib.hid (B7.out.extN x1.ext)
  clear hL hx hb1 hb2 hb3 BQ B7
  go_wp2_with fail
  go_loopg [11, 12, 13, 14] l.length (fun n iv v12 v13 v14 wr => ∃ (i : Nat) (z : EW Non w), i ≤ l.length ∧ n = l.length - i ∧ iv = .int .i64 i ∧ wr = z.on ∧ Hid (outI ⟨qc, qs, ⟨qk, qkey, qx, qid⟩⟩ sp = (outI ⟨qc, qs, ⟨qk, qkey, qx, qid⟩⟩ (sp.drop i)).map (· + i)) ∧ Hid (RL wr b sb rb (gAt xs l i)) ∧ Hid (Bx wr (w.heap.size + 1) [.int .i64 qc, .int .i64 qs, .int .i64 qk, .string qkey, .float .f64 qx, .int .i64 qid] 53) ∧ Hid (Bx wr (w.heap.size + 2) [.int .i64 0, .float .f64 0] 47))
  case atStart => exact ⟨0, ⟨_, by (repeat (first | with_reducible (first | exact Ext.refl _ _ | assumption | refine Ext.upN ?_ | refine Ext.alloc ?_ _ | refine Ext.drew ?_ | refine Ext.drewN ?_ _ | refine Ext.up1N (by first | omega | simp) ?_) | refine Ext.alloc ?_ _ | refine Ext.setCell ?_ (.inr (by first | omega | simp)) _))⟩, Nat.zero_le _, rfl, rfl, rfl, Go.Lib.hid (by rw [List.drop_zero]; cases outI ⟨qc, qs, ⟨qk, qkey, qx, qid⟩⟩ sp <;> rfl), HL0, BQ1, B71⟩
  case round =>
    clear HL0 BQ1 B71
    obtain ⟨i, z, hi, hn, rfl, rfl, HD, HR, BQ, B7⟩ := hrel
    have HN := Go.Lib.hid hn; clear hn
    by_cases hlt : i < l.length
    · obtain ⟨ab, ao, rfl, hab, hcc⟩ := HL.out.at_ i hlt
      have hspl : i < sp.length := by have := HSL.out; omega
      have HS := Go.Lib.hid (gAt_succ xs l hlt)
      have I := Go.Lib.hid (HG.out i)
      have HRO2 := Go.Lib.hid (HOK.out _ (List.getElem_mem hlt))
      have HDR := Go.Lib.hid (outI_drop ⟨qc, qs, ⟨qk, qkey, qx, qid⟩⟩ sp i hspl)
      have HHI := Go.Lib.hid (HHIT.out i hlt hspl)
      have HGD : Hid (sp.getD i zeroSp = spOf (gAt xs l i) l[i]) := Go.Lib.hid (by rw [← HSP.out i hlt hspl, List.getD_eq_getElem?_getD, List.getElem?_eq_getElem hspl]; rfl)
      have hHF : hitB ⟨qc, qs, ⟨qk, qkey, qx, qid⟩⟩ sp[i] = false → outI ⟨qc, qs, ⟨qk, qkey, qx, qid⟩⟩ sp = (outI ⟨qc, qs, ⟨qk, qkey, qx, qid⟩⟩ (sp.drop (i + 1))).map (· + (i + 1)) := fun e => by
        rw [HD.out, HDR.out, if_neg (by rw [e]; simp)]
        cases outI ⟨qc, qs, ⟨qk, qkey, qx, qid⟩⟩ (sp.drop (i + 1)) <;> simp; omega
      have hHT : hitB ⟨qc, qs, ⟨qk, qkey, qx, qid⟩⟩ sp[i] = true → outI ⟨qc, qs, ⟨qk, qkey, qx, qid⟩⟩ sp = some i := fun e => by
        rw [HD.out, HDR.out, if_pos e]; simp
      have HHF := Go.Lib.hid hHF; have HHT := Go.Lib.hid hHT
      clear hHF hHT HDR
      obtain ⟨hb, hhb⟩ : ∃ hb, hb = hitB ⟨qc, qs, ⟨qk, qkey, qx, qid⟩⟩ (sp.getD i zeroSp) := ⟨_, rfl⟩
      generalize l[i] = o at *
      obtain ⟨c, st, ⟨k, key, x, id⟩⟩ := o
      have q0 : w.cell? ⟨ab, ao + i * 6, none⟩ = some (.int .i64 c) := hcc 0 _ rfl
      have q1 : w.cell? ⟨ab, ao + i * 6 + 1, none⟩ = some (.int .i64 st) := hcc 1 _ rfl
      have q2 : w.cell? ⟨ab, ao + i * 6 + 2, none⟩ = some (.int .i64 k) := hcc 2 _ rfl
      have q3 : w.cell? ⟨ab, ao + i * 6 + 3, none⟩ = some (.string key) := hcc 3 _ rfl
      have q4 : w.cell? ⟨ab, ao + i * 6 + 4, none⟩ = some (.float .f64 x) := hcc 4 _ rfl
      have q5 : w.cell? ⟨ab, ao + i * 6 + 5, none⟩ = some (.int .i64 id) := hcc 5 _ rfl
      clear hcc hhb
      obtain ⟨gi, hgi⟩ : ∃ gi, gi = gAt xs l i := ⟨_, rfl⟩
      rw [← hgi] at HS I HR HHI HGD
      clear hgi
      go_wp2_with fail
      refine Calls.ewD (ref12_Full b sb rb gi I.out _ HR.out) ?_
      rintro e x2 rfl
      cases hf : fullB gi
      · have HLf : Hid (RL x2.on b sb rb (fulL gi)) := Go.Lib.hid (by unfold fulL; rw [hf]; exact HR.out.extN x2.ext)
        have BQf := Go.Lib.hid (BQ.out.extN x2.ext)
        have B7f := Go.Lib.hid (B7.out.extN x2.ext)
        clear hf
        have IF : Hid (Inv (fulL gi)) := Go.Lib.hid (inv_ful I.out)
        have HS2 : Hid (gAt xs l (i + 1) = doL (fulL gi) ⟨c, st, ⟨k, key, x, id⟩⟩) := Go.Lib.hid (by rw [HS.out]; rfl)
        obtain ⟨gf, hgf⟩ : ∃ gf, gf = fulL gi := ⟨_, rfl⟩
        have HLS : Hid (lastS gi qc = lastS gf qc) := Go.Lib.hid (by rw [hgf, ful_last])
        have HCR : Hid ((sp.getD i zeroSp).code = (doR gf ⟨c, st, ⟨k, key, x, id⟩⟩).code ∧ (sp.getD i zeroSp).real = (doR gf ⟨c, st, ⟨k, key, x, id⟩⟩).real) := Go.Lib.hid (by rw [HGD.out, hgf]; exact ⟨rfl, rfl⟩)
        rw [← hgf] at IF HS2 HLf
        clear hgf HS HGD
        have p0 : x2.on.cell? ⟨w.heap.size + 1, 0, none⟩ = some (.int .i64 qc) := BQf.out.cell rfl
        have p1 : x2.on.cell? ⟨w.heap.size + 1, 1, none⟩ = some (.int .i64 qs) := BQf.out.cell rfl
        have p2 : x2.on.cell? ⟨w.heap.size + 1, 2, none⟩ = some (.int .i64 qk) := BQf.out.cell rfl
        have p3 : x2.on.cell? ⟨w.heap.size + 1, 3, none⟩ = some (.string qkey) := BQf.out.cell rfl
        have p4 : x2.on.cell? ⟨w.heap.size + 1, 4, none⟩ = some (.float .f64 qx) := BQf.out.cell rfl
        have p5 : x2.on.cell? ⟨w.heap.size + 1, 5, none⟩ = some (.int .i64 qid) := BQf.out.cell rfl
        cases hrq : rightB ⟨qc, qs, ⟨qk, qkey, qx, qid⟩⟩
        · have HRQ := Go.Lib.hid hrq
          clear hrq
          go_wp2_with fail
          refine Calls.ew (ref_Right qc qs qk qkey qx qid _) ?_
          rintro e x3 rfl
          rw [HRQ.out]
          go_wp2_with fail
          refine (ref12_Do b sb rb gf IF.out c st k key x id HRO2.out.x _ (HLf.out.extN x3.ext)).mono ?_
          rintro e w5 ⟨rfl, hx5, hL5⟩
          rw [← HS2.out] at hL5
          have HL5 := Go.Lib.hid hL5
          have BQ5 := Go.Lib.hid ((BQf.out.extN x3.ext).ext hx5 (fun e => by have := HBS.out; rcases e with e | e | e <;> omega))
          have B75 := Go.Lib.hid ((B7f.out.extN x3.ext).ext hx5 (fun e => by have := HBS.out; rcases e with e | e | e <;> omega))
          obtain ⟨x5, hx6⟩ := (((z.ext.trans x2.ext).trans x3.ext).own hx5 (fun j e => by have := HBS.out; rcases e with e | e | e <;> omega)).ew
          subst hx6
          clear hx5 hL5 p0 p1 p2 p3 p4 p5
          obtain ⟨cd, hcd⟩ : ∃ cd, cd = (doR gf ⟨c, st, ⟨k, key, x, id⟩⟩).code := ⟨_, rfl⟩
          obtain ⟨rl, hrl⟩ : ∃ rl, rl = (doR gf ⟨c, st, ⟨k, key, x, id⟩⟩).real := ⟨_, rfl⟩
          rw [← hcd, ← hrl] at HCR ⊢
          clear hcd hrl
          generalize doE gf ⟨c, st, ⟨k, key, x, id⟩⟩ = de at *
          go_upto_region 11 with (refine wpList_store_box rfl 47 _ _ rfl x5.on.heap.size _ [.int .i64 cd, .float .f64 rl] _ rfl rfl (Bx.newAt _ _ _ _ rfl) rfl info_result2 (by simp [Value.oneCell']) (fun W hB => ?_); have BX := Go.Lib.hid hB; clear hB)
          have XW : Ext Non x5.on W.on := by (repeat (first | with_reducible (first | exact Ext.refl _ _ | assumption | refine Ext.upN ?_ | refine Ext.alloc ?_ _ | refine Ext.drew ?_ | refine Ext.drewN ?_ _ | refine Ext.up1N (by first | omega | simp) ?_) | refine Ext.alloc ?_ _ | refine Ext.setCell ?_ (.inr (by first | omega | simp)) _))
          have HL6 := Go.Lib.hid (HL5.out.extN XW)
          have BQ6 := Go.Lib.hid (BQ5.out.extN XW)
          have B76 := Go.Lib.hid (B75.out.extN XW)
          obtain ⟨x7, hx7⟩ := (x5.ext.trans XW).ew
          rw [hx7] at HL6 BQ6 B76 BX ⊢
          clear hx7 XW W HL5 BQ5 B75
          try simp only [Act.put]
          generalize x5.on.heap.size = kx at *
          have p0 : x7.on.cell? ⟨w.heap.size + 1, 0, none⟩ = some (.int .i64 qc) := BQ6.out.cell rfl
          have p1 : x7.on.cell? ⟨w.heap.size + 1, 1, none⟩ = some (.int .i64 qs) := BQ6.out.cell rfl
          have p2 : x7.on.cell? ⟨w.heap.size + 1, 2, none⟩ = some (.int .i64 qk) := BQ6.out.cell rfl
          have p3 : x7.on.cell? ⟨w.heap.size + 1, 3, none⟩ = some (.string qkey) := BQ6.out.cell rfl
          have p4 : x7.on.cell? ⟨w.heap.size + 1, 4, none⟩ = some (.float .f64 qx) := BQ6.out.cell rfl
          have p5 : x7.on.cell? ⟨w.heap.size + 1, 5, none⟩ = some (.int .i64 qid) := BQ6.out.cell rfl
          apply wp_region_rel (relR [Mo.is _, Mo.is _, Mo.is _, Mo.is _, Mo.is _, Mo.is _, Mo.is _, Mo.is _, Mo.is _, Mo.is _, Mo.is _, Mo.is _, Mo.is _, Mo.is _, Mo.is _, Mo.is _]) (by kernel_rfl) (by kernel_rfl) (by kernel_rfl) (relR_mono _) (StepD.all ?st1) ?q1
          case st1 =>
            refine ⟨?_, ?_, ?_, ?_, ?_, ?_, ?_, ?_, ?_, ?_, ?_, ?_, ?_, ?_, ?_, ?_, trivial⟩
            · intro a' w' hx hs hd
              obtain ⟨y, rfl⟩ := hx.ew
              have e5 : a'.tmps[5]?.getD undef = _ := hs 5 rfl
              simp only [List.getElem?_toArray, List.getElem?_cons_succ, List.getElem?_cons_zero, Option.getD_some, Array.getElem?_eq_some_iff] at e5
              refine .inl ⟨rfl, ?_⟩
              clear hs hd hx
              go_simp
              exact ⟨Ext.refl _ _, rfl⟩
            · intro a' w' hx hs hd
              obtain ⟨y, rfl⟩ := hx.ew
              have e49 : a'.tmps[49]?.getD undef = _ := hd 0 49 rfl rfl
              refine .inl ⟨rfl, ?_⟩
              clear hs hd hx
              go_simp
              exact (ref_Right qc qs qk qkey qx qid _).mono (fun e w'' ⟨he, hx⟩ => ⟨_, he, hx, by rw [HRQ.out]; rfl⟩)
            · intro a' w' hx hs hd
              obtain ⟨y, rfl⟩ := hx.ew
              have e50 : a'.tmps[50]?.getD undef = _ := hd 1 50 rfl rfl
              refine .inl ⟨rfl, ?_⟩
              clear hs hd hx
              go_simp
              exact ⟨Ext.refl _ _, rfl⟩
            · intro a' w' hx hs hd
              obtain ⟨y, rfl⟩ := hx.ew
              have eg : a'.tmps[51]?.getD undef = _ := hd 2 51 rfl rfl
              first
              | (refine .inr ⟨unwanted_of (j := 2) (d := 51) rfl rfl eg (by rfl), ?_⟩; exact (rfl : (Mo.is undef).p undef y.on))
              | (refine .inr ⟨unwanted_und (j := 2) (d := 51) rfl rfl eg, ?_⟩; exact (rfl : (Mo.is undef).p undef y.on))
              | (have e1 : a'.tmps[1]?.getD undef = _ := hs 1 rfl; simp only [List.getElem?_toArray, List.getElem?_cons_succ, List.getElem?_cons_zero, Option.getD_some, Array.getElem?_eq_some_iff] at e1; refine .inl ⟨wanted_of (j := 2) (d := 51) rfl rfl eg, ?_⟩; clear hs hd hx eg; go_simp; exact ⟨Ext.refl _ _, rfl⟩)
            · intro a' w' hx hs hd
              obtain ⟨y, rfl⟩ := hx.ew
              have eg : a'.tmps[51]?.getD undef = _ := hd 2 51 rfl rfl
              first
              | (refine .inr ⟨unwanted_of (j := 2) (d := 51) rfl rfl eg (by rfl), ?_⟩; exact (rfl : (Mo.is undef).p undef y.on))
              | (refine .inr ⟨unwanted_und (j := 2) (d := 51) rfl rfl eg, ?_⟩; exact (rfl : (Mo.is undef).p undef y.on))
              | (have e11 : a'.tmps[11]?.getD undef = _ := hs 11 rfl; simp only [List.getElem?_toArray, List.getElem?_cons_succ, List.getElem?_cons_zero, Option.getD_some, Array.getElem?_eq_some_iff] at e11; refine .inl ⟨wanted_of (j := 2) (d := 51) rfl rfl eg, ?_⟩; clear hs hd hx eg; go_simp; exact ⟨Ext.refl _ _, rfl⟩)
            · intro a' w' hx hs hd
              obtain ⟨y, rfl⟩ := hx.ew
              have eg : a'.tmps[51]?.getD undef = _ := hd 2 51 rfl rfl
              first
              | (refine .inr ⟨unwanted_of (j := 2) (d := 51) rfl rfl eg (by rfl), ?_⟩; exact (rfl : (Mo.is undef).p undef y.on))
              | (refine .inr ⟨unwanted_und (j := 2) (d := 51) rfl rfl eg, ?_⟩; exact (rfl : (Mo.is undef).p undef y.on))
              | (have e52 : a'.tmps[52]?.getD undef = _ := hd 3 52 rfl rfl; have e53 : a'.tmps[53]?.getD undef = _ := hd 4 53 rfl rfl; refine .inl ⟨wanted_of (j := 2) (d := 51) rfl rfl eg, ?_⟩; clear hs hd hx eg; go_simp; exact ⟨Ext.refl _ _, rfl⟩)
            · intro a' w' hx hs hd
              obtain ⟨y, rfl⟩ := hx.ew
              have eg : a'.tmps[51]?.getD undef = _ := hd 2 51 rfl rfl
              first
              | (refine .inr ⟨unwanted_of (j := 2) (d := 51) rfl rfl eg (by rfl), ?_⟩; exact (rfl : (Mo.is undef).p undef y.on))
              | (refine .inr ⟨unwanted_und (j := 2) (d := 51) rfl rfl eg, ?_⟩; exact (rfl : (Mo.is undef).p undef y.on))
              | (have e54 : a'.tmps[54]?.getD undef = _ := hd 5 54 rfl rfl; refine .inl ⟨wanted_of (j := 2) (d := 51) rfl rfl eg, ?_⟩; clear hs hd hx eg; go_simp; exact ⟨Ext.refl _ _, rfl⟩)
            · intro a' w' hx hs hd
              obtain ⟨y, rfl⟩ := hx.ew
              have eg : a'.tmps[51]?.getD undef = _ := hd 2 51 rfl rfl
              first
              | (refine .inr ⟨unwanted_of (j := 2) (d := 51) rfl rfl eg (by rfl), ?_⟩; exact (rfl : (Mo.is undef).p undef y.on))
              | (refine .inr ⟨unwanted_und (j := 2) (d := 51) rfl rfl eg, ?_⟩; exact (rfl : (Mo.is undef).p undef y.on))
              | (have e5 : a'.tmps[5]?.getD undef = _ := hs 5 rfl; simp only [List.getElem?_toArray, List.getElem?_cons_succ, List.getElem?_cons_zero, Option.getD_some, Array.getElem?_eq_some_iff] at e5; refine .inl ⟨wanted_of (j := 2) (d := 51) rfl rfl eg, ?_⟩; clear hs hd hx eg; go_simp; exact ⟨Ext.refl _ _, rfl⟩)
            · intro a' w' hx hs hd
              obtain ⟨y, rfl⟩ := hx.ew
              have eg : a'.tmps[51]?.getD undef = _ := hd 2 51 rfl rfl
              first
              | (refine .inr ⟨unwanted_of (j := 2) (d := 51) rfl rfl eg (by rfl), ?_⟩; exact (rfl : (Mo.is undef).p undef y.on))
              | (refine .inr ⟨unwanted_und (j := 2) (d := 51) rfl rfl eg, ?_⟩; exact (rfl : (Mo.is undef).p undef y.on))
              | (have e55 : a'.tmps[55]?.getD undef = _ := hd 6 55 rfl rfl; have e56 : a'.tmps[56]?.getD undef = _ := hd 7 56 rfl rfl; refine .inl ⟨wanted_of (j := 2) (d := 51) rfl rfl eg, ?_⟩; clear hs hd hx eg; go_simp; fail)
            · intro a' w' hx hs hd
              obtain ⟨y, rfl⟩ := hx.ew
              have e51 : a'.tmps[51]?.getD undef = _ := hd 2 51 rfl rfl
              have e57 : a'.tmps[57]?.getD undef = _ := hd 8 57 rfl rfl
              refine .inl ⟨rfl, ?_⟩
              clear hs hd hx
              go_simp
              exact ⟨Ext.refl _ _, rfl⟩
            · intro a' w' hx hs hd
              obtain ⟨y, rfl⟩ := hx.ew
              have e58 : a'.tmps[58]?.getD undef = _ := hd 9 58 rfl rfl
              refine .inl ⟨rfl, ?_⟩
              clear hs hd hx
              go_simp
              exact ⟨Ext.refl _ _, rfl⟩
            · intro a' w' hx hs hd
              obtain ⟨y, rfl⟩ := hx.ew
              have eg : a'.tmps[59]?.getD undef = _ := hd 10 59 rfl rfl
              first
              | (refine .inr ⟨unwanted_of (j := 10) (d := 59) rfl rfl eg (by rfl), ?_⟩; exact (rfl : (Mo.is undef).p undef y.on))
              | (refine .inr ⟨unwanted_und (j := 10) (d := 59) rfl rfl eg, ?_⟩; exact (rfl : (Mo.is undef).p undef y.on))
              | (have e12 : a'.tmps[12]?.getD undef = _ := hs 12 rfl; simp only [List.getElem?_toArray, List.getElem?_cons_succ, List.getElem?_cons_zero, Option.getD_some, Array.getElem?_eq_some_iff] at e12; refine .inl ⟨wanted_of (j := 10) (d := 59) rfl rfl eg, ?_⟩; clear hs hd hx eg; go_simp; exact ⟨Ext.refl _ _, rfl⟩)
            · intro a' w' hx hs hd
              obtain ⟨y, rfl⟩ := hx.ew
              have eg : a'.tmps[59]?.getD undef = _ := hd 10 59 rfl rfl
              first
              | (refine .inr ⟨unwanted_of (j := 10) (d := 59) rfl rfl eg (by rfl), ?_⟩; exact (rfl : (Mo.is undef).p undef y.on))
              | (refine .inr ⟨unwanted_und (j := 10) (d := 59) rfl rfl eg, ?_⟩; exact (rfl : (Mo.is undef).p undef y.on))
              | (have e5 : a'.tmps[5]?.getD undef = _ := hs 5 rfl; simp only [List.getElem?_toArray, List.getElem?_cons_succ, List.getElem?_cons_zero, Option.getD_some, Array.getElem?_eq_some_iff] at e5; refine .inl ⟨wanted_of (j := 10) (d := 59) rfl rfl eg, ?_⟩; clear hs hd hx eg; go_simp; exact ⟨Ext.refl _ _, rfl⟩)
            · intro a' w' hx hs hd
              obtain ⟨y, rfl⟩ := hx.ew
              have eg : a'.tmps[59]?.getD undef = _ := hd 10 59 rfl rfl
              first
              | (refine .inr ⟨unwanted_of (j := 10) (d := 59) rfl rfl eg (by rfl), ?_⟩; exact (rfl : (Mo.is undef).p undef y.on))
              | (refine .inr ⟨unwanted_und (j := 10) (d := 59) rfl rfl eg, ?_⟩; exact (rfl : (Mo.is undef).p undef y.on))
              | (have e61 : a'.tmps[61]?.getD undef = _ := hd 12 61 rfl rfl; refine .inl ⟨wanted_of (j := 10) (d := 59) rfl rfl eg, ?_⟩; clear hs hd hx eg; go_simp; exact ⟨Ext.refl _ _, rfl⟩)
            · intro a' w' hx hs hd
              obtain ⟨y, rfl⟩ := hx.ew
              have eg : a'.tmps[59]?.getD undef = _ := hd 10 59 rfl rfl
              first
              | (refine .inr ⟨unwanted_of (j := 10) (d := 59) rfl rfl eg (by rfl), ?_⟩; exact (rfl : (Mo.is undef).p undef y.on))
              | (refine .inr ⟨unwanted_und (j := 10) (d := 59) rfl rfl eg, ?_⟩; exact (rfl : (Mo.is undef).p undef y.on))
              | (have e60 : a'.tmps[60]?.getD undef = _ := hd 11 60 rfl rfl; have e62 : a'.tmps[62]?.getD undef = _ := hd 13 62 rfl rfl; refine .inl ⟨wanted_of (j := 10) (d := 59) rfl rfl eg, ?_⟩; clear hs hd hx eg; go_simp; exact ⟨Ext.refl _ _, rfl⟩)
            · intro a' w' hx hs hd
              obtain ⟨y, rfl⟩ := hx.ew
              have e59 : a'.tmps[59]?.getD undef = _ := hd 10 59 rfl rfl
              have e63 : a'.tmps[63]?.getD undef = _ := hd 14 63 rfl rfl
              refine .inl ⟨rfl, ?_⟩
              clear hs hd hx
              go_simp
              exact ⟨Ext.refl _ _, rfl⟩
          case' q1 =>
            intro vs w' hx hRR
            obtain ⟨x6, rfl⟩ := hx.ew
            have q0 : vs 0 = _ := hRR 0 (by decide)
            have q1 : vs 1 = _ := hRR 1 (by decide)
            have q2 : vs 2 = _ := hRR 2 (by decide)
            have q3 : vs 3 = _ := hRR 3 (by decide)
            have q4 : vs 4 = _ := hRR 4 (by decide)
            have q5 : vs 5 = _ := hRR 5 (by decide)
            have q6 : vs 6 = _ := hRR 6 (by decide)
            have q7 : vs 7 = _ := hRR 7 (by decide)
            have q8 : vs 8 = _ := hRR 8 (by decide)
            have q9 : vs 9 = _ := hRR 9 (by decide)
            have q10 : vs 10 = _ := hRR 10 (by decide)
            have q11 : vs 11 = _ := hRR 11 (by decide)
            have q12 : vs 12 = _ := hRR 12 (by decide)
            have q13 : vs 13 = _ := hRR 13 (by decide)
            have q14 : vs 14 = _ := hRR 14 (by decide)
            have q15 : vs 15 = _ := hRR 15 (by decide)
            clear hRR hx
            simp only [putAll, List.take_succ_cons, List.take_zero, List.drop_succ_cons, List.drop_zero, Act.put, List.setIfInBounds_toArray, List.set_cons_zero, List.set_cons_succ, Nat.reduceAdd, Nat.zero_add]
            simp only [q0, q1, q2, q3, q4, q5, q6, q7, q8, q9, q10, q11, q12, q13, q14, q15]
            clear q0 q1 q2 q3 q4 q5 q6 q7 q8 q9 q10 q11 q12 q13 q14 q15 vs
          have HFIN : Hid (outI ⟨qc, qs, ⟨qk, qkey, qx, qid⟩⟩ sp = (outI ⟨qc, qs, ⟨qk, qkey, qx, qid⟩⟩ (sp.drop (i + 1))).map (· + (i + 1))) := Go.Lib.hid (by
            have e := HWR.out HRQ.out
            rw [e]
            rw [e] at HD
            have h2 := HD.out
            cases hd : outI ⟨qc, qs, ⟨qk, qkey, qx, qid⟩⟩ (sp.drop (i + 1)) with
            | none => rfl
            | some j =>
              exfalso
              obtain ⟨z1, z2, -⟩ := outI_some hd
              have hall := outI_none e
              have := hall _ (List.mem_of_mem_drop (List.getElem_mem z1))
              rw [this] at z2; cases z2)
          go_wp2_with fail
          go_roundg (l.length - (i + 1))
          case measure => have := HN.out; omega
          case rel => exact ⟨i + 1, ⟨_, by (repeat (first | with_reducible (first | exact Ext.refl _ _ | assumption | refine Ext.upN ?_ | refine Ext.alloc ?_ _ | refine Ext.drew ?_ | refine Ext.drewN ?_ _ | refine Ext.up1N (by first | omega | simp) ?_) | refine Ext.alloc ?_ _ | refine Ext.setCell ?_ (.inr (by first | omega | simp)) _))⟩, hlt, rfl, by go_num, rfl, HFIN, Go.Lib.hid (HL6.out.extN x6.ext), Go.Lib.hid (BQ6.out.extN x6.ext), Go.Lib.hid (B76.out.extN x6.ext)⟩
        · have HRQ := Go.Lib.hid hrq
          obtain ⟨rc1, rc8, -, -, -⟩ := rightB_facts hrq
          have rc1 : 1 ≤ qc := rc1
          have rc8 : qc ≤ 8 := rc8
          have HLS2 : Hid (lastS gf qc = (gf.cl (qc - 1).toNat).stamp) := Go.Lib.hid (if_pos ⟨rc1, rc8⟩)
          obtain ⟨cn, hcn⟩ : ∃ cn : Nat, qc = cn := ⟨qc.toNat, by omega⟩
          obtain ⟨j8, hj8, hcj⟩ : ∃ j, j < 8 ∧ cn = j + 1 := ⟨cn - 1, by omega, by omega⟩
          have hidx : (qc - 1).toNat = j8 := by omega
          rw [hidx] at HLS2
          have cb1 : (0 : Int) ≤ (cn : Int) := by omega
          have cb2 : (cn : Int) < 9 := by omega
          have HCJ := Go.Lib.hid hcj; have HCN := Go.Lib.hid hcn
          clear hrq hcj hidx rc1 rc8 hcn
          go_wp2_with fail
          refine Calls.ew (ref_Right qc qs qk qkey qx qid _) ?_
          rintro e x3 rfl
          rw [HRQ.out]
          have HLg := Go.Lib.hid (HLf.out.extN x3.ext)
          obtain ⟨a61, c61, a62, c62, v6, hb6, -⟩ := HLg.out.ex
          have s5 : x3.on.cell? ⟨b, 5, none⟩ = some (.slice (some ⟨sb, 0, none⟩) 9 9) := hb6.cell rfl
          have sc : x3.on.cell? ⟨sb, cn, none⟩ = some (.int .i64 (gf.cl j8).stamp) := by rw [HCJ.out]; exact HLg.out.st.cell (st_get _ hj8)
          clear hb6
          have p0' : x3.on.cell? ⟨w.heap.size + 1, 0, none⟩ = some (.int .i64 (cn : Int)) := by rw [← HCN.out]; exact (BQf.out.extN x3.ext).cell rfl
          clear p0
          go_upto_region 9 with fail
          apply wp_region_rel (relR [Mo.is _, Mo.is _, Mo.is _, Mo.is _, Mo.is _, Mo.is _, Mo.is _, Mo.is _, Mo.is _]) (by kernel_rfl) (by kernel_rfl) (by kernel_rfl) (relR_mono _) (StepD.all ?st2) ?q2
          case st2 =>
            refine ⟨?_, ?_, ?_, ?_, ?_, ?_, ?_, ?_, ?_, trivial⟩
            · intro a' w' hx hs hd
              obtain ⟨y, rfl⟩ := hx.ew
              have e9 : a'.tmps[9]?.getD undef = _ := hs 9 rfl
              simp only [List.getElem?_toArray, List.getElem?_cons_succ, List.getElem?_cons_zero, Option.getD_some, Array.getElem?_eq_some_iff] at e9
              refine .inl ⟨rfl, ?_⟩
              clear hs hd hx
              go_simp
              exact ⟨Ext.refl _ _, rfl⟩
            · intro a' w' hx hs hd
              obtain ⟨y, rfl⟩ := hx.ew
              have e32 : a'.tmps[32]?.getD undef = _ := hd 0 32 rfl rfl
              refine .inl ⟨rfl, ?_⟩
              clear hs hd hx
              go_simp
              exact ⟨Ext.refl _ _, rfl⟩
            · intro a' w' hx hs hd
              obtain ⟨y, rfl⟩ := hx.ew
              have e33 : a'.tmps[33]?.getD undef = _ := hd 1 33 rfl rfl
              refine .inl ⟨rfl, ?_⟩
              clear hs hd hx
              go_simp
              exact ⟨Ext.refl _ _, rfl⟩
            · intro a' w' hx hs hd
              obtain ⟨y, rfl⟩ := hx.ew
              have e34 : a'.tmps[34]?.getD undef = _ := hd 2 34 rfl rfl
              refine .inl ⟨rfl, ?_⟩
              clear hs hd hx
              go_simp
              exact ⟨Ext.refl _ _, rfl⟩
            · intro a' w' hx hs hd
              obtain ⟨y, rfl⟩ := hx.ew
              have e5 : a'.tmps[5]?.getD undef = _ := hs 5 rfl
              simp only [List.getElem?_toArray, List.getElem?_cons_succ, List.getElem?_cons_zero, Option.getD_some, Array.getElem?_eq_some_iff] at e5
              refine .inl ⟨rfl, ?_⟩
              clear hs hd hx
              go_simp
              exact ⟨Ext.refl _ _, rfl⟩
            · intro a' w' hx hs hd
              obtain ⟨y, rfl⟩ := hx.ew
              have e36 : a'.tmps[36]?.getD undef = _ := hd 4 36 rfl rfl
              refine .inl ⟨rfl, ?_⟩
              clear hs hd hx
              go_simp
              exact ⟨Ext.refl _ _, rfl⟩
            · intro a' w' hx hs hd
              obtain ⟨y, rfl⟩ := hx.ew
              have e35 : a'.tmps[35]?.getD undef = _ := hd 3 35 rfl rfl
              have e37 : a'.tmps[37]?.getD undef = _ := hd 5 37 rfl rfl
              refine .inl ⟨rfl, ?_⟩
              clear hs hd hx
              go_simp
              exact ⟨Ext.refl _ _, rfl⟩
            · intro a' w' hx hs hd
              obtain ⟨y, rfl⟩ := hx.ew
              have e38 : a'.tmps[38]?.getD undef = _ := hd 6 38 rfl rfl
              refine .inl ⟨rfl, ?_⟩
              clear hs hd hx
              go_simp
              exact ⟨Ext.refl _ _, rfl⟩
            · intro a' w' hx hs hd
              obtain ⟨y, rfl⟩ := hx.ew
              have e39 : a'.tmps[39]?.getD undef = _ := hd 7 39 rfl rfl
              refine .inl ⟨rfl, ?_⟩
              clear hs hd hx
              go_simp
              exact ⟨Ext.refl _ _, rfl⟩
          case' q2 =>
            intro vs w' hx hRR
            obtain ⟨x4, rfl⟩ := hx.ew
            have q0 : vs 0 = _ := hRR 0 (by decide)
            have q1 : vs 1 = _ := hRR 1 (by decide)
            have q2 : vs 2 = _ := hRR 2 (by decide)
            have q3 : vs 3 = _ := hRR 3 (by decide)
            have q4 : vs 4 = _ := hRR 4 (by decide)
            have q5 : vs 5 = _ := hRR 5 (by decide)
            have q6 : vs 6 = _ := hRR 6 (by decide)
            have q7 : vs 7 = _ := hRR 7 (by decide)
            have q8 : vs 8 = _ := hRR 8 (by decide)
            clear hRR hx
            simp only [putAll, List.take_succ_cons, List.take_zero, List.drop_succ_cons, List.drop_zero, Act.put, List.setIfInBounds_toArray, List.set_cons_zero, List.set_cons_succ, Nat.reduceAdd, Nat.zero_add]
            simp only [q0, q1, q2, q3, q4, q5, q6, q7, q8]
            clear q0 q1 q2 q3 q4 q5 q6 q7 q8 vs
          clear s5 sc p0'
          have p0 : x2.on.cell? ⟨w.heap.size + 1, 0, none⟩ = some (.int .i64 qc) := BQf.out.cell rfl
          go_wp2_with fail
          refine (ref12_Do b sb rb gf IF.out c st k key x id HRO2.out.x _ (HLg.out.extN x4.ext)).mono ?_
          rintro e w5 ⟨rfl, hx5, hL5⟩
          rw [← HS2.out] at hL5
          have HL5 := Go.Lib.hid hL5
          have BQ5 := Go.Lib.hid ((BQf.out.extN (x3.ext.trans x4.ext)).ext hx5 (fun e => by have := HBS.out; rcases e with e | e | e <;> omega))
          have B75 := Go.Lib.hid ((B7f.out.extN (x3.ext.trans x4.ext)).ext hx5 (fun e => by have := HBS.out; rcases e with e | e | e <;> omega))
          obtain ⟨x5, hx6⟩ := (((z.ext.trans x2.ext).trans (x3.ext.trans x4.ext)).own hx5 (fun j e => by have := HBS.out; rcases e with e | e | e <;> omega)).ew
          subst hx6
          clear hx5 hL5 p0 p1 p2 p3 p4 p5
          obtain ⟨cd, hcd⟩ : ∃ cd, cd = (doR gf ⟨c, st, ⟨k, key, x, id⟩⟩).code := ⟨_, rfl⟩
          obtain ⟨rl, hrl⟩ : ∃ rl, rl = (doR gf ⟨c, st, ⟨k, key, x, id⟩⟩).real := ⟨_, rfl⟩
          rw [← hcd, ← hrl] at HCR ⊢
          clear hcd hrl
          generalize doE gf ⟨c, st, ⟨k, key, x, id⟩⟩ = de at *
          go_upto_region 11 with (refine wpList_store_box rfl 47 _ _ rfl x5.on.heap.size _ [.int .i64 cd, .float .f64 rl] _ rfl rfl (Bx.newAt _ _ _ _ rfl) rfl info_result2 (by simp [Value.oneCell']) (fun W hB => ?_); have BX := Go.Lib.hid hB; clear hB)
          have XW : Ext Non x5.on W.on := by (repeat (first | with_reducible (first | exact Ext.refl _ _ | assumption | refine Ext.upN ?_ | refine Ext.alloc ?_ _ | refine Ext.drew ?_ | refine Ext.drewN ?_ _ | refine Ext.up1N (by first | omega | simp) ?_) | refine Ext.alloc ?_ _ | refine Ext.setCell ?_ (.inr (by first | omega | simp)) _))
          have HL6 := Go.Lib.hid (HL5.out.extN XW)
          have BQ6 := Go.Lib.hid (BQ5.out.extN XW)
          have B76 := Go.Lib.hid (B75.out.extN XW)
          obtain ⟨x7, hx7⟩ := (x5.ext.trans XW).ew
          rw [hx7] at HL6 BQ6 B76 BX ⊢
          clear hx7 XW W HL5 BQ5 B75
          try simp only [Act.put]
          generalize x5.on.heap.size = kx at *
          obtain ⟨was, hwas⟩ : ∃ was, was = (gf.cl j8).stamp := ⟨_, rfl⟩
          rw [← hwas] at HLS2
          have HWAS := Go.Lib.hid hwas
          rw [← hwas]
          clear hwas
          have p0 : x7.on.cell? ⟨w.heap.size + 1, 0, none⟩ = some (.int .i64 qc) := BQ6.out.cell rfl
          have p1 : x7.on.cell? ⟨w.heap.size + 1, 1, none⟩ = some (.int .i64 qs) := BQ6.out.cell rfl
          have p2 : x7.on.cell? ⟨w.heap.size + 1, 2, none⟩ = some (.int .i64 qk) := BQ6.out.cell rfl
          have p3 : x7.on.cell? ⟨w.heap.size + 1, 3, none⟩ = some (.string qkey) := BQ6.out.cell rfl
          have p4 : x7.on.cell? ⟨w.heap.size + 1, 4, none⟩ = some (.float .f64 qx) := BQ6.out.cell rfl
          have p5 : x7.on.cell? ⟨w.heap.size + 1, 5, none⟩ = some (.int .i64 qid) := BQ6.out.cell rfl
          cases hsm : sameT ⟨c, st, ⟨k, key, x, id⟩⟩ ⟨qc, qs, ⟨qk, qkey, qx, qid⟩⟩
          · have HSM := Go.Lib.hid hsm
            have HFIN := Go.Lib.hid (HHF.out (by rw [HHI.out, hsm]; rfl))
            clear hsm
            apply wp_region_rel (relR [Mo.is _, Mo.is _, Mo.is _, Mo.is _, Mo.is _, Mo.is _, Mo.is _, Mo.is _, Mo.is _, Mo.is _, Mo.is _, Mo.is _, Mo.is _, Mo.is _, Mo.is _, Mo.is _]) (by kernel_rfl) (by kernel_rfl) (by kernel_rfl) (relR_mono _) (StepD.all ?st3) ?q3
            case st3 =>
              refine ⟨?_, ?_, ?_, ?_, ?_, ?_, ?_, ?_, ?_, ?_, ?_, ?_, ?_, ?_, ?_, ?_, trivial⟩
              · intro a' w' hx hs hd
                obtain ⟨y, rfl⟩ := hx.ew
                have e5 : a'.tmps[5]?.getD undef = _ := hs 5 rfl
                simp only [List.getElem?_toArray, List.getElem?_cons_succ, List.getElem?_cons_zero, Option.getD_some, Array.getElem?_eq_some_iff] at e5
                refine .inl ⟨rfl, ?_⟩
                clear hs hd hx
                go_simp
                exact ⟨Ext.refl _ _, rfl⟩
              · intro a' w' hx hs hd
                obtain ⟨y, rfl⟩ := hx.ew
                have e49 : a'.tmps[49]?.getD undef = _ := hd 0 49 rfl rfl
                refine .inl ⟨rfl, ?_⟩
                clear hs hd hx
                go_simp
                exact (ref_Right qc qs qk qkey qx qid _).mono (fun e w'' ⟨he, hx⟩ => ⟨_, he, hx, by rw [HRQ.out]; rfl⟩)
              · intro a' w' hx hs hd
                obtain ⟨y, rfl⟩ := hx.ew
                have e50 : a'.tmps[50]?.getD undef = _ := hd 1 50 rfl rfl
                refine .inl ⟨rfl, ?_⟩
                clear hs hd hx
                go_simp
                exact ⟨Ext.refl _ _, rfl⟩
              · intro a' w' hx hs hd
                obtain ⟨y, rfl⟩ := hx.ew
                have eg : a'.tmps[51]?.getD undef = _ := hd 2 51 rfl rfl
                first
                | (refine .inr ⟨unwanted_of (j := 2) (d := 51) rfl rfl eg (by rfl), ?_⟩; exact (rfl : (Mo.is undef).p undef y.on))
                | (refine .inr ⟨unwanted_und (j := 2) (d := 51) rfl rfl eg, ?_⟩; exact (rfl : (Mo.is undef).p undef y.on))
                | (have e1 : a'.tmps[1]?.getD undef = _ := hs 1 rfl; simp only [List.getElem?_toArray, List.getElem?_cons_succ, List.getElem?_cons_zero, Option.getD_some, Array.getElem?_eq_some_iff] at e1; refine .inl ⟨wanted_of (j := 2) (d := 51) rfl rfl eg, ?_⟩; clear hs hd hx eg; go_simp; exact ⟨Ext.refl _ _, rfl⟩)
              · intro a' w' hx hs hd
                obtain ⟨y, rfl⟩ := hx.ew
                have eg : a'.tmps[51]?.getD undef = _ := hd 2 51 rfl rfl
                first
                | (refine .inr ⟨unwanted_of (j := 2) (d := 51) rfl rfl eg (by rfl), ?_⟩; exact (rfl : (Mo.is undef).p undef y.on))
                | (refine .inr ⟨unwanted_und (j := 2) (d := 51) rfl rfl eg, ?_⟩; exact (rfl : (Mo.is undef).p undef y.on))
                | (have e11 : a'.tmps[11]?.getD undef = _ := hs 11 rfl; simp only [List.getElem?_toArray, List.getElem?_cons_succ, List.getElem?_cons_zero, Option.getD_some, Array.getElem?_eq_some_iff] at e11; refine .inl ⟨wanted_of (j := 2) (d := 51) rfl rfl eg, ?_⟩; clear hs hd hx eg; go_simp; exact ⟨Ext.refl _ _, rfl⟩)
              · intro a' w' hx hs hd
                obtain ⟨y, rfl⟩ := hx.ew
                have eg : a'.tmps[51]?.getD undef = _ := hd 2 51 rfl rfl
                first
                | (refine .inr ⟨unwanted_of (j := 2) (d := 51) rfl rfl eg (by rfl), ?_⟩; exact (rfl : (Mo.is undef).p undef y.on))
                | (refine .inr ⟨unwanted_und (j := 2) (d := 51) rfl rfl eg, ?_⟩; exact (rfl : (Mo.is undef).p undef y.on))
                | (have e52 : a'.tmps[52]?.getD undef = _ := hd 3 52 rfl rfl; have e53 : a'.tmps[53]?.getD undef = _ := hd 4 53 rfl rfl; refine .inl ⟨wanted_of (j := 2) (d := 51) rfl rfl eg, ?_⟩; clear hs hd hx eg; go_simp; exact ⟨Ext.refl _ _, rfl⟩)
              · intro a' w' hx hs hd
                obtain ⟨y, rfl⟩ := hx.ew
                have eg : a'.tmps[51]?.getD undef = _ := hd 2 51 rfl rfl
                first
                | (refine .inr ⟨unwanted_of (j := 2) (d := 51) rfl rfl eg (by rfl), ?_⟩; exact (rfl : (Mo.is undef).p undef y.on))
                | (refine .inr ⟨unwanted_und (j := 2) (d := 51) rfl rfl eg, ?_⟩; exact (rfl : (Mo.is undef).p undef y.on))
                | (have e54 : a'.tmps[54]?.getD undef = _ := hd 5 54 rfl rfl; refine .inl ⟨wanted_of (j := 2) (d := 51) rfl rfl eg, ?_⟩; clear hs hd hx eg; go_simp; exact ⟨Ext.refl _ _, rfl⟩)
              · intro a' w' hx hs hd
                obtain ⟨y, rfl⟩ := hx.ew
                have eg : a'.tmps[51]?.getD undef = _ := hd 2 51 rfl rfl
                first
                | (refine .inr ⟨unwanted_of (j := 2) (d := 51) rfl rfl eg (by rfl), ?_⟩; exact (rfl : (Mo.is undef).p undef y.on))
                | (refine .inr ⟨unwanted_und (j := 2) (d := 51) rfl rfl eg, ?_⟩; exact (rfl : (Mo.is undef).p undef y.on))
                | (have e5 : a'.tmps[5]?.getD undef = _ := hs 5 rfl; simp only [List.getElem?_toArray, List.getElem?_cons_succ, List.getElem?_cons_zero, Option.getD_some, Array.getElem?_eq_some_iff] at e5; refine .inl ⟨wanted_of (j := 2) (d := 51) rfl rfl eg, ?_⟩; clear hs hd hx eg; go_simp; exact ⟨Ext.refl _ _, rfl⟩)
              · intro a' w' hx hs hd
                obtain ⟨y, rfl⟩ := hx.ew
                have eg : a'.tmps[51]?.getD undef = _ := hd 2 51 rfl rfl
                first
                | (refine .inr ⟨unwanted_of (j := 2) (d := 51) rfl rfl eg (by rfl), ?_⟩; exact (rfl : (Mo.is undef).p undef y.on))
                | (refine .inr ⟨unwanted_und (j := 2) (d := 51) rfl rfl eg, ?_⟩; exact (rfl : (Mo.is undef).p undef y.on))
                | (have e55 : a'.tmps[55]?.getD undef = _ := hd 6 55 rfl rfl; have e56 : a'.tmps[56]?.getD undef = _ := hd 7 56 rfl rfl; refine .inl ⟨wanted_of (j := 2) (d := 51) rfl rfl eg, ?_⟩; clear hs hd hx eg; go_simp; exact (ref11_Same c st k key x id qc qs qk qkey qx qid HRO2.out HRO.out _).mono (fun e w'' ⟨he, hx⟩ => ⟨_, he, hx, by rw [HSM.out]; rfl⟩))
              · intro a' w' hx hs hd
                obtain ⟨y, rfl⟩ := hx.ew
                have e51 : a'.tmps[51]?.getD undef = _ := hd 2 51 rfl rfl
                have e57 : a'.tmps[57]?.getD undef = _ := hd 8 57 rfl rfl
                refine .inl ⟨rfl, ?_⟩
                clear hs hd hx
                go_simp
                exact ⟨Ext.refl _ _, rfl⟩
              · intro a' w' hx hs hd
                obtain ⟨y, rfl⟩ := hx.ew
                have e58 : a'.tmps[58]?.getD undef = _ := hd 9 58 rfl rfl
                refine .inl ⟨rfl, ?_⟩
                clear hs hd hx
                go_simp
                exact ⟨Ext.refl _ _, rfl⟩
              · intro a' w' hx hs hd
                obtain ⟨y, rfl⟩ := hx.ew
                have eg : a'.tmps[59]?.getD undef = _ := hd 10 59 rfl rfl
                first
                | (refine .inr ⟨unwanted_of (j := 10) (d := 59) rfl rfl eg (by rfl), ?_⟩; exact (rfl : (Mo.is undef).p undef y.on))
                | (refine .inr ⟨unwanted_und (j := 10) (d := 59) rfl rfl eg, ?_⟩; exact (rfl : (Mo.is undef).p undef y.on))
                | (have e12 : a'.tmps[12]?.getD undef = _ := hs 12 rfl; simp only [List.getElem?_toArray, List.getElem?_cons_succ, List.getElem?_cons_zero, Option.getD_some, Array.getElem?_eq_some_iff] at e12; refine .inl ⟨wanted_of (j := 10) (d := 59) rfl rfl eg, ?_⟩; clear hs hd hx eg; go_simp; exact ⟨Ext.refl _ _, rfl⟩)
              · intro a' w' hx hs hd
                obtain ⟨y, rfl⟩ := hx.ew
                have eg : a'.tmps[59]?.getD undef = _ := hd 10 59 rfl rfl
                first
                | (refine .inr ⟨unwanted_of (j := 10) (d := 59) rfl rfl eg (by rfl), ?_⟩; exact (rfl : (Mo.is undef).p undef y.on))
                | (refine .inr ⟨unwanted_und (j := 10) (d := 59) rfl rfl eg, ?_⟩; exact (rfl : (Mo.is undef).p undef y.on))
                | (have e5 : a'.tmps[5]?.getD undef = _ := hs 5 rfl; simp only [List.getElem?_toArray, List.getElem?_cons_succ, List.getElem?_cons_zero, Option.getD_some, Array.getElem?_eq_some_iff] at e5; refine .inl ⟨wanted_of (j := 10) (d := 59) rfl rfl eg, ?_⟩; clear hs hd hx eg; go_simp; exact ⟨Ext.refl _ _, rfl⟩)
              · intro a' w' hx hs hd
                obtain ⟨y, rfl⟩ := hx.ew
                have eg : a'.tmps[59]?.getD undef = _ := hd 10 59 rfl rfl
                first
                | (refine .inr ⟨unwanted_of (j := 10) (d := 59) rfl rfl eg (by rfl), ?_⟩; exact (rfl : (Mo.is undef).p undef y.on))
                | (refine .inr ⟨unwanted_und (j := 10) (d := 59) rfl rfl eg, ?_⟩; exact (rfl : (Mo.is undef).p undef y.on))
                | (have e61 : a'.tmps[61]?.getD undef = _ := hd 12 61 rfl rfl; refine .inl ⟨wanted_of (j := 10) (d := 59) rfl rfl eg, ?_⟩; clear hs hd hx eg; go_simp; exact ⟨Ext.refl _ _, rfl⟩)
              · intro a' w' hx hs hd
                obtain ⟨y, rfl⟩ := hx.ew
                have eg : a'.tmps[59]?.getD undef = _ := hd 10 59 rfl rfl
                first
                | (refine .inr ⟨unwanted_of (j := 10) (d := 59) rfl rfl eg (by rfl), ?_⟩; exact (rfl : (Mo.is undef).p undef y.on))
                | (refine .inr ⟨unwanted_und (j := 10) (d := 59) rfl rfl eg, ?_⟩; exact (rfl : (Mo.is undef).p undef y.on))
                | (have e60 : a'.tmps[60]?.getD undef = _ := hd 11 60 rfl rfl; have e62 : a'.tmps[62]?.getD undef = _ := hd 13 62 rfl rfl; refine .inl ⟨wanted_of (j := 10) (d := 59) rfl rfl eg, ?_⟩; clear hs hd hx eg; go_simp; exact ⟨Ext.refl _ _, rfl⟩)
              · intro a' w' hx hs hd
                obtain ⟨y, rfl⟩ := hx.ew
                have e59 : a'.tmps[59]?.getD undef = _ := hd 10 59 rfl rfl
                have e63 : a'.tmps[63]?.getD undef = _ := hd 14 63 rfl rfl
                refine .inl ⟨rfl, ?_⟩
                clear hs hd hx
                go_simp
                exact ⟨Ext.refl _ _, rfl⟩
            case' q3 =>
              intro vs w' hx hRR
              obtain ⟨x6, rfl⟩ := hx.ew
              have q0 : vs 0 = _ := hRR 0 (by decide)
              have q1 : vs 1 = _ := hRR 1 (by decide)
              have q2 : vs 2 = _ := hRR 2 (by decide)
              have q3 : vs 3 = _ := hRR 3 (by decide)
              have q4 : vs 4 = _ := hRR 4 (by decide)
              have q5 : vs 5 = _ := hRR 5 (by decide)
              have q6 : vs 6 = _ := hRR 6 (by decide)
              have q7 : vs 7 = _ := hRR 7 (by decide)
              have q8 : vs 8 = _ := hRR 8 (by decide)
              have q9 : vs 9 = _ := hRR 9 (by decide)
              have q10 : vs 10 = _ := hRR 10 (by decide)
              have q11 : vs 11 = _ := hRR 11 (by decide)
              have q12 : vs 12 = _ := hRR 12 (by decide)
              have q13 : vs 13 = _ := hRR 13 (by decide)
              have q14 : vs 14 = _ := hRR 14 (by decide)
              have q15 : vs 15 = _ := hRR 15 (by decide)
              clear hRR hx
              simp only [putAll, List.take_succ_cons, List.take_zero, List.drop_succ_cons, List.drop_zero, Act.put, List.setIfInBounds_toArray, List.set_cons_zero, List.set_cons_succ, Nat.reduceAdd, Nat.zero_add]
              simp only [q0, q1, q2, q3, q4, q5, q6, q7, q8, q9, q10, q11, q12, q13, q14, q15]
              clear q0 q1 q2 q3 q4 q5 q6 q7 q8 q9 q10 q11 q12 q13 q14 q15 vs
            go_wp2_with fail
            go_roundg (l.length - (i + 1))
            case measure => have := HN.out; omega
            case rel => exact ⟨i + 1, ⟨_, by (repeat (first | with_reducible (first | exact Ext.refl _ _ | assumption | refine Ext.upN ?_ | refine Ext.alloc ?_ _ | refine Ext.drew ?_ | refine Ext.drewN ?_ _ | refine Ext.up1N (by first | omega | simp) ?_) | refine Ext.alloc ?_ _ | refine Ext.setCell ?_ (.inr (by first | omega | simp)) _))⟩, hlt, rfl, by go_num, rfl, HFIN, Go.Lib.hid (HL6.out.extN x6.ext), Go.Lib.hid (BQ6.out.extN x6.ext), Go.Lib.hid (B76.out.extN x6.ext)⟩
          · have HSM := Go.Lib.hid hsm
            by_cases hlt3 : was < qs
            · have HFIN := Go.Lib.hid (HHT.out (by rw [HHI.out, hsm, HLS.out, HLS2.out, decide_eq_true hlt3]; rfl))
              have dd : decide (was < qs) = true := decide_eq_true hlt3
              clear hsm hlt3
              apply wp_region_rel (relR [Mo.is _, Mo.is _, Mo.is _, Mo.is _, Mo.is _, Mo.is _, Mo.is _, Mo.is _, Mo.is _, Mo.is _, Mo.is _, Mo.is _, Mo.is _, Mo.is _, Mo.is _, Mo.is _]) (by kernel_rfl) (by kernel_rfl) (by kernel_rfl) (relR_mono _) (StepD.all ?st4) ?q4
              case st4 =>
                refine ⟨?_, ?_, ?_, ?_, ?_, ?_, ?_, ?_, ?_, ?_, ?_, ?_, ?_, ?_, ?_, ?_, trivial⟩
                · intro a' w' hx hs hd
                  obtain ⟨y, rfl⟩ := hx.ew
                  have e5 : a'.tmps[5]?.getD undef = _ := hs 5 rfl
                  simp only [List.getElem?_toArray, List.getElem?_cons_succ, List.getElem?_cons_zero, Option.getD_some, Array.getElem?_eq_some_iff] at e5
                  refine .inl ⟨rfl, ?_⟩
                  clear hs hd hx
                  go_simp
                  exact ⟨Ext.refl _ _, rfl⟩
                · intro a' w' hx hs hd
                  obtain ⟨y, rfl⟩ := hx.ew
                  have e49 : a'.tmps[49]?.getD undef = _ := hd 0 49 rfl rfl
                  refine .inl ⟨rfl, ?_⟩
                  clear hs hd hx
                  go_simp
                  exact (ref_Right qc qs qk qkey qx qid _).mono (fun e w'' ⟨he, hx⟩ => ⟨_, he, hx, by rw [HRQ.out]; rfl⟩)
                · intro a' w' hx hs hd
                  obtain ⟨y, rfl⟩ := hx.ew
                  have e50 : a'.tmps[50]?.getD undef = _ := hd 1 50 rfl rfl
                  refine .inl ⟨rfl, ?_⟩
                  clear hs hd hx
                  go_simp
                  exact ⟨Ext.refl _ _, rfl⟩
                · intro a' w' hx hs hd
                  obtain ⟨y, rfl⟩ := hx.ew
                  have eg : a'.tmps[51]?.getD undef = _ := hd 2 51 rfl rfl
                  first
                  | (refine .inr ⟨unwanted_of (j := 2) (d := 51) rfl rfl eg (by rfl), ?_⟩; exact (rfl : (Mo.is undef).p undef y.on))
                  | (refine .inr ⟨unwanted_und (j := 2) (d := 51) rfl rfl eg, ?_⟩; exact (rfl : (Mo.is undef).p undef y.on))
                  | (have e1 : a'.tmps[1]?.getD undef = _ := hs 1 rfl; simp only [List.getElem?_toArray, List.getElem?_cons_succ, List.getElem?_cons_zero, Option.getD_some, Array.getElem?_eq_some_iff] at e1; refine .inl ⟨wanted_of (j := 2) (d := 51) rfl rfl eg, ?_⟩; clear hs hd hx eg; go_simp; exact ⟨Ext.refl _ _, rfl⟩)
                · intro a' w' hx hs hd
                  obtain ⟨y, rfl⟩ := hx.ew
                  have eg : a'.tmps[51]?.getD undef = _ := hd 2 51 rfl rfl
                  first
                  | (refine .inr ⟨unwanted_of (j := 2) (d := 51) rfl rfl eg (by rfl), ?_⟩; exact (rfl : (Mo.is undef).p undef y.on))
                  | (refine .inr ⟨unwanted_und (j := 2) (d := 51) rfl rfl eg, ?_⟩; exact (rfl : (Mo.is undef).p undef y.on))
                  | (have e11 : a'.tmps[11]?.getD undef = _ := hs 11 rfl; simp only [List.getElem?_toArray, List.getElem?_cons_succ, List.getElem?_cons_zero, Option.getD_some, Array.getElem?_eq_some_iff] at e11; refine .inl ⟨wanted_of (j := 2) (d := 51) rfl rfl eg, ?_⟩; clear hs hd hx eg; go_simp; exact ⟨Ext.refl _ _, rfl⟩)
                · intro a' w' hx hs hd
                  obtain ⟨y, rfl⟩ := hx.ew
                  have eg : a'.tmps[51]?.getD undef = _ := hd 2 51 rfl rfl
                  first
                  | (refine .inr ⟨unwanted_of (j := 2) (d := 51) rfl rfl eg (by rfl), ?_⟩; exact (rfl : (Mo.is undef).p undef y.on))
                  | (refine .inr ⟨unwanted_und (j := 2) (d := 51) rfl rfl eg, ?_⟩; exact (rfl : (Mo.is undef).p undef y.on))
                  | (have e52 : a'.tmps[52]?.getD undef = _ := hd 3 52 rfl rfl; have e53 : a'.tmps[53]?.getD undef = _ := hd 4 53 rfl rfl; refine .inl ⟨wanted_of (j := 2) (d := 51) rfl rfl eg, ?_⟩; clear hs hd hx eg; go_simp; exact ⟨Ext.refl _ _, rfl⟩)
                · intro a' w' hx hs hd
                  obtain ⟨y, rfl⟩ := hx.ew
                  have eg : a'.tmps[51]?.getD undef = _ := hd 2 51 rfl rfl
                  first
                  | (refine .inr ⟨unwanted_of (j := 2) (d := 51) rfl rfl eg (by rfl), ?_⟩; exact (rfl : (Mo.is undef).p undef y.on))
                  | (refine .inr ⟨unwanted_und (j := 2) (d := 51) rfl rfl eg, ?_⟩; exact (rfl : (Mo.is undef).p undef y.on))
                  | (have e54 : a'.tmps[54]?.getD undef = _ := hd 5 54 rfl rfl; refine .inl ⟨wanted_of (j := 2) (d := 51) rfl rfl eg, ?_⟩; clear hs hd hx eg; go_simp; exact ⟨Ext.refl _ _, rfl⟩)
                · intro a' w' hx hs hd
                  obtain ⟨y, rfl⟩ := hx.ew
                  have eg : a'.tmps[51]?.getD undef = _ := hd 2 51 rfl rfl
                  first
                  | (refine .inr ⟨unwanted_of (j := 2) (d := 51) rfl rfl eg (by rfl), ?_⟩; exact (rfl : (Mo.is undef).p undef y.on))
                  | (refine .inr ⟨unwanted_und (j := 2) (d := 51) rfl rfl eg, ?_⟩; exact (rfl : (Mo.is undef).p undef y.on))
                  | (have e5 : a'.tmps[5]?.getD undef = _ := hs 5 rfl; simp only [List.getElem?_toArray, List.getElem?_cons_succ, List.getElem?_cons_zero, Option.getD_some, Array.getElem?_eq_some_iff] at e5; refine .inl ⟨wanted_of (j := 2) (d := 51) rfl rfl eg, ?_⟩; clear hs hd hx eg; go_simp; exact ⟨Ext.refl _ _, rfl⟩)
                · intro a' w' hx hs hd
                  obtain ⟨y, rfl⟩ := hx.ew
                  have eg : a'.tmps[51]?.getD undef = _ := hd 2 51 rfl rfl
                  first
                  | (refine .inr ⟨unwanted_of (j := 2) (d := 51) rfl rfl eg (by rfl), ?_⟩; exact (rfl : (Mo.is undef).p undef y.on))
                  | (refine .inr ⟨unwanted_und (j := 2) (d := 51) rfl rfl eg, ?_⟩; exact (rfl : (Mo.is undef).p undef y.on))
                  | (have e55 : a'.tmps[55]?.getD undef = _ := hd 6 55 rfl rfl; have e56 : a'.tmps[56]?.getD undef = _ := hd 7 56 rfl rfl; refine .inl ⟨wanted_of (j := 2) (d := 51) rfl rfl eg, ?_⟩; clear hs hd hx eg; go_simp; exact (ref11_Same c st k key x id qc qs qk qkey qx qid HRO2.out HRO.out _).mono (fun e w'' ⟨he, hx⟩ => ⟨_, he, hx, by rw [HSM.out]; rfl⟩))
                · intro a' w' hx hs hd
                  obtain ⟨y, rfl⟩ := hx.ew
                  have e51 : a'.tmps[51]?.getD undef = _ := hd 2 51 rfl rfl
                  have e57 : a'.tmps[57]?.getD undef = _ := hd 8 57 rfl rfl
                  refine .inl ⟨rfl, ?_⟩
                  clear hs hd hx
                  go_simp
                  exact ⟨Ext.refl _ _, rfl⟩
                · intro a' w' hx hs hd
                  obtain ⟨y, rfl⟩ := hx.ew
                  have e58 : a'.tmps[58]?.getD undef = _ := hd 9 58 rfl rfl
                  refine .inl ⟨rfl, ?_⟩
                  clear hs hd hx
                  go_simp
                  exact ⟨Ext.refl _ _, rfl⟩
                · intro a' w' hx hs hd
                  obtain ⟨y, rfl⟩ := hx.ew
                  have eg : a'.tmps[59]?.getD undef = _ := hd 10 59 rfl rfl
                  first
                  | (refine .inr ⟨unwanted_of (j := 10) (d := 59) rfl rfl eg (by rfl), ?_⟩; exact (rfl : (Mo.is undef).p undef y.on))
                  | (refine .inr ⟨unwanted_und (j := 10) (d := 59) rfl rfl eg, ?_⟩; exact (rfl : (Mo.is undef).p undef y.on))
                  | (have e12 : a'.tmps[12]?.getD undef = _ := hs 12 rfl; simp only [List.getElem?_toArray, List.getElem?_cons_succ, List.getElem?_cons_zero, Option.getD_some, Array.getElem?_eq_some_iff] at e12; refine .inl ⟨wanted_of (j := 10) (d := 59) rfl rfl eg, ?_⟩; clear hs hd hx eg; go_simp; exact ⟨Ext.refl _ _, rfl⟩)
                · intro a' w' hx hs hd
                  obtain ⟨y, rfl⟩ := hx.ew
                  have eg : a'.tmps[59]?.getD undef = _ := hd 10 59 rfl rfl
                  first
                  | (refine .inr ⟨unwanted_of (j := 10) (d := 59) rfl rfl eg (by rfl), ?_⟩; exact (rfl : (Mo.is undef).p undef y.on))
                  | (refine .inr ⟨unwanted_und (j := 10) (d := 59) rfl rfl eg, ?_⟩; exact (rfl : (Mo.is undef).p undef y.on))
                  | (have e5 : a'.tmps[5]?.getD undef = _ := hs 5 rfl; simp only [List.getElem?_toArray, List.getElem?_cons_succ, List.getElem?_cons_zero, Option.getD_some, Array.getElem?_eq_some_iff] at e5; refine .inl ⟨wanted_of (j := 10) (d := 59) rfl rfl eg, ?_⟩; clear hs hd hx eg; go_simp; exact ⟨Ext.refl _ _, rfl⟩)
                · intro a' w' hx hs hd
                  obtain ⟨y, rfl⟩ := hx.ew
                  have eg : a'.tmps[59]?.getD undef = _ := hd 10 59 rfl rfl
                  first
                  | (refine .inr ⟨unwanted_of (j := 10) (d := 59) rfl rfl eg (by rfl), ?_⟩; exact (rfl : (Mo.is undef).p undef y.on))
                  | (refine .inr ⟨unwanted_und (j := 10) (d := 59) rfl rfl eg, ?_⟩; exact (rfl : (Mo.is undef).p undef y.on))
                  | (have e61 : a'.tmps[61]?.getD undef = _ := hd 12 61 rfl rfl; refine .inl ⟨wanted_of (j := 10) (d := 59) rfl rfl eg, ?_⟩; clear hs hd hx eg; go_simp; exact ⟨Ext.refl _ _, rfl⟩)
                · intro a' w' hx hs hd
                  obtain ⟨y, rfl⟩ := hx.ew
                  have eg : a'.tmps[59]?.getD undef = _ := hd 10 59 rfl rfl
                  first
                  | (refine .inr ⟨unwanted_of (j := 10) (d := 59) rfl rfl eg (by rfl), ?_⟩; exact (rfl : (Mo.is undef).p undef y.on))
                  | (refine .inr ⟨unwanted_und (j := 10) (d := 59) rfl rfl eg, ?_⟩; exact (rfl : (Mo.is undef).p undef y.on))
                  | (have e60 : a'.tmps[60]?.getD undef = _ := hd 11 60 rfl rfl; have e62 : a'.tmps[62]?.getD undef = _ := hd 13 62 rfl rfl; refine .inl ⟨wanted_of (j := 10) (d := 59) rfl rfl eg, ?_⟩; clear hs hd hx eg; go_simp; exact ⟨Ext.refl _ _, rfl⟩)
                · intro a' w' hx hs hd
                  obtain ⟨y, rfl⟩ := hx.ew
                  have e59 : a'.tmps[59]?.getD undef = _ := hd 10 59 rfl rfl
                  have e63 : a'.tmps[63]?.getD undef = _ := hd 14 63 rfl rfl
                  refine .inl ⟨rfl, ?_⟩
                  clear hs hd hx
                  go_simp
                  exact ⟨Ext.refl _ _, rfl⟩
              case' q4 =>
                intro vs w' hx hRR
                obtain ⟨x6, rfl⟩ := hx.ew
                have q0 : vs 0 = _ := hRR 0 (by decide)
                have q1 : vs 1 = _ := hRR 1 (by decide)
                have q2 : vs 2 = _ := hRR 2 (by decide)
                have q3 : vs 3 = _ := hRR 3 (by decide)
                have q4 : vs 4 = _ := hRR 4 (by decide)
                have q5 : vs 5 = _ := hRR 5 (by decide)
                have q6 : vs 6 = _ := hRR 6 (by decide)
                have q7 : vs 7 = _ := hRR 7 (by decide)
                have q8 : vs 8 = _ := hRR 8 (by decide)
                have q9 : vs 9 = _ := hRR 9 (by decide)
                have q10 : vs 10 = _ := hRR 10 (by decide)
                have q11 : vs 11 = _ := hRR 11 (by decide)
                have q12 : vs 12 = _ := hRR 12 (by decide)
                have q13 : vs 13 = _ := hRR 13 (by decide)
                have q14 : vs 14 = _ := hRR 14 (by decide)
                have q15 : vs 15 = _ := hRR 15 (by decide)
                clear hRR hx
                simp only [putAll, List.take_succ_cons, List.take_zero, List.drop_succ_cons, List.drop_zero, Act.put, List.setIfInBounds_toArray, List.set_cons_zero, List.set_cons_succ, Nat.reduceAdd, Nat.zero_add]
                simp only [q0, q1, q2, q3, q4, q5, q6, q7, q8, q9, q10, q11, q12, q13, q14, q15]
                clear q0 q1 q2 q3 q4 q5 q6 q7 q8 q9 q10 q11 q12 q13 q14 q15 vs
              have BX8 := Go.Lib.hid (BX.out.extN x6.ext)
              have B78 := Go.Lib.hid (B76.out.extN x6.ext)
              have XZ := Go.Lib.hid (by (repeat (first | with_reducible (first | exact Ext.refl _ _ | assumption | refine Ext.upN ?_ | refine Ext.alloc ?_ _ | refine Ext.drew ?_ | refine Ext.drewN ?_ _ | refine Ext.up1N (by first | omega | simp) ?_) | refine Ext.alloc ?_ _ | refine Ext.setCell ?_ (.inr (by first | omega | simp)) _)) : Ext Non w x6.on)
              clear p0 p1 p2 p3 p4 p5
              go_upto_region 12 with fail
              generalize x6.on = w8 at *
              have z0 : w8.cell? ⟨kx, 0, none⟩ = some (.int .i64 cd) := BX8.out.cell rfl
              have z1 : w8.cell? ⟨kx, 1, none⟩ = some (.float .f64 rl) := BX8.out.cell rfl
              have b0 : w8.cell? ⟨w.heap.size + 2, 0, none⟩ = some (.int .i64 0) := B78.out.cell rfl
              have b1 : w8.cell? ⟨w.heap.size + 2, 1, none⟩ = some (.float .f64 0) := B78.out.cell rfl
              have f0 : w8.frozen? ⟨w.heap.size + 2, 0, none⟩ = false := froz_of_heap B78.out.h
              have f1 : w8.frozen? ⟨w.heap.size + 2, 1, none⟩ = false := froz_of_heap B78.out.h
              have hi63 : IntKind.i64.wrap ((i : Int) + 1) = (i : Int) + 1 := IntWalk.i64_in _ (by omega)
              go_region
              all_goals
                go_wp2
                have B2 := ((B78.out.set (j := 0) (.int .i64 cd)).set (j := 1) (.float .f64 rl)).drew
                have r0 : (((w8.setCell ⟨w.heap.size + 2, 0, none⟩ (.int .i64 cd)).setCell ⟨w.heap.size + 2, 1, none⟩ (.float .f64 rl)).drew).cell? ⟨w.heap.size + 2, 0, none⟩ = some (.int .i64 cd) := B2.cell rfl
                have r1 : (((w8.setCell ⟨w.heap.size + 2, 0, none⟩ (.int .i64 cd)).setCell ⟨w.heap.size + 2, 1, none⟩ (.float .f64 rl)).drew).cell? ⟨w.heap.size + 2, 1, none⟩ = some (.float .f64 rl) := B2.cell rfl
                have XF : Ext Non w ((w8.setCell ⟨w.heap.size + 2, 0, none⟩ (.int .i64 cd)).setCell ⟨w.heap.size + 2, 1, none⟩ (.float .f64 rl)).drew := ((XZ.out.setCell (.inr (by show w.heap.size ≤ w.heap.size + 2; omega)) _).setCell (.inr (by show w.heap.size ≤ w.heap.size + 2; omega)) _).drew
                generalize ((w8.setCell ⟨w.heap.size + 2, 0, none⟩ (.int .i64 cd)).setCell ⟨w.heap.size + 2, 1, none⟩ (.float .f64 rl)).drew = w9 at *
                refine bodyPost_ret (v := .tuple #[.int .i64 ((i : Int) + 1), .agg #[.int .i64 cd, .float .f64 rl], .bool true]) (by simp [results, Tryz.results14, go_sem, r0, r1]) rfl ?_
                exact ⟨by rw [HFIN.out]; show _ = Ending.returned (Value.tuple #[.int .i64 ((i : Int) + 1), .agg #[.int .i64 (sp.getD i zeroSp).code, .float .f64 (sp.getD i zeroSp).real], .bool true]); rw [HCR.out.1, HCR.out.2], XF⟩
            · have HFIN := Go.Lib.hid (HHF.out (by rw [HHI.out, hsm, HLS.out, HLS2.out, decide_eq_false hlt3]; rfl))
              have dd : decide (was < qs) = false := decide_eq_false hlt3
              clear hsm hlt3
              apply wp_region_rel (relR [Mo.is _, Mo.is _, Mo.is _, Mo.is _, Mo.is _, Mo.is _, Mo.is _, Mo.is _, Mo.is _, Mo.is _, Mo.is _, Mo.is _, Mo.is _, Mo.is _, Mo.is _, Mo.is _]) (by kernel_rfl) (by kernel_rfl) (by kernel_rfl) (relR_mono _) (StepD.all ?st5) ?q5
              case st5 =>
                refine ⟨?_, ?_, ?_, ?_, ?_, ?_, ?_, ?_, ?_, ?_, ?_, ?_, ?_, ?_, ?_, ?_, trivial⟩
                · intro a' w' hx hs hd
                  obtain ⟨y, rfl⟩ := hx.ew
                  have e5 : a'.tmps[5]?.getD undef = _ := hs 5 rfl
                  simp only [List.getElem?_toArray, List.getElem?_cons_succ, List.getElem?_cons_zero, Option.getD_some, Array.getElem?_eq_some_iff] at e5
                  refine .inl ⟨rfl, ?_⟩
                  clear hs hd hx
                  go_simp
                  exact ⟨Ext.refl _ _, rfl⟩
                · intro a' w' hx hs hd
                  obtain ⟨y, rfl⟩ := hx.ew
                  have e49 : a'.tmps[49]?.getD undef = _ := hd 0 49 rfl rfl
                  refine .inl ⟨rfl, ?_⟩
                  clear hs hd hx
                  go_simp
                  exact (ref_Right qc qs qk qkey qx qid _).mono (fun e w'' ⟨he, hx⟩ => ⟨_, he, hx, by rw [HRQ.out]; rfl⟩)
                · intro a' w' hx hs hd
                  obtain ⟨y, rfl⟩ := hx.ew
                  have e50 : a'.tmps[50]?.getD undef = _ := hd 1 50 rfl rfl
                  refine .inl ⟨rfl, ?_⟩
                  clear hs hd hx
                  go_simp
                  exact ⟨Ext.refl _ _, rfl⟩
                · intro a' w' hx hs hd
                  obtain ⟨y, rfl⟩ := hx.ew
                  have eg : a'.tmps[51]?.getD undef = _ := hd 2 51 rfl rfl
                  first
                  | (refine .inr ⟨unwanted_of (j := 2) (d := 51) rfl rfl eg (by rfl), ?_⟩; exact (rfl : (Mo.is undef).p undef y.on))
                  | (refine .inr ⟨unwanted_und (j := 2) (d := 51) rfl rfl eg, ?_⟩; exact (rfl : (Mo.is undef).p undef y.on))
                  | (have e1 : a'.tmps[1]?.getD undef = _ := hs 1 rfl; simp only [List.getElem?_toArray, List.getElem?_cons_succ, List.getElem?_cons_zero, Option.getD_some, Array.getElem?_eq_some_iff] at e1; refine .inl ⟨wanted_of (j := 2) (d := 51) rfl rfl eg, ?_⟩; clear hs hd hx eg; go_simp; exact ⟨Ext.refl _ _, rfl⟩)
                · intro a' w' hx hs hd
                  obtain ⟨y, rfl⟩ := hx.ew
                  have eg : a'.tmps[51]?.getD undef = _ := hd 2 51 rfl rfl
                  first
                  | (refine .inr ⟨unwanted_of (j := 2) (d := 51) rfl rfl eg (by rfl), ?_⟩; exact (rfl : (Mo.is undef).p undef y.on))
                  | (refine .inr ⟨unwanted_und (j := 2) (d := 51) rfl rfl eg, ?_⟩; exact (rfl : (Mo.is undef).p undef y.on))
                  | (have e11 : a'.tmps[11]?.getD undef = _ := hs 11 rfl; simp only [List.getElem?_toArray, List.getElem?_cons_succ, List.getElem?_cons_zero, Option.getD_some, Array.getElem?_eq_some_iff] at e11; refine .inl ⟨wanted_of (j := 2) (d := 51) rfl rfl eg, ?_⟩; clear hs hd hx eg; go_simp; exact ⟨Ext.refl _ _, rfl⟩)
                · intro a' w' hx hs hd
                  obtain ⟨y, rfl⟩ := hx.ew
                  have eg : a'.tmps[51]?.getD undef = _ := hd 2 51 rfl rfl
                  first
                  | (refine .inr ⟨unwanted_of (j := 2) (d := 51) rfl rfl eg (by rfl), ?_⟩; exact (rfl : (Mo.is undef).p undef y.on))
                  | (refine .inr ⟨unwanted_und (j := 2) (d := 51) rfl rfl eg, ?_⟩; exact (rfl : (Mo.is undef).p undef y.on))
                  | (have e52 : a'.tmps[52]?.getD undef = _ := hd 3 52 rfl rfl; have e53 : a'.tmps[53]?.getD undef = _ := hd 4 53 rfl rfl; refine .inl ⟨wanted_of (j := 2) (d := 51) rfl rfl eg, ?_⟩; clear hs hd hx eg; go_simp; exact ⟨Ext.refl _ _, rfl⟩)
                · intro a' w' hx hs hd
                  obtain ⟨y, rfl⟩ := hx.ew
                  have eg : a'.tmps[51]?.getD undef = _ := hd 2 51 rfl rfl
                  first
                  | (refine .inr ⟨unwanted_of (j := 2) (d := 51) rfl rfl eg (by rfl), ?_⟩; exact (rfl : (Mo.is undef).p undef y.on))
                  | (refine .inr ⟨unwanted_und (j := 2) (d := 51) rfl rfl eg, ?_⟩; exact (rfl : (Mo.is undef).p undef y.on))
                  | (have e54 : a'.tmps[54]?.getD undef = _ := hd 5 54 rfl rfl; refine .inl ⟨wanted_of (j := 2) (d := 51) rfl rfl eg, ?_⟩; clear hs hd hx eg; go_simp; exact ⟨Ext.refl _ _, rfl⟩)
                · intro a' w' hx hs hd
                  obtain ⟨y, rfl⟩ := hx.ew
                  have eg : a'.tmps[51]?.getD undef = _ := hd 2 51 rfl rfl
                  first
                  | (refine .inr ⟨unwanted_of (j := 2) (d := 51) rfl rfl eg (by rfl), ?_⟩; exact (rfl : (Mo.is undef).p undef y.on))
                  | (refine .inr ⟨unwanted_und (j := 2) (d := 51) rfl rfl eg, ?_⟩; exact (rfl : (Mo.is undef).p undef y.on))
                  | (have e5 : a'.tmps[5]?.getD undef = _ := hs 5 rfl; simp only [List.getElem?_toArray, List.getElem?_cons_succ, List.getElem?_cons_zero, Option.getD_some, Array.getElem?_eq_some_iff] at e5; refine .inl ⟨wanted_of (j := 2) (d := 51) rfl rfl eg, ?_⟩; clear hs hd hx eg; go_simp; exact ⟨Ext.refl _ _, rfl⟩)
                · intro a' w' hx hs hd
                  obtain ⟨y, rfl⟩ := hx.ew
                  have eg : a'.tmps[51]?.getD undef = _ := hd 2 51 rfl rfl
                  first
                  | (refine .inr ⟨unwanted_of (j := 2) (d := 51) rfl rfl eg (by rfl), ?_⟩; exact (rfl : (Mo.is undef).p undef y.on))
                  | (refine .inr ⟨unwanted_und (j := 2) (d := 51) rfl rfl eg, ?_⟩; exact (rfl : (Mo.is undef).p undef y.on))
                  | (have e55 : a'.tmps[55]?.getD undef = _ := hd 6 55 rfl rfl; have e56 : a'.tmps[56]?.getD undef = _ := hd 7 56 rfl rfl; refine .inl ⟨wanted_of (j := 2) (d := 51) rfl rfl eg, ?_⟩; clear hs hd hx eg; go_simp; exact (ref11_Same c st k key x id qc qs qk qkey qx qid HRO2.out HRO.out _).mono (fun e w'' ⟨he, hx⟩ => ⟨_, he, hx, by rw [HSM.out]; rfl⟩))
                · intro a' w' hx hs hd
                  obtain ⟨y, rfl⟩ := hx.ew
                  have e51 : a'.tmps[51]?.getD undef = _ := hd 2 51 rfl rfl
                  have e57 : a'.tmps[57]?.getD undef = _ := hd 8 57 rfl rfl
                  refine .inl ⟨rfl, ?_⟩
                  clear hs hd hx
                  go_simp
                  exact ⟨Ext.refl _ _, rfl⟩
                · intro a' w' hx hs hd
                  obtain ⟨y, rfl⟩ := hx.ew
                  have e58 : a'.tmps[58]?.getD undef = _ := hd 9 58 rfl rfl
                  refine .inl ⟨rfl, ?_⟩
                  clear hs hd hx
                  go_simp
                  exact ⟨Ext.refl _ _, rfl⟩
                · intro a' w' hx hs hd
                  obtain ⟨y, rfl⟩ := hx.ew
                  have eg : a'.tmps[59]?.getD undef = _ := hd 10 59 rfl rfl
                  first
                  | (refine .inr ⟨unwanted_of (j := 10) (d := 59) rfl rfl eg (by rfl), ?_⟩; exact (rfl : (Mo.is undef).p undef y.on))
                  | (refine .inr ⟨unwanted_und (j := 10) (d := 59) rfl rfl eg, ?_⟩; exact (rfl : (Mo.is undef).p undef y.on))
                  | (have e12 : a'.tmps[12]?.getD undef = _ := hs 12 rfl; simp only [List.getElem?_toArray, List.getElem?_cons_succ, List.getElem?_cons_zero, Option.getD_some, Array.getElem?_eq_some_iff] at e12; refine .inl ⟨wanted_of (j := 10) (d := 59) rfl rfl eg, ?_⟩; clear hs hd hx eg; go_simp; exact ⟨Ext.refl _ _, rfl⟩)
                · intro a' w' hx hs hd
                  obtain ⟨y, rfl⟩ := hx.ew
                  have eg : a'.tmps[59]?.getD undef = _ := hd 10 59 rfl rfl
                  first
                  | (refine .inr ⟨unwanted_of (j := 10) (d := 59) rfl rfl eg (by rfl), ?_⟩; exact (rfl : (Mo.is undef).p undef y.on))
                  | (refine .inr ⟨unwanted_und (j := 10) (d := 59) rfl rfl eg, ?_⟩; exact (rfl : (Mo.is undef).p undef y.on))
                  | (have e5 : a'.tmps[5]?.getD undef = _ := hs 5 rfl; simp only [List.getElem?_toArray, List.getElem?_cons_succ, List.getElem?_cons_zero, Option.getD_some, Array.getElem?_eq_some_iff] at e5; refine .inl ⟨wanted_of (j := 10) (d := 59) rfl rfl eg, ?_⟩; clear hs hd hx eg; go_simp; exact ⟨Ext.refl _ _, rfl⟩)
                · intro a' w' hx hs hd
                  obtain ⟨y, rfl⟩ := hx.ew
                  have eg : a'.tmps[59]?.getD undef = _ := hd 10 59 rfl rfl
                  first
                  | (refine .inr ⟨unwanted_of (j := 10) (d := 59) rfl rfl eg (by rfl), ?_⟩; exact (rfl : (Mo.is undef).p undef y.on))
                  | (refine .inr ⟨unwanted_und (j := 10) (d := 59) rfl rfl eg, ?_⟩; exact (rfl : (Mo.is undef).p undef y.on))
                  | (have e61 : a'.tmps[61]?.getD undef = _ := hd 12 61 rfl rfl; refine .inl ⟨wanted_of (j := 10) (d := 59) rfl rfl eg, ?_⟩; clear hs hd hx eg; go_simp; exact ⟨Ext.refl _ _, rfl⟩)
                · intro a' w' hx hs hd
                  obtain ⟨y, rfl⟩ := hx.ew
                  have eg : a'.tmps[59]?.getD undef = _ := hd 10 59 rfl rfl
                  first
                  | (refine .inr ⟨unwanted_of (j := 10) (d := 59) rfl rfl eg (by rfl), ?_⟩; exact (rfl : (Mo.is undef).p undef y.on))
                  | (refine .inr ⟨unwanted_und (j := 10) (d := 59) rfl rfl eg, ?_⟩; exact (rfl : (Mo.is undef).p undef y.on))
                  | (have e60 : a'.tmps[60]?.getD undef = _ := hd 11 60 rfl rfl; have e62 : a'.tmps[62]?.getD undef = _ := hd 13 62 rfl rfl; refine .inl ⟨wanted_of (j := 10) (d := 59) rfl rfl eg, ?_⟩; clear hs hd hx eg; go_simp; exact ⟨Ext.refl _ _, rfl⟩)
                · intro a' w' hx hs hd
                  obtain ⟨y, rfl⟩ := hx.ew
                  have e59 : a'.tmps[59]?.getD undef = _ := hd 10 59 rfl rfl
                  have e63 : a'.tmps[63]?.getD undef = _ := hd 14 63 rfl rfl
                  refine .inl ⟨rfl, ?_⟩
                  clear hs hd hx
                  go_simp
                  exact ⟨Ext.refl _ _, rfl⟩
              case' q5 =>
                intro vs w' hx hRR
                obtain ⟨x6, rfl⟩ := hx.ew
                have q0 : vs 0 = _ := hRR 0 (by decide)
                have q1 : vs 1 = _ := hRR 1 (by decide)
                have q2 : vs 2 = _ := hRR 2 (by decide)
                have q3 : vs 3 = _ := hRR 3 (by decide)
                have q4 : vs 4 = _ := hRR 4 (by decide)
                have q5 : vs 5 = _ := hRR 5 (by decide)
                have q6 : vs 6 = _ := hRR 6 (by decide)
                have q7 : vs 7 = _ := hRR 7 (by decide)
                have q8 : vs 8 = _ := hRR 8 (by decide)
                have q9 : vs 9 = _ := hRR 9 (by decide)
                have q10 : vs 10 = _ := hRR 10 (by decide)
                have q11 : vs 11 = _ := hRR 11 (by decide)
                have q12 : vs 12 = _ := hRR 12 (by decide)
                have q13 : vs 13 = _ := hRR 13 (by decide)
                have q14 : vs 14 = _ := hRR 14 (by decide)
                have q15 : vs 15 = _ := hRR 15 (by decide)
                clear hRR hx
                simp only [putAll, List.take_succ_cons, List.take_zero, List.drop_succ_cons, List.drop_zero, Act.put, List.setIfInBounds_toArray, List.set_cons_zero, List.set_cons_succ, Nat.reduceAdd, Nat.zero_add]
                simp only [q0, q1, q2, q3, q4, q5, q6, q7, q8, q9, q10, q11, q12, q13, q14, q15]
                clear q0 q1 q2 q3 q4 q5 q6 q7 q8 q9 q10 q11 q12 q13 q14 q15 vs
              go_wp2_with fail
              go_roundg (l.length - (i + 1))
              case measure => have := HN.out; omega
              case rel => exact ⟨i + 1, ⟨_, by (repeat (first | with_reducible (first | exact Ext.refl _ _ | assumption | refine Ext.upN ?_ | refine Ext.alloc ?_ _ | refine Ext.drew ?_ | refine Ext.drewN ?_ _ | refine Ext.up1N (by first | omega | simp) ?_) | refine Ext.alloc ?_ _ | refine Ext.setCell ?_ (.inr (by first | omega | simp)) _))⟩, hlt, rfl, by go_num, rfl, HFIN, Go.Lib.hid (HL6.out.extN x6.ext), Go.Lib.hid (BQ6.out.extN x6.ext), Go.Lib.hid (B76.out.extN x6.ext)⟩
      · have e7 : turnL gi = fulL gi := by unfold fulL; rw [hf]; rfl
        have HT7 := Go.Lib.hid e7
        clear hf e7
        go_wp2_with fail
        refine (ref12_Turn b sb rb gi I.out _ (HR.out.extN x2.ext)).mono ?_
        rintro e w4 ⟨rfl, hx4, hL4⟩
        rw [HT7.out] at hL4
        have HLf := Go.Lib.hid hL4
        have BQf := Go.Lib.hid ((BQ.out.extN x2.ext).ext hx4 (fun e => by have := HBS.out; have e : w.heap.size + 1 = b := e; omega))
        have B7f := Go.Lib.hid ((B7.out.extN x2.ext).ext hx4 (fun e => by have := HBS.out; have e : w.heap.size + 2 = b := e; omega))
        obtain ⟨x8, hx6⟩ := ((z.ext.trans x2.ext).own hx4 (fun j e => by have := HBS.out; have e : j = b := e; omega)).ew
        subst hx6
        clear hx4 hL4
        generalize turnE gi = te at *
        have IF : Hid (Inv (fulL gi)) := Go.Lib.hid (inv_ful I.out)
        have HS2 : Hid (gAt xs l (i + 1) = doL (fulL gi) ⟨c, st, ⟨k, key, x, id⟩⟩) := Go.Lib.hid (by rw [HS.out]; rfl)
        obtain ⟨gf, hgf⟩ : ∃ gf, gf = fulL gi := ⟨_, rfl⟩
        have HLS : Hid (lastS gi qc = lastS gf qc) := Go.Lib.hid (by rw [hgf, ful_last])
        have HCR : Hid ((sp.getD i zeroSp).code = (doR gf ⟨c, st, ⟨k, key, x, id⟩⟩).code ∧ (sp.getD i zeroSp).real = (doR gf ⟨c, st, ⟨k, key, x, id⟩⟩).real) := Go.Lib.hid (by rw [HGD.out, hgf]; exact ⟨rfl, rfl⟩)
        rw [← hgf] at IF HS2 HLf
        clear hgf HS HGD
        have p0 : x8.on.cell? ⟨w.heap.size + 1, 0, none⟩ = some (.int .i64 qc) := BQf.out.cell rfl
        have p1 : x8.on.cell? ⟨w.heap.size + 1, 1, none⟩ = some (.int .i64 qs) := BQf.out.cell rfl
        have p2 : x8.on.cell? ⟨w.heap.size + 1, 2, none⟩ = some (.int .i64 qk) := BQf.out.cell rfl
        have p3 : x8.on.cell? ⟨w.heap.size + 1, 3, none⟩ = some (.string qkey) := BQf.out.cell rfl
        have p4 : x8.on.cell? ⟨w.heap.size + 1, 4, none⟩ = some (.float .f64 qx) := BQf.out.cell rfl
        have p5 : x8.on.cell? ⟨w.heap.size + 1, 5, none⟩ = some (.int .i64 qid) := BQf.out.cell rfl
        cases hrq : rightB ⟨qc, qs, ⟨qk, qkey, qx, qid⟩⟩
        · have HRQ := Go.Lib.hid hrq
          clear hrq
          go_wp2_with fail
          refine Calls.ew (ref_Right qc qs qk qkey qx qid _) ?_
          rintro e x3 rfl
          rw [HRQ.out]
          go_wp2_with fail
          refine (ref12_Do b sb rb gf IF.out c st k key x id HRO2.out.x _ (HLf.out.extN x3.ext)).mono ?_
          rintro e w5 ⟨rfl, hx5, hL5⟩
          rw [← HS2.out] at hL5
          have HL5 := Go.Lib.hid hL5
          have BQ5 := Go.Lib.hid ((BQf.out.extN x3.ext).ext hx5 (fun e => by have := HBS.out; rcases e with e | e | e <;> omega))
          have B75 := Go.Lib.hid ((B7f.out.extN x3.ext).ext hx5 (fun e => by have := HBS.out; rcases e with e | e | e <;> omega))
          obtain ⟨x5, hx6⟩ := ((x8.ext.trans x3.ext).own hx5 (fun j e => by have := HBS.out; rcases e with e | e | e <;> omega)).ew
          subst hx6
          clear hx5 hL5 p0 p1 p2 p3 p4 p5
          obtain ⟨cd, hcd⟩ : ∃ cd, cd = (doR gf ⟨c, st, ⟨k, key, x, id⟩⟩).code := ⟨_, rfl⟩
          obtain ⟨rl, hrl⟩ : ∃ rl, rl = (doR gf ⟨c, st, ⟨k, key, x, id⟩⟩).real := ⟨_, rfl⟩
          rw [← hcd, ← hrl] at HCR ⊢
          clear hcd hrl
          generalize doE gf ⟨c, st, ⟨k, key, x, id⟩⟩ = de at *
          go_upto_region 11 with (refine wpList_store_box rfl 47 _ _ rfl x5.on.heap.size _ [.int .i64 cd, .float .f64 rl] _ rfl rfl (Bx.newAt _ _ _ _ rfl) rfl info_result2 (by simp [Value.oneCell']) (fun W hB => ?_); have BX := Go.Lib.hid hB; clear hB)
          have XW : Ext Non x5.on W.on := by (repeat (first | with_reducible (first | exact Ext.refl _ _ | assumption | refine Ext.upN ?_ | refine Ext.alloc ?_ _ | refine Ext.drew ?_ | refine Ext.drewN ?_ _ | refine Ext.up1N (by first | omega | simp) ?_) | refine Ext.alloc ?_ _ | refine Ext.setCell ?_ (.inr (by first | omega | simp)) _))
          have HL6 := Go.Lib.hid (HL5.out.extN XW)
          have BQ6 := Go.Lib.hid (BQ5.out.extN XW)
          have B76 := Go.Lib.hid (B75.out.extN XW)
          obtain ⟨x7, hx7⟩ := (x5.ext.trans XW).ew
          rw [hx7] at HL6 BQ6 B76 BX ⊢
          clear hx7 XW W HL5 BQ5 B75
          try simp only [Act.put]
          generalize x5.on.heap.size = kx at *
          have p0 : x7.on.cell? ⟨w.heap.size + 1, 0, none⟩ = some (.int .i64 qc) := BQ6.out.cell rfl
          have p1 : x7.on.cell? ⟨w.heap.size + 1, 1, none⟩ = some (.int .i64 qs) := BQ6.out.cell rfl
          have p2 : x7.on.cell? ⟨w.heap.size + 1, 2, none⟩ = some (.int .i64 qk) := BQ6.out.cell rfl
          have p3 : x7.on.cell? ⟨w.heap.size + 1, 3, none⟩ = some (.string qkey) := BQ6.out.cell rfl
          have p4 : x7.on.cell? ⟨w.heap.size + 1, 4, none⟩ = some (.float .f64 qx) := BQ6.out.cell rfl
          have p5 : x7.on.cell? ⟨w.heap.size + 1, 5, none⟩ = some (.int .i64 qid) := BQ6.out.cell rfl
          apply wp_region_rel (relR [Mo.is _, Mo.is _, Mo.is _, Mo.is _, Mo.is _, Mo.is _, Mo.is _, Mo.is _, Mo.is _, Mo.is _, Mo.is _, Mo.is _, Mo.is _, Mo.is _, Mo.is _, Mo.is _]) (by kernel_rfl) (by kernel_rfl) (by kernel_rfl) (relR_mono _) (StepD.all ?st6) ?q6
          case st6 =>
            refine ⟨?_, ?_, ?_, ?_, ?_, ?_, ?_, ?_, ?_, ?_, ?_, ?_, ?_, ?_, ?_, ?_, trivial⟩
            · intro a' w' hx hs hd
              obtain ⟨y, rfl⟩ := hx.ew
              have e5 : a'.tmps[5]?.getD undef = _ := hs 5 rfl
              simp only [List.getElem?_toArray, List.getElem?_cons_succ, List.getElem?_cons_zero, Option.getD_some, Array.getElem?_eq_some_iff] at e5
              refine .inl ⟨rfl, ?_⟩
              clear hs hd hx
              go_simp
              exact ⟨Ext.refl _ _, rfl⟩
            · intro a' w' hx hs hd
              obtain ⟨y, rfl⟩ := hx.ew
              have e49 : a'.tmps[49]?.getD undef = _ := hd 0 49 rfl rfl
              refine .inl ⟨rfl, ?_⟩
              clear hs hd hx
              go_simp
              exact (ref_Right qc qs qk qkey qx qid _).mono (fun e w'' ⟨he, hx⟩ => ⟨_, he, hx, by rw [HRQ.out]; rfl⟩)
            · intro a' w' hx hs hd
              obtain ⟨y, rfl⟩ := hx.ew
              have e50 : a'.tmps[50]?.getD undef = _ := hd 1 50 rfl rfl
              refine .inl ⟨rfl, ?_⟩
              clear hs hd hx
              go_simp
              exact ⟨Ext.refl _ _, rfl⟩
            · intro a' w' hx hs hd
              obtain ⟨y, rfl⟩ := hx.ew
              have eg : a'.tmps[51]?.getD undef = _ := hd 2 51 rfl rfl
              first
              | (refine .inr ⟨unwanted_of (j := 2) (d := 51) rfl rfl eg (by rfl), ?_⟩; exact (rfl : (Mo.is undef).p undef y.on))
              | (refine .inr ⟨unwanted_und (j := 2) (d := 51) rfl rfl eg, ?_⟩; exact (rfl : (Mo.is undef).p undef y.on))
              | (have e1 : a'.tmps[1]?.getD undef = _ := hs 1 rfl; simp only [List.getElem?_toArray, List.getElem?_cons_succ, List.getElem?_cons_zero, Option.getD_some, Array.getElem?_eq_some_iff] at e1; refine .inl ⟨wanted_of (j := 2) (d := 51) rfl rfl eg, ?_⟩; clear hs hd hx eg; go_simp; exact ⟨Ext.refl _ _, rfl⟩)
            · intro a' w' hx hs hd
              obtain ⟨y, rfl⟩ := hx.ew
              have eg : a'.tmps[51]?.getD undef = _ := hd 2 51 rfl rfl
              first
              | (refine .inr ⟨unwanted_of (j := 2) (d := 51) rfl rfl eg (by rfl), ?_⟩; exact (rfl : (Mo.is undef).p undef y.on))
              | (refine .inr ⟨unwanted_und (j := 2) (d := 51) rfl rfl eg, ?_⟩; exact (rfl : (Mo.is undef).p undef y.on))
              | (have e11 : a'.tmps[11]?.getD undef = _ := hs 11 rfl; simp only [List.getElem?_toArray, List.getElem?_cons_succ, List.getElem?_cons_zero, Option.getD_some, Array.getElem?_eq_some_iff] at e11; refine .inl ⟨wanted_of (j := 2) (d := 51) rfl rfl eg, ?_⟩; clear hs hd hx eg; go_simp; exact ⟨Ext.refl _ _, rfl⟩)
            · intro a' w' hx hs hd
              obtain ⟨y, rfl⟩ := hx.ew
              have eg : a'.tmps[51]?.getD undef = _ := hd 2 51 rfl rfl
              first
              | (refine .inr ⟨unwanted_of (j := 2) (d := 51) rfl rfl eg (by rfl), ?_⟩; exact (rfl : (Mo.is undef).p undef y.on))
              | (refine .inr ⟨unwanted_und (j := 2) (d := 51) rfl rfl eg, ?_⟩; exact (rfl : (Mo.is undef).p undef y.on))
              | (have e52 : a'.tmps[52]?.getD undef = _ := hd 3 52 rfl rfl; have e53 : a'.tmps[53]?.getD undef = _ := hd 4 53 rfl rfl; refine .inl ⟨wanted_of (j := 2) (d := 51) rfl rfl eg, ?_⟩; clear hs hd hx eg; go_simp; exact ⟨Ext.refl _ _, rfl⟩)
            · intro a' w' hx hs hd
              obtain ⟨y, rfl⟩ := hx.ew
              have eg : a'.tmps[51]?.getD undef = _ := hd 2 51 rfl rfl
              first
              | (refine .inr ⟨unwanted_of (j := 2) (d := 51) rfl rfl eg (by rfl), ?_⟩; exact (rfl : (Mo.is undef).p undef y.on))
              | (refine .inr ⟨unwanted_und (j := 2) (d := 51) rfl rfl eg, ?_⟩; exact (rfl : (Mo.is undef).p undef y.on))
              | (have e54 : a'.tmps[54]?.getD undef = _ := hd 5 54 rfl rfl; refine .inl ⟨wanted_of (j := 2) (d := 51) rfl rfl eg, ?_⟩; clear hs hd hx eg; go_simp; exact ⟨Ext.refl _ _, rfl⟩)
            · intro a' w' hx hs hd
              obtain ⟨y, rfl⟩ := hx.ew
              have eg : a'.tmps[51]?.getD undef = _ := hd 2 51 rfl rfl
              first
              | (refine .inr ⟨unwanted_of (j := 2) (d := 51) rfl rfl eg (by rfl), ?_⟩; exact (rfl : (Mo.is undef).p undef y.on))
              | (refine .inr ⟨unwanted_und (j := 2) (d := 51) rfl rfl eg, ?_⟩; exact (rfl : (Mo.is undef).p undef y.on))
              | (have e5 : a'.tmps[5]?.getD undef = _ := hs 5 rfl; simp only [List.getElem?_toArray, List.getElem?_cons_succ, List.getElem?_cons_zero, Option.getD_some, Array.getElem?_eq_some_iff] at e5; refine .inl ⟨wanted_of (j := 2) (d := 51) rfl rfl eg, ?_⟩; clear hs hd hx eg; go_simp; exact ⟨Ext.refl _ _, rfl⟩)
            · intro a' w' hx hs hd
              obtain ⟨y, rfl⟩ := hx.ew
              have eg : a'.tmps[51]?.getD undef = _ := hd 2 51 rfl rfl
              first
              | (refine .inr ⟨unwanted_of (j := 2) (d := 51) rfl rfl eg (by rfl), ?_⟩; exact (rfl : (Mo.is undef).p undef y.on))
              | (refine .inr ⟨unwanted_und (j := 2) (d := 51) rfl rfl eg, ?_⟩; exact (rfl : (Mo.is undef).p undef y.on))
              | (have e55 : a'.tmps[55]?.getD undef = _ := hd 6 55 rfl rfl; have e56 : a'.tmps[56]?.getD undef = _ := hd 7 56 rfl rfl; refine .inl ⟨wanted_of (j := 2) (d := 51) rfl rfl eg, ?_⟩; clear hs hd hx eg; go_simp; fail)
            · intro a' w' hx hs hd
              obtain ⟨y, rfl⟩ := hx.ew
              have e51 : a'.tmps[51]?.getD undef = _ := hd 2 51 rfl rfl
              have e57 : a'.tmps[57]?.getD undef = _ := hd 8 57 rfl rfl
              refine .inl ⟨rfl, ?_⟩
              clear hs hd hx
              go_simp
              exact ⟨Ext.refl _ _, rfl⟩
            · intro a' w' hx hs hd
              obtain ⟨y, rfl⟩ := hx.ew
              have e58 : a'.tmps[58]?.getD undef = _ := hd 9 58 rfl rfl
              refine .inl ⟨rfl, ?_⟩
              clear hs hd hx
              go_simp
              exact ⟨Ext.refl _ _, rfl⟩
            · intro a' w' hx hs hd
              obtain ⟨y, rfl⟩ := hx.ew
              have eg : a'.tmps[59]?.getD undef = _ := hd 10 59 rfl rfl
              first
              | (refine .inr ⟨unwanted_of (j := 10) (d := 59) rfl rfl eg (by rfl), ?_⟩; exact (rfl : (Mo.is undef).p undef y.on))
              | (refine .inr ⟨unwanted_und (j := 10) (d := 59) rfl rfl eg, ?_⟩; exact (rfl : (Mo.is undef).p undef y.on))
              | (have e12 : a'.tmps[12]?.getD undef = _ := hs 12 rfl; simp only [List.getElem?_toArray, List.getElem?_cons_succ, List.getElem?_cons_zero, Option.getD_some, Array.getElem?_eq_some_iff] at e12; refine .inl ⟨wanted_of (j := 10) (d := 59) rfl rfl eg, ?_⟩; clear hs hd hx eg; go_simp; exact ⟨Ext.refl _ _, rfl⟩)
            · intro a' w' hx hs hd
              obtain ⟨y, rfl⟩ := hx.ew
              have eg : a'.tmps[59]?.getD undef = _ := hd 10 59 rfl rfl
              first
              | (refine .inr ⟨unwanted_of (j := 10) (d := 59) rfl rfl eg (by rfl), ?_⟩; exact (rfl : (Mo.is undef).p undef y.on))
              | (refine .inr ⟨unwanted_und (j := 10) (d := 59) rfl rfl eg, ?_⟩; exact (rfl : (Mo.is undef).p undef y.on))
              | (have e5 : a'.tmps[5]?.getD undef = _ := hs 5 rfl; simp only [List.getElem?_toArray, List.getElem?_cons_succ, List.getElem?_cons_zero, Option.getD_some, Array.getElem?_eq_some_iff] at e5; refine .inl ⟨wanted_of (j := 10) (d := 59) rfl rfl eg, ?_⟩; clear hs hd hx eg; go_simp; exact ⟨Ext.refl _ _, rfl⟩)
            · intro a' w' hx hs hd
              obtain ⟨y, rfl⟩ := hx.ew
              have eg : a'.tmps[59]?.getD undef = _ := hd 10 59 rfl rfl
              first
              | (refine .inr ⟨unwanted_of (j := 10) (d := 59) rfl rfl eg (by rfl), ?_⟩; exact (rfl : (Mo.is undef).p undef y.on))
              | (refine .inr ⟨unwanted_und (j := 10) (d := 59) rfl rfl eg, ?_⟩; exact (rfl : (Mo.is undef).p undef y.on))
              | (have e61 : a'.tmps[61]?.getD undef = _ := hd 12 61 rfl rfl; refine .inl ⟨wanted_of (j := 10) (d := 59) rfl rfl eg, ?_⟩; clear hs hd hx eg; go_simp; exact ⟨Ext.refl _ _, rfl⟩)
            · intro a' w' hx hs hd
              obtain ⟨y, rfl⟩ := hx.ew
              have eg : a'.tmps[59]?.getD undef = _ := hd 10 59 rfl rfl
              first
              | (refine .inr ⟨unwanted_of (j := 10) (d := 59) rfl rfl eg (by rfl), ?_⟩; exact (rfl : (Mo.is undef).p undef y.on))
              | (refine .inr ⟨unwanted_und (j := 10) (d := 59) rfl rfl eg, ?_⟩; exact (rfl : (Mo.is undef).p undef y.on))
              | (have e60 : a'.tmps[60]?.getD undef = _ := hd 11 60 rfl rfl; have e62 : a'.tmps[62]?.getD undef = _ := hd 13 62 rfl rfl; refine .inl ⟨wanted_of (j := 10) (d := 59) rfl rfl eg, ?_⟩; clear hs hd hx eg; go_simp; exact ⟨Ext.refl _ _, rfl⟩)
            · intro a' w' hx hs hd
              obtain ⟨y, rfl⟩ := hx.ew
              have e59 : a'.tmps[59]?.getD undef = _ := hd 10 59 rfl rfl
              have e63 : a'.tmps[63]?.getD undef = _ := hd 14 63 rfl rfl
              refine .inl ⟨rfl, ?_⟩
              clear hs hd hx
              go_simp
              exact ⟨Ext.refl _ _, rfl⟩
          case' q6 =>
            intro vs w' hx hRR
            obtain ⟨x6, rfl⟩ := hx.ew
            have q0 : vs 0 = _ := hRR 0 (by decide)
            have q1 : vs 1 = _ := hRR 1 (by decide)
            have q2 : vs 2 = _ := hRR 2 (by decide)
            have q3 : vs 3 = _ := hRR 3 (by decide)
            have q4 : vs 4 = _ := hRR 4 (by decide)
            have q5 : vs 5 = _ := hRR 5 (by decide)
            have q6 : vs 6 = _ := hRR 6 (by decide)
            have q7 : vs 7 = _ := hRR 7 (by decide)
            have q8 : vs 8 = _ := hRR 8 (by decide)
            have q9 : vs 9 = _ := hRR 9 (by decide)
            have q10 : vs 10 = _ := hRR 10 (by decide)
            have q11 : vs 11 = _ := hRR 11 (by decide)
            have q12 : vs 12 = _ := hRR 12 (by decide)
            have q13 : vs 13 = _ := hRR 13 (by decide)
            have q14 : vs 14 = _ := hRR 14 (by decide)
            have q15 : vs 15 = _ := hRR 15 (by decide)
            clear hRR hx
            simp only [putAll, List.take_succ_cons, List.take_zero, List.drop_succ_cons, List.drop_zero, Act.put, List.setIfInBounds_toArray, List.set_cons_zero, List.set_cons_succ, Nat.reduceAdd, Nat.zero_add]
            simp only [q0, q1, q2, q3, q4, q5, q6, q7, q8, q9, q10, q11, q12, q13, q14, q15]
            clear q0 q1 q2 q3 q4 q5 q6 q7 q8 q9 q10 q11 q12 q13 q14 q15 vs
          have HFIN : Hid (outI ⟨qc, qs, ⟨qk, qkey, qx, qid⟩⟩ sp = (outI ⟨qc, qs, ⟨qk, qkey, qx, qid⟩⟩ (sp.drop (i + 1))).map (· + (i + 1))) := Go.Lib.hid (by
            have e := HWR.out HRQ.out
            rw [e]
            rw [e] at HD
            have h2 := HD.out
            cases hd : outI ⟨qc, qs, ⟨qk, qkey, qx, qid⟩⟩ (sp.drop (i + 1)) with
            | none => rfl
            | some j =>
              exfalso
              obtain ⟨z1, z2, -⟩ := outI_some hd
              have hall := outI_none e
              have := hall _ (List.mem_of_mem_drop (List.getElem_mem z1))
              rw [this] at z2; cases z2)
          go_wp2_with fail
          go_roundg (l.length - (i + 1))
          case measure => have := HN.out; omega
          case rel => exact ⟨i + 1, ⟨_, by (repeat (first | with_reducible (first | exact Ext.refl _ _ | assumption | refine Ext.upN ?_ | refine Ext.alloc ?_ _ | refine Ext.drew ?_ | refine Ext.drewN ?_ _ | refine Ext.up1N (by first | omega | simp) ?_) | refine Ext.alloc ?_ _ | refine Ext.setCell ?_ (.inr (by first | omega | simp)) _))⟩, hlt, rfl, by go_num, rfl, HFIN, Go.Lib.hid (HL6.out.extN x6.ext), Go.Lib.hid (BQ6.out.extN x6.ext), Go.Lib.hid (B76.out.extN x6.ext)⟩
        · have HRQ := Go.Lib.hid hrq
          obtain ⟨rc1, rc8, -, -, -⟩ := rightB_facts hrq
          have rc1 : 1 ≤ qc := rc1
          have rc8 : qc ≤ 8 := rc8
          have HLS2 : Hid (lastS gf qc = (gf.cl (qc - 1).toNat).stamp) := Go.Lib.hid (if_pos ⟨rc1, rc8⟩)
          obtain ⟨cn, hcn⟩ : ∃ cn : Nat, qc = cn := ⟨qc.toNat, by omega⟩
          obtain ⟨j8, hj8, hcj⟩ : ∃ j, j < 8 ∧ cn = j + 1 := ⟨cn - 1, by omega, by omega⟩
          have hidx : (qc - 1).toNat = j8 := by omega
          rw [hidx] at HLS2
          have cb1 : (0 : Int) ≤ (cn : Int) := by omega
          have cb2 : (cn : Int) < 9 := by omega
          have HCJ := Go.Lib.hid hcj; have HCN := Go.Lib.hid hcn
          clear hrq hcj hidx rc1 rc8 hcn
          go_wp2_with fail
          refine Calls.ew (ref_Right qc qs qk qkey qx qid _) ?_
          rintro e x3 rfl
          rw [HRQ.out]
          have HLg := Go.Lib.hid (HLf.out.extN x3.ext)
          obtain ⟨a61, c61, a62, c62, v6, hb6, -⟩ := HLg.out.ex
          have s5 : x3.on.cell? ⟨b, 5, none⟩ = some (.slice (some ⟨sb, 0, none⟩) 9 9) := hb6.cell rfl
          have sc : x3.on.cell? ⟨sb, cn, none⟩ = some (.int .i64 (gf.cl j8).stamp) := by rw [HCJ.out]; exact HLg.out.st.cell (st_get _ hj8)
          clear hb6
          have p0' : x3.on.cell? ⟨w.heap.size + 1, 0, none⟩ = some (.int .i64 (cn : Int)) := by rw [← HCN.out]; exact (BQf.out.extN x3.ext).cell rfl
          clear p0
          go_upto_region 9 with fail
          apply wp_region_rel (relR [Mo.is _, Mo.is _, Mo.is _, Mo.is _, Mo.is _, Mo.is _, Mo.is _, Mo.is _, Mo.is _]) (by kernel_rfl) (by kernel_rfl) (by kernel_rfl) (relR_mono _) (StepD.all ?st7) ?q7
          case st7 =>
            refine ⟨?_, ?_, ?_, ?_, ?_, ?_, ?_, ?_, ?_, trivial⟩
            · intro a' w' hx hs hd
              obtain ⟨y, rfl⟩ := hx.ew
              have e9 : a'.tmps[9]?.getD undef = _ := hs 9 rfl
              simp only [List.getElem?_toArray, List.getElem?_cons_succ, List.getElem?_cons_zero, Option.getD_some, Array.getElem?_eq_some_iff] at e9
              refine .inl ⟨rfl, ?_⟩
              clear hs hd hx
              go_simp
              exact ⟨Ext.refl _ _, rfl⟩
            · intro a' w' hx hs hd
              obtain ⟨y, rfl⟩ := hx.ew
              have e32 : a'.tmps[32]?.getD undef = _ := hd 0 32 rfl rfl
              refine .inl ⟨rfl, ?_⟩
              clear hs hd hx
              go_simp
              exact ⟨Ext.refl _ _, rfl⟩
            · intro a' w' hx hs hd
              obtain ⟨y, rfl⟩ := hx.ew
              have e33 : a'.tmps[33]?.getD undef = _ := hd 1 33 rfl rfl
              refine .inl ⟨rfl, ?_⟩
              clear hs hd hx
              go_simp
              exact ⟨Ext.refl _ _, rfl⟩
            · intro a' w' hx hs hd
              obtain ⟨y, rfl⟩ := hx.ew
              have e34 : a'.tmps[34]?.getD undef = _ := hd 2 34 rfl rfl
              refine .inl ⟨rfl, ?_⟩
              clear hs hd hx
              go_simp
              exact ⟨Ext.refl _ _, rfl⟩
            · intro a' w' hx hs hd
              obtain ⟨y, rfl⟩ := hx.ew
              have e5 : a'.tmps[5]?.getD undef = _ := hs 5 rfl
              simp only [List.getElem?_toArray, List.getElem?_cons_succ, List.getElem?_cons_zero, Option.getD_some, Array.getElem?_eq_some_iff] at e5
              refine .inl ⟨rfl, ?_⟩
              clear hs hd hx
              go_simp
              exact ⟨Ext.refl _ _, rfl⟩
            · intro a' w' hx hs hd
              obtain ⟨y, rfl⟩ := hx.ew
              have e36 : a'.tmps[36]?.getD undef = _ := hd 4 36 rfl rfl
              refine .inl ⟨rfl, ?_⟩
              clear hs hd hx
              go_simp
              exact ⟨Ext.refl _ _, rfl⟩
            · intro a' w' hx hs hd
              obtain ⟨y, rfl⟩ := hx.ew
              have e35 : a'.tmps[35]?.getD undef = _ := hd 3 35 rfl rfl
              have e37 : a'.tmps[37]?.getD undef = _ := hd 5 37 rfl rfl
              refine .inl ⟨rfl, ?_⟩
              clear hs hd hx
              go_simp
              exact ⟨Ext.refl _ _, rfl⟩
            · intro a' w' hx hs hd
              obtain ⟨y, rfl⟩ := hx.ew
              have e38 : a'.tmps[38]?.getD undef = _ := hd 6 38 rfl rfl
              refine .inl ⟨rfl, ?_⟩
              clear hs hd hx
              go_simp
              exact ⟨Ext.refl _ _, rfl⟩
            · intro a' w' hx hs hd
              obtain ⟨y, rfl⟩ := hx.ew
              have e39 : a'.tmps[39]?.getD undef = _ := hd 7 39 rfl rfl
              refine .inl ⟨rfl, ?_⟩
              clear hs hd hx
              go_simp
              exact ⟨Ext.refl _ _, rfl⟩
          case' q7 =>
            intro vs w' hx hRR
            obtain ⟨x4, rfl⟩ := hx.ew
            have q0 : vs 0 = _ := hRR 0 (by decide)
            have q1 : vs 1 = _ := hRR 1 (by decide)
            have q2 : vs 2 = _ := hRR 2 (by decide)
            have q3 : vs 3 = _ := hRR 3 (by decide)
            have q4 : vs 4 = _ := hRR 4 (by decide)
            have q5 : vs 5 = _ := hRR 5 (by decide)
            have q6 : vs 6 = _ := hRR 6 (by decide)
            have q7 : vs 7 = _ := hRR 7 (by decide)
            have q8 : vs 8 = _ := hRR 8 (by decide)
            clear hRR hx
            simp only [putAll, List.take_succ_cons, List.take_zero, List.drop_succ_cons, List.drop_zero, Act.put, List.setIfInBounds_toArray, List.set_cons_zero, List.set_cons_succ, Nat.reduceAdd, Nat.zero_add]
            simp only [q0, q1, q2, q3, q4, q5, q6, q7, q8]
            clear q0 q1 q2 q3 q4 q5 q6 q7 q8 vs
          clear s5 sc p0'
          have p0 : x8.on.cell? ⟨w.heap.size + 1, 0, none⟩ = some (.int .i64 qc) := BQf.out.cell rfl
          go_wp2_with fail
          refine (ref12_Do b sb rb gf IF.out c st k key x id HRO2.out.x _ (HLg.out.extN x4.ext)).mono ?_
          rintro e w5 ⟨rfl, hx5, hL5⟩
          rw [← HS2.out] at hL5
          have HL5 := Go.Lib.hid hL5
          have BQ5 := Go.Lib.hid ((BQf.out.extN (x3.ext.trans x4.ext)).ext hx5 (fun e => by have := HBS.out; rcases e with e | e | e <;> omega))
          have B75 := Go.Lib.hid ((B7f.out.extN (x3.ext.trans x4.ext)).ext hx5 (fun e => by have := HBS.out; rcases e with e | e | e <;> omega))
          obtain ⟨x5, hx6⟩ := ((x8.ext.trans (x3.ext.trans x4.ext)).own hx5 (fun j e => by have := HBS.out; rcases e with e | e | e <;> omega)).ew
          subst hx6
          clear hx5 hL5 p0 p1 p2 p3 p4 p5
          obtain ⟨cd, hcd⟩ : ∃ cd, cd = (doR gf ⟨c, st, ⟨k, key, x, id⟩⟩).code := ⟨_, rfl⟩
          obtain ⟨rl, hrl⟩ : ∃ rl, rl = (doR gf ⟨c, st, ⟨k, key, x, id⟩⟩).real := ⟨_, rfl⟩
          rw [← hcd, ← hrl] at HCR ⊢
          clear hcd hrl
          generalize doE gf ⟨c, st, ⟨k, key, x, id⟩⟩ = de at *
          go_upto_region 11 with (refine wpList_store_box rfl 47 _ _ rfl x5.on.heap.size _ [.int .i64 cd, .float .f64 rl] _ rfl rfl (Bx.newAt _ _ _ _ rfl) rfl info_result2 (by simp [Value.oneCell']) (fun W hB => ?_); have BX := Go.Lib.hid hB; clear hB)
          have XW : Ext Non x5.on W.on := by (repeat (first | with_reducible (first | exact Ext.refl _ _ | assumption | refine Ext.upN ?_ | refine Ext.alloc ?_ _ | refine Ext.drew ?_ | refine Ext.drewN ?_ _ | refine Ext.up1N (by first | omega | simp) ?_) | refine Ext.alloc ?_ _ | refine Ext.setCell ?_ (.inr (by first | omega | simp)) _))
          have HL6 := Go.Lib.hid (HL5.out.extN XW)
          have BQ6 := Go.Lib.hid (BQ5.out.extN XW)
          have B76 := Go.Lib.hid (B75.out.extN XW)
          obtain ⟨x7, hx7⟩ := (x5.ext.trans XW).ew
          rw [hx7] at HL6 BQ6 B76 BX ⊢
          clear hx7 XW W HL5 BQ5 B75
          try simp only [Act.put]
          generalize x5.on.heap.size = kx at *
          obtain ⟨was, hwas⟩ : ∃ was, was = (gf.cl j8).stamp := ⟨_, rfl⟩
          rw [← hwas] at HLS2
          have HWAS := Go.Lib.hid hwas
          rw [← hwas]
          clear hwas
          have p0 : x7.on.cell? ⟨w.heap.size + 1, 0, none⟩ = some (.int .i64 qc) := BQ6.out.cell rfl
          have p1 : x7.on.cell? ⟨w.heap.size + 1, 1, none⟩ = some (.int .i64 qs) := BQ6.out.cell rfl
          have p2 : x7.on.cell? ⟨w.heap.size + 1, 2, none⟩ = some (.int .i64 qk) := BQ6.out.cell rfl
          have p3 : x7.on.cell? ⟨w.heap.size + 1, 3, none⟩ = some (.string qkey) := BQ6.out.cell rfl
          have p4 : x7.on.cell? ⟨w.heap.size + 1, 4, none⟩ = some (.float .f64 qx) := BQ6.out.cell rfl
          have p5 : x7.on.cell? ⟨w.heap.size + 1, 5, none⟩ = some (.int .i64 qid) := BQ6.out.cell rfl
          cases hsm : sameT ⟨c, st, ⟨k, key, x, id⟩⟩ ⟨qc, qs, ⟨qk, qkey, qx, qid⟩⟩
          · have HSM := Go.Lib.hid hsm
            have HFIN := Go.Lib.hid (HHF.out (by rw [HHI.out, hsm]; rfl))
            clear hsm
            apply wp_region_rel (relR [Mo.is _, Mo.is _, Mo.is _, Mo.is _, Mo.is _, Mo.is _, Mo.is _, Mo.is _, Mo.is _, Mo.is _, Mo.is _, Mo.is _, Mo.is _, Mo.is _, Mo.is _, Mo.is _]) (by kernel_rfl) (by kernel_rfl) (by kernel_rfl) (relR_mono _) (StepD.all ?st8) ?q8
            case st8 =>
              refine ⟨?_, ?_, ?_, ?_, ?_, ?_, ?_, ?_, ?_, ?_, ?_, ?_, ?_, ?_, ?_, ?_, trivial⟩
              · intro a' w' hx hs hd
                obtain ⟨y, rfl⟩ := hx.ew
                have e5 : a'.tmps[5]?.getD undef = _ := hs 5 rfl
                simp only [List.getElem?_toArray, List.getElem?_cons_succ, List.getElem?_cons_zero, Option.getD_some, Array.getElem?_eq_some_iff] at e5
                refine .inl ⟨rfl, ?_⟩
                clear hs hd hx
                go_simp
                exact ⟨Ext.refl _ _, rfl⟩
              · intro a' w' hx hs hd
                obtain ⟨y, rfl⟩ := hx.ew
                have e49 : a'.tmps[49]?.getD undef = _ := hd 0 49 rfl rfl
                refine .inl ⟨rfl, ?_⟩
                clear hs hd hx
                go_simp
                exact (ref_Right qc qs qk qkey qx qid _).mono (fun e w'' ⟨he, hx⟩ => ⟨_, he, hx, by rw [HRQ.out]; rfl⟩)
              · intro a' w' hx hs hd
                obtain ⟨y, rfl⟩ := hx.ew
                have e50 : a'.tmps[50]?.getD undef = _ := hd 1 50 rfl rfl
                refine .inl ⟨rfl, ?_⟩
                clear hs hd hx
                go_simp
                exact ⟨Ext.refl _ _, rfl⟩
              · intro a' w' hx hs hd
                obtain ⟨y, rfl⟩ := hx.ew
                have eg : a'.tmps[51]?.getD undef = _ := hd 2 51 rfl rfl
                first
                | (refine .inr ⟨unwanted_of (j := 2) (d := 51) rfl rfl eg (by rfl), ?_⟩; exact (rfl : (Mo.is undef).p undef y.on))
                | (refine .inr ⟨unwanted_und (j := 2) (d := 51) rfl rfl eg, ?_⟩; exact (rfl : (Mo.is undef).p undef y.on))
                | (have e1 : a'.tmps[1]?.getD undef = _ := hs 1 rfl; simp only [List.getElem?_toArray, List.getElem?_cons_succ, List.getElem?_cons_zero, Option.getD_some, Array.getElem?_eq_some_iff] at e1; refine .inl ⟨wanted_of (j := 2) (d := 51) rfl rfl eg, ?_⟩; clear hs hd hx eg; go_simp; exact ⟨Ext.refl _ _, rfl⟩)
              · intro a' w' hx hs hd
                obtain ⟨y, rfl⟩ := hx.ew
                have eg : a'.tmps[51]?.getD undef = _ := hd 2 51 rfl rfl
                first
                | (refine .inr ⟨unwanted_of (j := 2) (d := 51) rfl rfl eg (by rfl), ?_⟩; exact (rfl : (Mo.is undef).p undef y.on))
                | (refine .inr ⟨unwanted_und (j := 2) (d := 51) rfl rfl eg, ?_⟩; exact (rfl : (Mo.is undef).p undef y.on))
                | (have e11 : a'.tmps[11]?.getD undef = _ := hs 11 rfl; simp only [List.getElem?_toArray, List.getElem?_cons_succ, List.getElem?_cons_zero, Option.getD_some, Array.getElem?_eq_some_iff] at e11; refine .inl ⟨wanted_of (j := 2) (d := 51) rfl rfl eg, ?_⟩; clear hs hd hx eg; go_simp; exact ⟨Ext.refl _ _, rfl⟩)
              · intro a' w' hx hs hd
                obtain ⟨y, rfl⟩ := hx.ew
                have eg : a'.tmps[51]?.getD undef = _ := hd 2 51 rfl rfl
                first
                | (refine .inr ⟨unwanted_of (j := 2) (d := 51) rfl rfl eg (by rfl), ?_⟩; exact (rfl : (Mo.is undef).p undef y.on))
                | (refine .inr ⟨unwanted_und (j := 2) (d := 51) rfl rfl eg, ?_⟩; exact (rfl : (Mo.is undef).p undef y.on))
                | (have e52 : a'.tmps[52]?.getD undef = _ := hd 3 52 rfl rfl; have e53 : a'.tmps[53]?.getD undef = _ := hd 4 53 rfl rfl; refine .inl ⟨wanted_of (j := 2) (d := 51) rfl rfl eg, ?_⟩; clear hs hd hx eg; go_simp; exact ⟨Ext.refl _ _, rfl⟩)
              · intro a' w' hx hs hd
                obtain ⟨y, rfl⟩ := hx.ew
                have eg : a'.tmps[51]?.getD undef = _ := hd 2 51 rfl rfl
                first
                | (refine .inr ⟨unwanted_of (j := 2) (d := 51) rfl rfl eg (by rfl), ?_⟩; exact (rfl : (Mo.is undef).p undef y.on))
                | (refine .inr ⟨unwanted_und (j := 2) (d := 51) rfl rfl eg, ?_⟩; exact (rfl : (Mo.is undef).p undef y.on))
                | (have e54 : a'.tmps[54]?.getD undef = _ := hd 5 54 rfl rfl; refine .inl ⟨wanted_of (j := 2) (d := 51) rfl rfl eg, ?_⟩; clear hs hd hx eg; go_simp; exact ⟨Ext.refl _ _, rfl⟩)
              · intro a' w' hx hs hd
                obtain ⟨y, rfl⟩ := hx.ew
                have eg : a'.tmps[51]?.getD undef = _ := hd 2 51 rfl rfl
                first
                | (refine .inr ⟨unwanted_of (j := 2) (d := 51) rfl rfl eg (by rfl), ?_⟩; exact (rfl : (Mo.is undef).p undef y.on))
                | (refine .inr ⟨unwanted_und (j := 2) (d := 51) rfl rfl eg, ?_⟩; exact (rfl : (Mo.is undef).p undef y.on))
                | (have e5 : a'.tmps[5]?.getD undef = _ := hs 5 rfl; simp only [List.getElem?_toArray, List.getElem?_cons_succ, List.getElem?_cons_zero, Option.getD_some, Array.getElem?_eq_some_iff] at e5; refine .inl ⟨wanted_of (j := 2) (d := 51) rfl rfl eg, ?_⟩; clear hs hd hx eg; go_simp; exact ⟨Ext.refl _ _, rfl⟩)
              · intro a' w' hx hs hd
                obtain ⟨y, rfl⟩ := hx.ew
                have eg : a'.tmps[51]?.getD undef = _ := hd 2 51 rfl rfl
                first
                | (refine .inr ⟨unwanted_of (j := 2) (d := 51) rfl rfl eg (by rfl), ?_⟩; exact (rfl : (Mo.is undef).p undef y.on))
                | (refine .inr ⟨unwanted_und (j := 2) (d := 51) rfl rfl eg, ?_⟩; exact (rfl : (Mo.is undef).p undef y.on))
                | (have e55 : a'.tmps[55]?.getD undef = _ := hd 6 55 rfl rfl; have e56 : a'.tmps[56]?.getD undef = _ := hd 7 56 rfl rfl; refine .inl ⟨wanted_of (j := 2) (d := 51) rfl rfl eg, ?_⟩; clear hs hd hx eg; go_simp; exact (ref11_Same c st k key x id qc qs qk qkey qx qid HRO2.out HRO.out _).mono (fun e w'' ⟨he, hx⟩ => ⟨_, he, hx, by rw [HSM.out]; rfl⟩))
              · intro a' w' hx hs hd
                obtain ⟨y, rfl⟩ := hx.ew
                have e51 : a'.tmps[51]?.getD undef = _ := hd 2 51 rfl rfl
                have e57 : a'.tmps[57]?.getD undef = _ := hd 8 57 rfl rfl
                refine .inl ⟨rfl, ?_⟩
                clear hs hd hx
                go_simp
                exact ⟨Ext.refl _ _, rfl⟩
              · intro a' w' hx hs hd
                obtain ⟨y, rfl⟩ := hx.ew
                have e58 : a'.tmps[58]?.getD undef = _ := hd 9 58 rfl rfl
                refine .inl ⟨rfl, ?_⟩
                clear hs hd hx
                go_simp
                exact ⟨Ext.refl _ _, rfl⟩
              · intro a' w' hx hs hd
                obtain ⟨y, rfl⟩ := hx.ew
                have eg : a'.tmps[59]?.getD undef = _ := hd 10 59 rfl rfl
                first
                | (refine .inr ⟨unwanted_of (j := 10) (d := 59) rfl rfl eg (by rfl), ?_⟩; exact (rfl : (Mo.is undef).p undef y.on))
                | (refine .inr ⟨unwanted_und (j := 10) (d := 59) rfl rfl eg, ?_⟩; exact (rfl : (Mo.is undef).p undef y.on))
                | (have e12 : a'.tmps[12]?.getD undef = _ := hs 12 rfl; simp only [List.getElem?_toArray, List.getElem?_cons_succ, List.getElem?_cons_zero, Option.getD_some, Array.getElem?_eq_some_iff] at e12; refine .inl ⟨wanted_of (j := 10) (d := 59) rfl rfl eg, ?_⟩; clear hs hd hx eg; go_simp; exact ⟨Ext.refl _ _, rfl⟩)
              · intro a' w' hx hs hd
                obtain ⟨y, rfl⟩ := hx.ew
                have eg : a'.tmps[59]?.getD undef = _ := hd 10 59 rfl rfl
                first
                | (refine .inr ⟨unwanted_of (j := 10) (d := 59) rfl rfl eg (by rfl), ?_⟩; exact (rfl : (Mo.is undef).p undef y.on))
                | (refine .inr ⟨unwanted_und (j := 10) (d := 59) rfl rfl eg, ?_⟩; exact (rfl : (Mo.is undef).p undef y.on))
                | (have e5 : a'.tmps[5]?.getD undef = _ := hs 5 rfl; simp only [List.getElem?_toArray, List.getElem?_cons_succ, List.getElem?_cons_zero, Option.getD_some, Array.getElem?_eq_some_iff] at e5; refine .inl ⟨wanted_of (j := 10) (d := 59) rfl rfl eg, ?_⟩; clear hs hd hx eg; go_simp; exact ⟨Ext.refl _ _, rfl⟩)
              · intro a' w' hx hs hd
                obtain ⟨y, rfl⟩ := hx.ew
                have eg : a'.tmps[59]?.getD undef = _ := hd 10 59 rfl rfl
                first
                | (refine .inr ⟨unwanted_of (j := 10) (d := 59) rfl rfl eg (by rfl), ?_⟩; exact (rfl : (Mo.is undef).p undef y.on))
                | (refine .inr ⟨unwanted_und (j := 10) (d := 59) rfl rfl eg, ?_⟩; exact (rfl : (Mo.is undef).p undef y.on))
                | (have e61 : a'.tmps[61]?.getD undef = _ := hd 12 61 rfl rfl; refine .inl ⟨wanted_of (j := 10) (d := 59) rfl rfl eg, ?_⟩; clear hs hd hx eg; go_simp; exact ⟨Ext.refl _ _, rfl⟩)
              · intro a' w' hx hs hd
                obtain ⟨y, rfl⟩ := hx.ew
                have eg : a'.tmps[59]?.getD undef = _ := hd 10 59 rfl rfl
                first
                | (refine .inr ⟨unwanted_of (j := 10) (d := 59) rfl rfl eg (by rfl), ?_⟩; exact (rfl : (Mo.is undef).p undef y.on))
                | (refine .inr ⟨unwanted_und (j := 10) (d := 59) rfl rfl eg, ?_⟩; exact (rfl : (Mo.is undef).p undef y.on))
                | (have e60 : a'.tmps[60]?.getD undef = _ := hd 11 60 rfl rfl; have e62 : a'.tmps[62]?.getD undef = _ := hd 13 62 rfl rfl; refine .inl ⟨wanted_of (j := 10) (d := 59) rfl rfl eg, ?_⟩; clear hs hd hx eg; go_simp; exact ⟨Ext.refl _ _, rfl⟩)
              · intro a' w' hx hs hd
                obtain ⟨y, rfl⟩ := hx.ew
                have e59 : a'.tmps[59]?.getD undef = _ := hd 10 59 rfl rfl
                have e63 : a'.tmps[63]?.getD undef = _ := hd 14 63 rfl rfl
                refine .inl ⟨rfl, ?_⟩
                clear hs hd hx
                go_simp
                exact ⟨Ext.refl _ _, rfl⟩
            case' q8 =>
              intro vs w' hx hRR
              obtain ⟨x6, rfl⟩ := hx.ew
              have q0 : vs 0 = _ := hRR 0 (by decide)
              have q1 : vs 1 = _ := hRR 1 (by decide)
              have q2 : vs 2 = _ := hRR 2 (by decide)
              have q3 : vs 3 = _ := hRR 3 (by decide)
              have q4 : vs 4 = _ := hRR 4 (by decide)
              have q5 : vs 5 = _ := hRR 5 (by decide)
              have q6 : vs 6 = _ := hRR 6 (by decide)
              have q7 : vs 7 = _ := hRR 7 (by decide)
              have q8 : vs 8 = _ := hRR 8 (by decide)
              have q9 : vs 9 = _ := hRR 9 (by decide)
              have q10 : vs 10 = _ := hRR 10 (by decide)
              have q11 : vs 11 = _ := hRR 11 (by decide)
              have q12 : vs 12 = _ := hRR 12 (by decide)
              have q13 : vs 13 = _ := hRR 13 (by decide)
              have q14 : vs 14 = _ := hRR 14 (by decide)
              have q15 : vs 15 = _ := hRR 15 (by decide)
              clear hRR hx
              simp only [putAll, List.take_succ_cons, List.take_zero, List.drop_succ_cons, List.drop_zero, Act.put, List.setIfInBounds_toArray, List.set_cons_zero, List.set_cons_succ, Nat.reduceAdd, Nat.zero_add]
              simp only [q0, q1, q2, q3, q4, q5, q6, q7, q8, q9, q10, q11, q12, q13, q14, q15]
              clear q0 q1 q2 q3 q4 q5 q6 q7 q8 q9 q10 q11 q12 q13 q14 q15 vs
            go_wp2_with fail
            go_roundg (l.length - (i + 1))
            case measure => have := HN.out; omega
            case rel => exact ⟨i + 1, ⟨_, by (repeat (first | with_reducible (first | exact Ext.refl _ _ | assumption | refine Ext.upN ?_ | refine Ext.alloc ?_ _ | refine Ext.drew ?_ | refine Ext.drewN ?_ _ | refine Ext.up1N (by first | omega | simp) ?_) | refine Ext.alloc ?_ _ | refine Ext.setCell ?_ (.inr (by first | omega | simp)) _))⟩, hlt, rfl, by go_num, rfl, HFIN, Go.Lib.hid (HL6.out.extN x6.ext), Go.Lib.hid (BQ6.out.extN x6.ext), Go.Lib.hid (B76.out.extN x6.ext)⟩
          · have HSM := Go.Lib.hid hsm
            by_cases hlt3 : was < qs
            · have HFIN := Go.Lib.hid (HHT.out (by rw [HHI.out, hsm, HLS.out, HLS2.out, decide_eq_true hlt3]; rfl))
              have dd : decide (was < qs) = true := decide_eq_true hlt3
              clear hsm hlt3
              apply wp_region_rel (relR [Mo.is _, Mo.is _, Mo.is _, Mo.is _, Mo.is _, Mo.is _, Mo.is _, Mo.is _, Mo.is _, Mo.is _, Mo.is _, Mo.is _, Mo.is _, Mo.is _, Mo.is _, Mo.is _]) (by kernel_rfl) (by kernel_rfl) (by kernel_rfl) (relR_mono _) (StepD.all ?st9) ?q9
              case st9 =>
                refine ⟨?_, ?_, ?_, ?_, ?_, ?_, ?_, ?_, ?_, ?_, ?_, ?_, ?_, ?_, ?_, ?_, trivial⟩
                · intro a' w' hx hs hd
                  obtain ⟨y, rfl⟩ := hx.ew
                  have e5 : a'.tmps[5]?.getD undef = _ := hs 5 rfl
                  simp only [List.getElem?_toArray, List.getElem?_cons_succ, List.getElem?_cons_zero, Option.getD_some, Array.getElem?_eq_some_iff] at e5
                  refine .inl ⟨rfl, ?_⟩
                  clear hs hd hx
                  go_simp
                  exact ⟨Ext.refl _ _, rfl⟩
                · intro a' w' hx hs hd
                  obtain ⟨y, rfl⟩ := hx.ew
                  have e49 : a'.tmps[49]?.getD undef = _ := hd 0 49 rfl rfl
                  refine .inl ⟨rfl, ?_⟩
                  clear hs hd hx
                  go_simp
                  exact (ref_Right qc qs qk qkey qx qid _).mono (fun e w'' ⟨he, hx⟩ => ⟨_, he, hx, by rw [HRQ.out]; rfl⟩)
                · intro a' w' hx hs hd
                  obtain ⟨y, rfl⟩ := hx.ew
                  have e50 : a'.tmps[50]?.getD undef = _ := hd 1 50 rfl rfl
                  refine .inl ⟨rfl, ?_⟩
                  clear hs hd hx
                  go_simp
                  exact ⟨Ext.refl _ _, rfl⟩
                · intro a' w' hx hs hd
                  obtain ⟨y, rfl⟩ := hx.ew
                  have eg : a'.tmps[51]?.getD undef = _ := hd 2 51 rfl rfl
                  first
                  | (refine .inr ⟨unwanted_of (j := 2) (d := 51) rfl rfl eg (by rfl), ?_⟩; exact (rfl : (Mo.is undef).p undef y.on))
                  | (refine .inr ⟨unwanted_und (j := 2) (d := 51) rfl rfl eg, ?_⟩; exact (rfl : (Mo.is undef).p undef y.on))
                  | (have e1 : a'.tmps[1]?.getD undef = _ := hs 1 rfl; simp only [List.getElem?_toArray, List.getElem?_cons_succ, List.getElem?_cons_zero, Option.getD_some, Array.getElem?_eq_some_iff] at e1; refine .inl ⟨wanted_of (j := 2) (d := 51) rfl rfl eg, ?_⟩; clear hs hd hx eg; go_simp; exact ⟨Ext.refl _ _, rfl⟩)
                · intro a' w' hx hs hd
                  obtain ⟨y, rfl⟩ := hx.ew
                  have eg : a'.tmps[51]?.getD undef = _ := hd 2 51 rfl rfl
                  first
                  | (refine .inr ⟨unwanted_of (j := 2) (d := 51) rfl rfl eg (by rfl), ?_⟩; exact (rfl : (Mo.is undef).p undef y.on))
                  | (refine .inr ⟨unwanted_und (j := 2) (d := 51) rfl rfl eg, ?_⟩; exact (rfl : (Mo.is undef).p undef y.on))
                  | (have e11 : a'.tmps[11]?.getD undef = _ := hs 11 rfl; simp only [List.getElem?_toArray, List.getElem?_cons_succ, List.getElem?_cons_zero, Option.getD_some, Array.getElem?_eq_some_iff] at e11; refine .inl ⟨wanted_of (j := 2) (d := 51) rfl rfl eg, ?_⟩; clear hs hd hx eg; go_simp; exact ⟨Ext.refl _ _, rfl⟩)
                · intro a' w' hx hs hd
                  obtain ⟨y, rfl⟩ := hx.ew
                  have eg : a'.tmps[51]?.getD undef = _ := hd 2 51 rfl rfl
                  first
                  | (refine .inr ⟨unwanted_of (j := 2) (d := 51) rfl rfl eg (by rfl), ?_⟩; exact (rfl : (Mo.is undef).p undef y.on))
                  | (refine .inr ⟨unwanted_und (j := 2) (d := 51) rfl rfl eg, ?_⟩; exact (rfl : (Mo.is undef).p undef y.on))
                  | (have e52 : a'.tmps[52]?.getD undef = _ := hd 3 52 rfl rfl; have e53 : a'.tmps[53]?.getD undef = _ := hd 4 53 rfl rfl; refine .inl ⟨wanted_of (j := 2) (d := 51) rfl rfl eg, ?_⟩; clear hs hd hx eg; go_simp; exact ⟨Ext.refl _ _, rfl⟩)
                · intro a' w' hx hs hd
                  obtain ⟨y, rfl⟩ := hx.ew
                  have eg : a'.tmps[51]?.getD undef = _ := hd 2 51 rfl rfl
                  first
                  | (refine .inr ⟨unwanted_of (j := 2) (d := 51) rfl rfl eg (by rfl), ?_⟩; exact (rfl : (Mo.is undef).p undef y.on))
                  | (refine .inr ⟨unwanted_und (j := 2) (d := 51) rfl rfl eg, ?_⟩; exact (rfl : (Mo.is undef).p undef y.on))
                  | (have e54 : a'.tmps[54]?.getD undef = _ := hd 5 54 rfl rfl; refine .inl ⟨wanted_of (j := 2) (d := 51) rfl rfl eg, ?_⟩; clear hs hd hx eg; go_simp; exact ⟨Ext.refl _ _, rfl⟩)
                · intro a' w' hx hs hd
                  obtain ⟨y, rfl⟩ := hx.ew
                  have eg : a'.tmps[51]?.getD undef = _ := hd 2 51 rfl rfl
                  first
                  | (refine .inr ⟨unwanted_of (j := 2) (d := 51) rfl rfl eg (by rfl), ?_⟩; exact (rfl : (Mo.is undef).p undef y.on))
                  | (refine .inr ⟨unwanted_und (j := 2) (d := 51) rfl rfl eg, ?_⟩; exact (rfl : (Mo.is undef).p undef y.on))
                  | (have e5 : a'.tmps[5]?.getD undef = _ := hs 5 rfl; simp only [List.getElem?_toArray, List.getElem?_cons_succ, List.getElem?_cons_zero, Option.getD_some, Array.getElem?_eq_some_iff] at e5; refine .inl ⟨wanted_of (j := 2) (d := 51) rfl rfl eg, ?_⟩; clear hs hd hx eg; go_simp; exact ⟨Ext.refl _ _, rfl⟩)
                · intro a' w' hx hs hd
                  obtain ⟨y, rfl⟩ := hx.ew
                  have eg : a'.tmps[51]?.getD undef = _ := hd 2 51 rfl rfl
                  first
                  | (refine .inr ⟨unwanted_of (j := 2) (d := 51) rfl rfl eg (by rfl), ?_⟩; exact (rfl : (Mo.is undef).p undef y.on))
                  | (refine .inr ⟨unwanted_und (j := 2) (d := 51) rfl rfl eg, ?_⟩; exact (rfl : (Mo.is undef).p undef y.on))
                  | (have e55 : a'.tmps[55]?.getD undef = _ := hd 6 55 rfl rfl; have e56 : a'.tmps[56]?.getD undef = _ := hd 7 56 rfl rfl; refine .inl ⟨wanted_of (j := 2) (d := 51) rfl rfl eg, ?_⟩; clear hs hd hx eg; go_simp; exact (ref11_Same c st k key x id qc qs qk qkey qx qid HRO2.out HRO.out _).mono (fun e w'' ⟨he, hx⟩ => ⟨_, he, hx, by rw [HSM.out]; rfl⟩))
                · intro a' w' hx hs hd
                  obtain ⟨y, rfl⟩ := hx.ew
                  have e51 : a'.tmps[51]?.getD undef = _ := hd 2 51 rfl rfl
                  have e57 : a'.tmps[57]?.getD undef = _ := hd 8 57 rfl rfl
                  refine .inl ⟨rfl, ?_⟩
                  clear hs hd hx
                  go_simp
                  exact ⟨Ext.refl _ _, rfl⟩
                · intro a' w' hx hs hd
                  obtain ⟨y, rfl⟩ := hx.ew
                  have e58 : a'.tmps[58]?.getD undef = _ := hd 9 58 rfl rfl
                  refine .inl ⟨rfl, ?_⟩
                  clear hs hd hx
                  go_simp
                  exact ⟨Ext.refl _ _, rfl⟩
                · intro a' w' hx hs hd
                  obtain ⟨y, rfl⟩ := hx.ew
                  have eg : a'.tmps[59]?.getD undef = _ := hd 10 59 rfl rfl
                  first
                  | (refine .inr ⟨unwanted_of (j := 10) (d := 59) rfl rfl eg (by rfl), ?_⟩; exact (rfl : (Mo.is undef).p undef y.on))
                  | (refine .inr ⟨unwanted_und (j := 10) (d := 59) rfl rfl eg, ?_⟩; exact (rfl : (Mo.is undef).p undef y.on))
                  | (have e12 : a'.tmps[12]?.getD undef = _ := hs 12 rfl; simp only [List.getElem?_toArray, List.getElem?_cons_succ, List.getElem?_cons_zero, Option.getD_some, Array.getElem?_eq_some_iff] at e12; refine .inl ⟨wanted_of (j := 10) (d := 59) rfl rfl eg, ?_⟩; clear hs hd hx eg; go_simp; exact ⟨Ext.refl _ _, rfl⟩)
                · intro a' w' hx hs hd
                  obtain ⟨y, rfl⟩ := hx.ew
                  have eg : a'.tmps[59]?.getD undef = _ := hd 10 59 rfl rfl
                  first
                  | (refine .inr ⟨unwanted_of (j := 10) (d := 59) rfl rfl eg (by rfl), ?_⟩; exact (rfl : (Mo.is undef).p undef y.on))
                  | (refine .inr ⟨unwanted_und (j := 10) (d := 59) rfl rfl eg, ?_⟩; exact (rfl : (Mo.is undef).p undef y.on))
                  | (have e5 : a'.tmps[5]?.getD undef = _ := hs 5 rfl; simp only [List.getElem?_toArray, List.getElem?_cons_succ, List.getElem?_cons_zero, Option.getD_some, Array.getElem?_eq_some_iff] at e5; refine .inl ⟨wanted_of (j := 10) (d := 59) rfl rfl eg, ?_⟩; clear hs hd hx eg; go_simp; exact ⟨Ext.refl _ _, rfl⟩)
                · intro a' w' hx hs hd
                  obtain ⟨y, rfl⟩ := hx.ew
                  have eg : a'.tmps[59]?.getD undef = _ := hd 10 59 rfl rfl
                  first
                  | (refine .inr ⟨unwanted_of (j := 10) (d := 59) rfl rfl eg (by rfl), ?_⟩; exact (rfl : (Mo.is undef).p undef y.on))
                  | (refine .inr ⟨unwanted_und (j := 10) (d := 59) rfl rfl eg, ?_⟩; exact (rfl : (Mo.is undef).p undef y.on))
                  | (have e61 : a'.tmps[61]?.getD undef = _ := hd 12 61 rfl rfl; refine .inl ⟨wanted_of (j := 10) (d := 59) rfl rfl eg, ?_⟩; clear hs hd hx eg; go_simp; exact ⟨Ext.refl _ _, rfl⟩)
                · intro a' w' hx hs hd
                  obtain ⟨y, rfl⟩ := hx.ew
                  have eg : a'.tmps[59]?.getD undef = _ := hd 10 59 rfl rfl
                  first
                  | (refine .inr ⟨unwanted_of (j := 10) (d := 59) rfl rfl eg (by rfl), ?_⟩; exact (rfl : (Mo.is undef).p undef y.on))
                  | (refine .inr ⟨unwanted_und (j := 10) (d := 59) rfl rfl eg, ?_⟩; exact (rfl : (Mo.is undef).p undef y.on))
                  | (have e60 : a'.tmps[60]?.getD undef = _ := hd 11 60 rfl rfl; have e62 : a'.tmps[62]?.getD undef = _ := hd 13 62 rfl rfl; refine .inl ⟨wanted_of (j := 10) (d := 59) rfl rfl eg, ?_⟩; clear hs hd hx eg; go_simp; exact ⟨Ext.refl _ _, rfl⟩)
                · intro a' w' hx hs hd
                  obtain ⟨y, rfl⟩ := hx.ew
                  have e59 : a'.tmps[59]?.getD undef = _ := hd 10 59 rfl rfl
                  have e63 : a'.tmps[63]?.getD undef = _ := hd 14 63 rfl rfl
                  refine .inl ⟨rfl, ?_⟩
                  clear hs hd hx
                  go_simp
                  exact ⟨Ext.refl _ _, rfl⟩
              case' q9 =>
                intro vs w' hx hRR
                obtain ⟨x6, rfl⟩ := hx.ew
                have q0 : vs 0 = _ := hRR 0 (by decide)
                have q1 : vs 1 = _ := hRR 1 (by decide)
                have q2 : vs 2 = _ := hRR 2 (by decide)
                have q3 : vs 3 = _ := hRR 3 (by decide)
                have q4 : vs 4 = _ := hRR 4 (by decide)
                have q5 : vs 5 = _ := hRR 5 (by decide)
                have q6 : vs 6 = _ := hRR 6 (by decide)
                have q7 : vs 7 = _ := hRR 7 (by decide)
                have q8 : vs 8 = _ := hRR 8 (by decide)
                have q9 : vs 9 = _ := hRR 9 (by decide)
                have q10 : vs 10 = _ := hRR 10 (by decide)
                have q11 : vs 11 = _ := hRR 11 (by decide)
                have q12 : vs 12 = _ := hRR 12 (by decide)
                have q13 : vs 13 = _ := hRR 13 (by decide)
                have q14 : vs 14 = _ := hRR 14 (by decide)
                have q15 : vs 15 = _ := hRR 15 (by decide)
                clear hRR hx
                simp only [putAll, List.take_succ_cons, List.take_zero, List.drop_succ_cons, List.drop_zero, Act.put, List.setIfInBounds_toArray, List.set_cons_zero, List.set_cons_succ, Nat.reduceAdd, Nat.zero_add]
                simp only [q0, q1, q2, q3, q4, q5, q6, q7, q8, q9, q10, q11, q12, q13, q14, q15]
                clear q0 q1 q2 q3 q4 q5 q6 q7 q8 q9 q10 q11 q12 q13 q14 q15 vs
              have BX8 := Go.Lib.hid (BX.out.extN x6.ext)
              have B78 := Go.Lib.hid (B76.out.extN x6.ext)
              have XZ := Go.Lib.hid (by (repeat (first | with_reducible (first | exact Ext.refl _ _ | assumption | refine Ext.upN ?_ | refine Ext.alloc ?_ _ | refine Ext.drew ?_ | refine Ext.drewN ?_ _ | refine Ext.up1N (by first | omega | simp) ?_) | refine Ext.alloc ?_ _ | refine Ext.setCell ?_ (.inr (by first | omega | simp)) _)) : Ext Non w x6.on)
              clear p0 p1 p2 p3 p4 p5
              go_upto_region 12 with fail
              generalize x6.on = w8 at *
              have z0 : w8.cell? ⟨kx, 0, none⟩ = some (.int .i64 cd) := BX8.out.cell rfl
              have z1 : w8.cell? ⟨kx, 1, none⟩ = some (.float .f64 rl) := BX8.out.cell rfl
              have b0 : w8.cell? ⟨w.heap.size + 2, 0, none⟩ = some (.int .i64 0) := B78.out.cell rfl
              have b1 : w8.cell? ⟨w.heap.size + 2, 1, none⟩ = some (.float .f64 0) := B78.out.cell rfl
              have f0 : w8.frozen? ⟨w.heap.size + 2, 0, none⟩ = false := froz_of_heap B78.out.h
              have f1 : w8.frozen? ⟨w.heap.size + 2, 1, none⟩ = false := froz_of_heap B78.out.h
              have hi63 : IntKind.i64.wrap ((i : Int) + 1) = (i : Int) + 1 := IntWalk.i64_in _ (by omega)
              go_region
              all_goals
                go_wp2
                have B2 := ((B78.out.set (j := 0) (.int .i64 cd)).set (j := 1) (.float .f64 rl)).drew
                have r0 : (((w8.setCell ⟨w.heap.size + 2, 0, none⟩ (.int .i64 cd)).setCell ⟨w.heap.size + 2, 1, none⟩ (.float .f64 rl)).drew).cell? ⟨w.heap.size + 2, 0, none⟩ = some (.int .i64 cd) := B2.cell rfl
                have r1 : (((w8.setCell ⟨w.heap.size + 2, 0, none⟩ (.int .i64 cd)).setCell ⟨w.heap.size + 2, 1, none⟩ (.float .f64 rl)).drew).cell? ⟨w.heap.size + 2, 1, none⟩ = some (.float .f64 rl) := B2.cell rfl
                have XF : Ext Non w ((w8.setCell ⟨w.heap.size + 2, 0, none⟩ (.int .i64 cd)).setCell ⟨w.heap.size + 2, 1, none⟩ (.float .f64 rl)).drew := ((XZ.out.setCell (.inr (by show w.heap.size ≤ w.heap.size + 2; omega)) _).setCell (.inr (by show w.heap.size ≤ w.heap.size + 2; omega)) _).drew
                generalize ((w8.setCell ⟨w.heap.size + 2, 0, none⟩ (.int .i64 cd)).setCell ⟨w.heap.size + 2, 1, none⟩ (.float .f64 rl)).drew = w9 at *
                refine bodyPost_ret (v := .tuple #[.int .i64 ((i : Int) + 1), .agg #[.int .i64 cd, .float .f64 rl], .bool true]) (by simp [results, Tryz.results14, go_sem, r0, r1]) rfl ?_
                exact ⟨by rw [HFIN.out]; show _ = Ending.returned (Value.tuple #[.int .i64 ((i : Int) + 1), .agg #[.int .i64 (sp.getD i zeroSp).code, .float .f64 (sp.getD i zeroSp).real], .bool true]); rw [HCR.out.1, HCR.out.2], XF⟩
            · have HFIN := Go.Lib.hid (HHF.out (by rw [HHI.out, hsm, HLS.out, HLS2.out, decide_eq_false hlt3]; rfl))
              have dd : decide (was < qs) = false := decide_eq_false hlt3
              clear hsm hlt3
              apply wp_region_rel (relR [Mo.is _, Mo.is _, Mo.is _, Mo.is _, Mo.is _, Mo.is _, Mo.is _, Mo.is _, Mo.is _, Mo.is _, Mo.is _, Mo.is _, Mo.is _, Mo.is _, Mo.is _, Mo.is _]) (by kernel_rfl) (by kernel_rfl) (by kernel_rfl) (relR_mono _) (StepD.all ?st10) ?q10
              case st10 =>
                refine ⟨?_, ?_, ?_, ?_, ?_, ?_, ?_, ?_, ?_, ?_, ?_, ?_, ?_, ?_, ?_, ?_, trivial⟩
                · intro a' w' hx hs hd
                  obtain ⟨y, rfl⟩ := hx.ew
                  have e5 : a'.tmps[5]?.getD undef = _ := hs 5 rfl
                  simp only [List.getElem?_toArray, List.getElem?_cons_succ, List.getElem?_cons_zero, Option.getD_some, Array.getElem?_eq_some_iff] at e5
                  refine .inl ⟨rfl, ?_⟩
                  clear hs hd hx
                  go_simp
                  exact ⟨Ext.refl _ _, rfl⟩
                · intro a' w' hx hs hd
                  obtain ⟨y, rfl⟩ := hx.ew
                  have e49 : a'.tmps[49]?.getD undef = _ := hd 0 49 rfl rfl
                  refine .inl ⟨rfl, ?_⟩
                  clear hs hd hx
                  go_simp
                  exact (ref_Right qc qs qk qkey qx qid _).mono (fun e w'' ⟨he, hx⟩ => ⟨_, he, hx, by rw [HRQ.out]; rfl⟩)
                · intro a' w' hx hs hd
                  obtain ⟨y, rfl⟩ := hx.ew
                  have e50 : a'.tmps[50]?.getD undef = _ := hd 1 50 rfl rfl
                  refine .inl ⟨rfl, ?_⟩
                  clear hs hd hx
                  go_simp
                  exact ⟨Ext.refl _ _, rfl⟩
                · intro a' w' hx hs hd
                  obtain ⟨y, rfl⟩ := hx.ew
                  have eg : a'.tmps[51]?.getD undef = _ := hd 2 51 rfl rfl
                  first
                  | (refine .inr ⟨unwanted_of (j := 2) (d := 51) rfl rfl eg (by rfl), ?_⟩; exact (rfl : (Mo.is undef).p undef y.on))
                  | (refine .inr ⟨unwanted_und (j := 2) (d := 51) rfl rfl eg, ?_⟩; exact (rfl : (Mo.is undef).p undef y.on))
                  | (have e1 : a'.tmps[1]?.getD undef = _ := hs 1 rfl; simp only [List.getElem?_toArray, List.getElem?_cons_succ, List.getElem?_cons_zero, Option.getD_some, Array.getElem?_eq_some_iff] at e1; refine .inl ⟨wanted_of (j := 2) (d := 51) rfl rfl eg, ?_⟩; clear hs hd hx eg; go_simp; exact ⟨Ext.refl _ _, rfl⟩)
                · intro a' w' hx hs hd
                  obtain ⟨y, rfl⟩ := hx.ew
                  have eg : a'.tmps[51]?.getD undef = _ := hd 2 51 rfl rfl
                  first
                  | (refine .inr ⟨unwanted_of (j := 2) (d := 51) rfl rfl eg (by rfl), ?_⟩; exact (rfl : (Mo.is undef).p undef y.on))
                  | (refine .inr ⟨unwanted_und (j := 2) (d := 51) rfl rfl eg, ?_⟩; exact (rfl : (Mo.is undef).p undef y.on))
                  | (have e11 : a'.tmps[11]?.getD undef = _ := hs 11 rfl; simp only [List.getElem?_toArray, List.getElem?_cons_succ, List.getElem?_cons_zero, Option.getD_some, Array.getElem?_eq_some_iff] at e11; refine .inl ⟨wanted_of (j := 2) (d := 51) rfl rfl eg, ?_⟩; clear hs hd hx eg; go_simp; exact ⟨Ext.refl _ _, rfl⟩)
                · intro a' w' hx hs hd
                  obtain ⟨y, rfl⟩ := hx.ew
                  have eg : a'.tmps[51]?.getD undef = _ := hd 2 51 rfl rfl
                  first
                  | (refine .inr ⟨unwanted_of (j := 2) (d := 51) rfl rfl eg (by rfl), ?_⟩; exact (rfl : (Mo.is undef).p undef y.on))
                  | (refine .inr ⟨unwanted_und (j := 2) (d := 51) rfl rfl eg, ?_⟩; exact (rfl : (Mo.is undef).p undef y.on))
                  | (have e52 : a'.tmps[52]?.getD undef = _ := hd 3 52 rfl rfl; have e53 : a'.tmps[53]?.getD undef = _ := hd 4 53 rfl rfl; refine .inl ⟨wanted_of (j := 2) (d := 51) rfl rfl eg, ?_⟩; clear hs hd hx eg; go_simp; exact ⟨Ext.refl _ _, rfl⟩)
                · intro a' w' hx hs hd
                  obtain ⟨y, rfl⟩ := hx.ew
                  have eg : a'.tmps[51]?.getD undef = _ := hd 2 51 rfl rfl
                  first
                  | (refine .inr ⟨unwanted_of (j := 2) (d := 51) rfl rfl eg (by rfl), ?_⟩; exact (rfl : (Mo.is undef).p undef y.on))
                  | (refine .inr ⟨unwanted_und (j := 2) (d := 51) rfl rfl eg, ?_⟩; exact (rfl : (Mo.is undef).p undef y.on))
                  | (have e54 : a'.tmps[54]?.getD undef = _ := hd 5 54 rfl rfl; refine .inl ⟨wanted_of (j := 2) (d := 51) rfl rfl eg, ?_⟩; clear hs hd hx eg; go_simp; exact ⟨Ext.refl _ _, rfl⟩)
                · intro a' w' hx hs hd
                  obtain ⟨y, rfl⟩ := hx.ew
                  have eg : a'.tmps[51]?.getD undef = _ := hd 2 51 rfl rfl
                  first
                  | (refine .inr ⟨unwanted_of (j := 2) (d := 51) rfl rfl eg (by rfl), ?_⟩; exact (rfl : (Mo.is undef).p undef y.on))
                  | (refine .inr ⟨unwanted_und (j := 2) (d := 51) rfl rfl eg, ?_⟩; exact (rfl : (Mo.is undef).p undef y.on))
                  | (have e5 : a'.tmps[5]?.getD undef = _ := hs 5 rfl; simp only [List.getElem?_toArray, List.getElem?_cons_succ, List.getElem?_cons_zero, Option.getD_some, Array.getElem?_eq_some_iff] at e5; refine .inl ⟨wanted_of (j := 2) (d := 51) rfl rfl eg, ?_⟩; clear hs hd hx eg; go_simp; exact ⟨Ext.refl _ _, rfl⟩)
                · intro a' w' hx hs hd
                  obtain ⟨y, rfl⟩ := hx.ew
                  have eg : a'.tmps[51]?.getD undef = _ := hd 2 51 rfl rfl
                  first
                  | (refine .inr ⟨unwanted_of (j := 2) (d := 51) rfl rfl eg (by rfl), ?_⟩; exact (rfl : (Mo.is undef).p undef y.on))
                  | (refine .inr ⟨unwanted_und (j := 2) (d := 51) rfl rfl eg, ?_⟩; exact (rfl : (Mo.is undef).p undef y.on))
                  | (have e55 : a'.tmps[55]?.getD undef = _ := hd 6 55 rfl rfl; have e56 : a'.tmps[56]?.getD undef = _ := hd 7 56 rfl rfl; refine .inl ⟨wanted_of (j := 2) (d := 51) rfl rfl eg, ?_⟩; clear hs hd hx eg; go_simp; exact (ref11_Same c st k key x id qc qs qk qkey qx qid HRO2.out HRO.out _).mono (fun e w'' ⟨he, hx⟩ => ⟨_, he, hx, by rw [HSM.out]; rfl⟩))
                · intro a' w' hx hs hd
                  obtain ⟨y, rfl⟩ := hx.ew
                  have e51 : a'.tmps[51]?.getD undef = _ := hd 2 51 rfl rfl
                  have e57 : a'.tmps[57]?.getD undef = _ := hd 8 57 rfl rfl
                  refine .inl ⟨rfl, ?_⟩
                  clear hs hd hx
                  go_simp
                  exact ⟨Ext.refl _ _, rfl⟩
                · intro a' w' hx hs hd
                  obtain ⟨y, rfl⟩ := hx.ew
                  have e58 : a'.tmps[58]?.getD undef = _ := hd 9 58 rfl rfl
                  refine .inl ⟨rfl, ?_⟩
                  clear hs hd hx
                  go_simp
                  exact ⟨Ext.refl _ _, rfl⟩
                · intro a' w' hx hs hd
                  obtain ⟨y, rfl⟩ := hx.ew
                  have eg : a'.tmps[59]?.getD undef = _ := hd 10 59 rfl rfl
                  first
                  | (refine .inr ⟨unwanted_of (j := 10) (d := 59) rfl rfl eg (by rfl), ?_⟩; exact (rfl : (Mo.is undef).p undef y.on))
                  | (refine .inr ⟨unwanted_und (j := 10) (d := 59) rfl rfl eg, ?_⟩; exact (rfl : (Mo.is undef).p undef y.on))
                  | (have e12 : a'.tmps[12]?.getD undef = _ := hs 12 rfl; simp only [List.getElem?_toArray, List.getElem?_cons_succ, List.getElem?_cons_zero, Option.getD_some, Array.getElem?_eq_some_iff] at e12; refine .inl ⟨wanted_of (j := 10) (d := 59) rfl rfl eg, ?_⟩; clear hs hd hx eg; go_simp; exact ⟨Ext.refl _ _, rfl⟩)
                · intro a' w' hx hs hd
                  obtain ⟨y, rfl⟩ := hx.ew
                  have eg : a'.tmps[59]?.getD undef = _ := hd 10 59 rfl rfl
                  first
                  | (refine .inr ⟨unwanted_of (j := 10) (d := 59) rfl rfl eg (by rfl), ?_⟩; exact (rfl : (Mo.is undef).p undef y.on))
                  | (refine .inr ⟨unwanted_und (j := 10) (d := 59) rfl rfl eg, ?_⟩; exact (rfl : (Mo.is undef).p undef y.on))
                  | (have e5 : a'.tmps[5]?.getD undef = _ := hs 5 rfl; simp only [List.getElem?_toArray, List.getElem?_cons_succ, List.getElem?_cons_zero, Option.getD_some, Array.getElem?_eq_some_iff] at e5; refine .inl ⟨wanted_of (j := 10) (d := 59) rfl rfl eg, ?_⟩; clear hs hd hx eg; go_simp; exact ⟨Ext.refl _ _, rfl⟩)
                · intro a' w' hx hs hd
                  obtain ⟨y, rfl⟩ := hx.ew
                  have eg : a'.tmps[59]?.getD undef = _ := hd 10 59 rfl rfl
                  first
                  | (refine .inr ⟨unwanted_of (j := 10) (d := 59) rfl rfl eg (by rfl), ?_⟩; exact (rfl : (Mo.is undef).p undef y.on))
                  | (refine .inr ⟨unwanted_und (j := 10) (d := 59) rfl rfl eg, ?_⟩; exact (rfl : (Mo.is undef).p undef y.on))
                  | (have e61 : a'.tmps[61]?.getD undef = _ := hd 12 61 rfl rfl; refine .inl ⟨wanted_of (j := 10) (d := 59) rfl rfl eg, ?_⟩; clear hs hd hx eg; go_simp; exact ⟨Ext.refl _ _, rfl⟩)
                · intro a' w' hx hs hd
                  obtain ⟨y, rfl⟩ := hx.ew
                  have eg : a'.tmps[59]?.getD undef = _ := hd 10 59 rfl rfl
                  first
                  | (refine .inr ⟨unwanted_of (j := 10) (d := 59) rfl rfl eg (by rfl), ?_⟩; exact (rfl : (Mo.is undef).p undef y.on))
                  | (refine .inr ⟨unwanted_und (j := 10) (d := 59) rfl rfl eg, ?_⟩; exact (rfl : (Mo.is undef).p undef y.on))
                  | (have e60 : a'.tmps[60]?.getD undef = _ := hd 11 60 rfl rfl; have e62 : a'.tmps[62]?.getD undef = _ := hd 13 62 rfl rfl; refine .inl ⟨wanted_of (j := 10) (d := 59) rfl rfl eg, ?_⟩; clear hs hd hx eg; go_simp; exact ⟨Ext.refl _ _, rfl⟩)
                · intro a' w' hx hs hd
                  obtain ⟨y, rfl⟩ := hx.ew
                  have e59 : a'.tmps[59]?.getD undef = _ := hd 10 59 rfl rfl
                  have e63 : a'.tmps[63]?.getD undef = _ := hd 14 63 rfl rfl
                  refine .inl ⟨rfl, ?_⟩
                  clear hs hd hx
                  go_simp
                  exact ⟨Ext.refl _ _, rfl⟩
              case' q10 =>
                intro vs w' hx hRR
                obtain ⟨x6, rfl⟩ := hx.ew
                have q0 : vs 0 = _ := hRR 0 (by decide)
                have q1 : vs 1 = _ := hRR 1 (by decide)
                have q2 : vs 2 = _ := hRR 2 (by decide)
                have q3 : vs 3 = _ := hRR 3 (by decide)
                have q4 : vs 4 = _ := hRR 4 (by decide)
                have q5 : vs 5 = _ := hRR 5 (by decide)
                have q6 : vs 6 = _ := hRR 6 (by decide)
                have q7 : vs 7 = _ := hRR 7 (by decide)
                have q8 : vs 8 = _ := hRR 8 (by decide)
                have q9 : vs 9 = _ := hRR 9 (by decide)
                have q10 : vs 10 = _ := hRR 10 (by decide)
                have q11 : vs 11 = _ := hRR 11 (by decide)
                have q12 : vs 12 = _ := hRR 12 (by decide)
                have q13 : vs 13 = _ := hRR 13 (by decide)
                have q14 : vs 14 = _ := hRR 14 (by decide)
                have q15 : vs 15 = _ := hRR 15 (by decide)
                clear hRR hx
                simp only [putAll, List.take_succ_cons, List.take_zero, List.drop_succ_cons, List.drop_zero, Act.put, List.setIfInBounds_toArray, List.set_cons_zero, List.set_cons_succ, Nat.reduceAdd, Nat.zero_add]
                simp only [q0, q1, q2, q3, q4, q5, q6, q7, q8, q9, q10, q11, q12, q13, q14, q15]
                clear q0 q1 q2 q3 q4 q5 q6 q7 q8 q9 q10 q11 q12 q13 q14 q15 vs
              go_wp2_with fail
              go_roundg (l.length - (i + 1))
              case measure => have := HN.out; omega
              case rel => exact ⟨i + 1, ⟨_, by (repeat (first | with_reducible (first | exact Ext.refl _ _ | assumption | refine Ext.upN ?_ | refine Ext.alloc ?_ _ | refine Ext.drew ?_ | refine Ext.drewN ?_ _ | refine Ext.up1N (by first | omega | simp) ?_) | refine Ext.alloc ?_ _ | refine Ext.setCell ?_ (.inr (by first | omega | simp)) _))⟩, hlt, rfl, by go_num, rfl, HFIN, Go.Lib.hid (HL6.out.extN x6.ext), Go.Lib.hid (BQ6.out.extN x6.ext), Go.Lib.hid (B76.out.extN x6.ext)⟩
    · have HF : Hid (outI ⟨qc, qs, ⟨qk, qkey, qx, qid⟩⟩ sp = none) := Go.Lib.hid (by rw [HD.out, List.drop_eq_nil_of_le (by have := HSL.out; omega)]; rfl)
      have XZ : Ext Non w z.on := z.ext
      generalize z.on = w5 at *
      have b0 : w5.cell? ⟨w.heap.size + 2, 0, none⟩ = some (.int .i64 0) := B7.out.cell rfl
      have b1 : w5.cell? ⟨w.heap.size + 2, 1, none⟩ = some (.float .f64 0) := B7.out.cell rfl
      have f0 : w5.frozen? ⟨w.heap.size + 2, 0, none⟩ = false := froz_of_heap B7.out.h
      have f1 : w5.frozen? ⟨w.heap.size + 2, 1, none⟩ = false := froz_of_heap B7.out.h
      go_wp2
      obtain ⟨E1, r0, r1, E2⟩ := two_end (v0 := .int .i64 0) (v1 := .float .f64 0) B7.out (by omega : w.heap.size ≤ w.heap.size + 2) XZ
      generalize (w5.setCell ⟨w.heap.size + 2, 0, none⟩ (.int .i64 0)).setCell ⟨w.heap.size + 2, 1, none⟩ (.float .f64 0) = w6 at *
      refine bodyPost_ret (v := .tuple #[.int .i64 0, .agg #[.int .i64 0, .float .f64 0], .bool false]) (by simp [results, Tryz.results14, go_sem, r0, r1]) rfl ?_
      exact ⟨by rw [HF.out]; rfl, E1⟩
end Go.Proofs.YtekbonciafbjiaaGreat
