/- The law ChangeUnlike: the walk. -/
import Derived.Test.YtakbkpklfihfiaaLaws16
import Derived.Test.YtakbkpklfihfiaaUnlikeP
namespace Go.Proofs.Ytakbkpklfihfiaa
open Go.RowKit Go.Lib F64
set_option linter.unusedSimpArgs false
set_option linter.unusedVariables false
attribute [local go_sem] run_store_float
attribute [local go_sem low] EW.cellN EW.frozN alloc_cell_or alloc_froz_or EW.cellF EW.frozF EW.cell1 EW.froz1
attribute [local go_sem] relAt relUpon
theorem certsEq_drop (l m : List Ct) (i : Nat) (h : i < l.length) (h' : i < m.length) : certsEq (l.drop i) (m.drop i) = (certEq (ctAt l i) (ctAt m i) && certsEq (l.drop (i + 1)) (m.drop (i + 1))) := by
  rw [List.drop_eq_getElem_cons h, List.drop_eq_getElem_cons h', ctAt_get h, ctAt_get h']; rfl
theorem sigsEq_drop (l m : List Sg) (i : Nat) (h : i < l.length) (h' : i < m.length) : sigsEq (l.drop i) (m.drop i) = (sgEq (sgAt l i) (sgAt m i) && sigsEq (l.drop (i + 1)) (m.drop (i + 1))) := by
  rw [List.drop_eq_getElem_cons h, List.drop_eq_getElem_cons h', sgAt_get h, sgAt_get h']; rfl
theorem sigsEq_len : ∀ (l m : List Sg), l.length ≠ m.length → sigsEq l m = false
  | [], [], h => absurd rfl h
  | [], _ :: _, _ => rfl
  | _ :: _, [], _ => rfl
  | x :: xs, y :: ys, h => by unfold sigsEq; rw [sigsEq_len xs ys (by simpa using h)]; simp
theorem certsEq_len : ∀ (l m : List Ct), l.length ≠ m.length → certsEq l m = false
  | [], [], h => absurd rfl h
  | [], _ :: _, _ => rfl
  | _ :: _, [], _ => rfl
  | x :: xs, y :: ys, h => by unfold certsEq; rw [certsEq_len xs ys (by simpa using h)]; simp
theorem Ext.recd {S : Nat → Prop} {a W : World} {n : Nat} (h : Ext S a W) : Ext S a ⟨W.heap, W.tape, n, W.os, W.output⟩ := ⟨h.os, h.tape, h.output, h.size, h.block⟩
theorem Bx.drew {w : World} {k : Nat} {vs : List Value} {t : TypeId} (h : Bx w k vs t) : Bx w.drew k vs t := ⟨h.h⟩
/-- What the walk compares first. -/
def topEq (e1 : Int) (f1 v1 : Int) (n1 : Nat) (e2 : Int) (f2 v2 : Int) (n2 : Nat) : Bool := (e1 == e2) && (f1 == f2) && (v1 == v2) && ((n1 : Int) == (n2 : Int))
def headEq (v1 s1 : Int) (r1 : Req) (n1 : Nat) (v2 s2 : Int) (r2 : Req) (n2 : Nat) : Bool := (v1 == v2) && (s1 == s2) && wholeB r1 r2 && ((n1 : Int) == (n2 : Int))
theorem topEq_len {e1 f1 v1 e2 f2 v2 : Int} {n1 n2 : Nat} (h : topEq e1 f1 v1 n1 e2 f2 v2 n2 = true) : n1 = n2 := by
  unfold topEq at h
  simp only [Bool.and_eq_true, beq_iff_eq] at h
  omega
theorem headEq_len {v1 s1 v2 s2 : Int} {r1 r2 : Req} {n1 n2 : Nat} (h : headEq v1 s1 r1 n1 v2 s2 r2 n2 = true) : n1 = n2 := by
  unfold headEq at h
  simp only [Bool.and_eq_true, beq_iff_eq] at h
  omega
theorem chEq_top (e1 f1 v1 : Int) (l1 : List Ct) (b1 : Int) (t1 : ByteArray) (e2 f2 v2 : Int) (l2 : List Ct) (b2 : Int) (t2 : ByteArray) :
    chEq e1 ⟨f1, v1, l1, b1, t1⟩ e2 ⟨f2, v2, l2, b2, t2⟩ = (topEq e1 f1 v1 l1.length e2 f2 v2 l2.length && certsEq l1 l2) := by
  unfold chEq topEq
  congr 2
  rw [Bool.eq_iff_iff]; simp; omega
theorem certEq_head (v1 s1 : Int) (r1 : Req) (l1 : List Sg) (v2 s2 : Int) (r2 : Req) (l2 : List Sg) : certEq ⟨v1, s1, r1, l1⟩ ⟨v2, s2, r2, l2⟩ = (headEq v1 s1 r1 l1.length v2 s2 r2 l2.length && sigsEq l1 l2) := by
  unfold certEq headEq
  by_cases h : l1.length = l2.length
  · simp [h]
  · rw [sigsEq_len _ _ h]; simp
theorem certs_asks (ep : Int) : ∀ (l : List Ct) (last : Int), certsB ep last l = true → ∀ x ∈ l, askedB x.req = true
  | [], _, _, x, hx => (List.not_mem_nil hx).elim
  | y :: t, last, h, x, hx => by
    simp only [certsB, Bool.and_eq_true] at h
    rcases List.mem_cons.1 hx with rfl | hx
    · have := h.1
      simp only [fitsB, Bool.and_eq_true] at this
      exact this.2
    · exact certs_asks ep t _ h.2 x hx
theorem certs_reals {w : World} {a : Option Addr} {cap : Nat} {l : List Ct} (h : Certs w a cap l) : ∀ x ∈ l, x.req.op.real < 18446744073709551616 := fun x hx => by
  obtain ⟨j, hj, rfl⟩ := List.getElem_of_mem hx
  obtain ⟨_, _, _, _, _, _, _, _, hro, _⟩ := h.at_ j hj
  rw [ctAt_get hj] at hro
  exact hro.x
/-- The law in plain words. -/
theorem unlike_law {e1 e2 : Int} {a b : Ch} (h1 : chE e1 a = 0) (h2 : chE e2 b = 0) (ra : ∀ x ∈ a.certs, x.req.op.real < 18446744073709551616) (rb : ∀ x ∈ b.certs, x.req.op.real < 18446744073709551616) :
    ((chS e1 a).toList == (chS e2 b).toList) = chEq e1 a e2 b := by
  have part : ∀ (e : Int) (c : Ch), chE e c = 0 → mayB e c = true ∧ (chW e c).err = 0 := fun e c h => by
    unfold chE at h
    by_cases hm : mayB e c = true
    · rw [if_pos hm] at h
      by_cases hw : (chW e c).err = 0
      · exact ⟨hm, hw⟩
      · rw [if_neg hw] at h; omega
    · rw [if_neg hm] at h; omega
  obtain ⟨m1, w1⟩ := part e1 a h1
  obtain ⟨m2, w2⟩ := part e2 b h2
  obtain ⟨i1, b1⟩ := chW_zero w1
  obtain ⟨i2, b2⟩ := chW_zero w2
  have asks : ∀ (e : Int) (c : Ch), mayB e c = true → (∀ x ∈ c.certs, x.req.op.real < 18446744073709551616) → ∀ x ∈ c.certs, Asks x := fun e c hm hr x hx => by
    unfold mayB at hm
    rw [Bool.and_eq_true] at hm
    exact ⟨certs_asks e c.certs 0 hm.2 x hx, hr x hx⟩
  have key := chBy_iff i1 i2 (asks e1 a m1 ra) (asks e2 b m2 rb)
  unfold chS
  rw [if_pos m1, if_pos m2]
  unfold doneS
  rw [if_pos w1, if_pos w2, toList_data, toList_data, b1, b2]
  rw [Bool.eq_iff_iff, beq_iff_eq]
  exact key
set_option maxHeartbeats 4000000 in
set_option maxRecDepth 100000 in
theorem walk_ChangeUnlike (e1 e2 : Int) (f1 v1 y1 : Int) (t1 : ByteArray) (a1 : Option Addr) (c1 : Nat) (l1 : List Ct) (f2 v2 y2 : Int) (t2 : ByteArray) (a2 : Option Addr) (c2 : Nat) (l2 : List Ct)
    (hi : I64 e1 ∧ I64 f1 ∧ I64 v1 ∧ I64 e2 ∧ I64 f2 ∧ I64 v2) (w : World) (h1 : Certs w a1 c1 l1) (h2 : Certs w a2 c2 l2) :
    Calls Try.prog 6 #[.agg #[.int .i64 e1, .int .i64 e2, .int .i64 f1, .int .i64 v1, .slice a1 l1.length c1, .int .i64 y1, .string t1, .int .i64 f2, .int .i64 v2, .slice a2 l2.length c2, .int .i64 y2, .string t2]] w fun e w' => e = .returned (.bool true) ∧ Ext Non w w' := by
  have H1 := Go.Lib.hid h1; have H2 := Go.Lib.hid h2; have HI := Go.Lib.hid hi
  have s1 := h1.small; have q1 := h1.le; have s2 := h2.small; have q2 := h2.le
  have UL : Hid (chE e1 ⟨f1, v1, l1, y1, t1⟩ = 0 → chE e2 ⟨f2, v2, l2, y2, t2⟩ = 0 → ((chS e1 ⟨f1, v1, l1, y1, t1⟩).toList == (chS e2 ⟨f2, v2, l2, y2, t2⟩).toList) = (topEq e1 f1 v1 l1.length e2 f2 v2 l2.length && certsEq l1 l2)) := Go.Lib.hid (fun k1 k2 => by
    rw [unlike_law k1 k2 (certs_reals h1) (certs_reals h2)]; exact chEq_top _ _ _ _ _ _ _ _ _ _ _ _)
  clear h1 h2 hi
  go_enter Try.func6, Try.ntmps6
  go_wp2_with fail
  refine Calls.ew (law16_lives _) ?_
  rintro e x1 rfl
  go_upto_region 3 with fail
  go_cut [3, 4, 5, 6] (fun v3 v4 v5 v6 wx => ∃ (k5 k6 : Nat) (z : EW Non x1.on), v3 = .int .i64 e1 ∧ v4 = .int .i64 e2 ∧ v5 = .pointer (some ⟨k5, 0, none⟩) ∧ v6 = .pointer (some ⟨k6, 0, none⟩) ∧ wx = z.on ∧ Hid (Bx wx k5 [.int .i64 f1, .int .i64 v1, .slice a1 l1.length c1, .int .i64 y1, .string t1] 26) ∧ Hid (Bx wx k6 [.int .i64 f2, .int .i64 v2, .slice a2 l2.length c2, .int .i64 y2, .string t2] 26))
  case first =>
    go_region
    all_goals go_wp2_with fail
    all_goals go_meet
    all_goals exact ⟨_, _, ⟨_, Ext.recd (by (repeat (first | with_reducible exact Ext.refl _ _ | assumption | with_reducible refine Ext.upN ?_ | with_reducible refine Ext.alloc ?_ _ | with_reducible refine Ext.upA (by assumption) ?_ | with_reducible refine Ext.upW ?_ | with_reducible refine Ext.drew ?_ | with_reducible refine Ext.drewN ?_ _ | with_reducible refine Ext.upF ?_ | with_reducible refine Ext.upFF (by first | omega | simp) ?_ | with_reducible refine Ext.setCellsF _ _ _ (by first | omega | simp) ?_ | with_reducible refine Ext.setCellF _ _ _ (by first | omega | simp) ?_ | with_reducible refine Ext.upFN (by first | omega | simp) ?_ | with_reducible refine Ext.up1F (by first | omega | simp) ?_ | with_reducible refine Ext.up1N (by first | omega | simp) ?_ | with_reducible refine Ext.setCell ?_ (.inr (by first | omega | simp)) _ | refine Ext.alloc ?_ _ | refine Ext.setCellF _ _ _ (by first | omega | simp) ?_ | refine Ext.setCell ?_ (.inr (by first | omega | simp)) _)))⟩, rfl, rfl, rfl, rfl, rfl, by first | exact Go.Lib.hid (Bx.drew ((Bx.new _ _ _).alloc _)) | exact Go.Lib.hid (Bx.drew (Bx.newAt _ _ _ _ (by simp))), by first | exact Go.Lib.hid (Bx.drew ((Bx.new _ _ _).alloc _)) | exact Go.Lib.hid (Bx.drew (Bx.newAt _ _ _ _ (by simp)))⟩
  obtain ⟨k5, k6, z0, rfl, rfl, rfl, rfl, rfl, B5, B6⟩ := hcut
  have d50 : z0.on.cell? ⟨k5, 0, none⟩ = some (.int .i64 f1) := B5.out.cell rfl
  have d51 : z0.on.cell? ⟨k5, 1, none⟩ = some (.int .i64 v1) := B5.out.cell rfl
  have d52 : z0.on.cell? ⟨k5, 2, none⟩ = some (.slice a1 l1.length c1) := B5.out.cell rfl
  have d53 : z0.on.cell? ⟨k5, 3, none⟩ = some (.int .i64 y1) := B5.out.cell rfl
  have d54 : z0.on.cell? ⟨k5, 4, none⟩ = some (.string t1) := B5.out.cell rfl
  have d60 : z0.on.cell? ⟨k6, 0, none⟩ = some (.int .i64 f2) := B6.out.cell rfl
  have d61 : z0.on.cell? ⟨k6, 1, none⟩ = some (.int .i64 v2) := B6.out.cell rfl
  have d62 : z0.on.cell? ⟨k6, 2, none⟩ = some (.slice a2 l2.length c2) := B6.out.cell rfl
  have d63 : z0.on.cell? ⟨k6, 3, none⟩ = some (.int .i64 y2) := B6.out.cell rfl
  have d64 : z0.on.cell? ⟨k6, 4, none⟩ = some (.string t2) := B6.out.cell rfl
  clear B5 B6
  go_wp2_with fail
  refine Calls.ew (change_Text e1 f1 v1 y1 t1 a1 c1 l1 HI.out.1 HI.out.2.1 HI.out.2.2.1 _ (H1.out.extN (by (repeat (first | with_reducible exact Ext.refl _ _ | assumption | with_reducible refine Ext.upN ?_ | with_reducible refine Ext.alloc ?_ _ | with_reducible refine Ext.upA (by assumption) ?_ | with_reducible refine Ext.upW ?_ | with_reducible refine Ext.drew ?_ | with_reducible refine Ext.drewN ?_ _ | with_reducible refine Ext.upF ?_ | with_reducible refine Ext.upFF (by first | omega | simp) ?_ | with_reducible refine Ext.setCellsF _ _ _ (by first | omega | simp) ?_ | with_reducible refine Ext.setCellF _ _ _ (by first | omega | simp) ?_ | with_reducible refine Ext.upFN (by first | omega | simp) ?_ | with_reducible refine Ext.up1F (by first | omega | simp) ?_ | with_reducible refine Ext.up1N (by first | omega | simp) ?_ | with_reducible refine Ext.setCell ?_ (.inr (by first | omega | simp)) _ | refine Ext.alloc ?_ _ | refine Ext.setCellF _ _ _ (by first | omega | simp) ?_ | refine Ext.setCell ?_ (.inr (by first | omega | simp)) _))))) ?_
  rintro e x2 rfl
  go_wp2_with fail
  refine Calls.ew (change_Text e2 f2 v2 y2 t2 a2 c2 l2 HI.out.2.2.2.1 HI.out.2.2.2.2.1 HI.out.2.2.2.2.2 _ (H2.out.extN (by (repeat (first | with_reducible exact Ext.refl _ _ | assumption | with_reducible refine Ext.upN ?_ | with_reducible refine Ext.alloc ?_ _ | with_reducible refine Ext.upA (by assumption) ?_ | with_reducible refine Ext.upW ?_ | with_reducible refine Ext.drew ?_ | with_reducible refine Ext.drewN ?_ _ | with_reducible refine Ext.upF ?_ | with_reducible refine Ext.upFF (by first | omega | simp) ?_ | with_reducible refine Ext.setCellsF _ _ _ (by first | omega | simp) ?_ | with_reducible refine Ext.setCellF _ _ _ (by first | omega | simp) ?_ | with_reducible refine Ext.upFN (by first | omega | simp) ?_ | with_reducible refine Ext.up1F (by first | omega | simp) ?_ | with_reducible refine Ext.up1N (by first | omega | simp) ?_ | with_reducible refine Ext.setCell ?_ (.inr (by first | omega | simp)) _ | refine Ext.alloc ?_ _ | refine Ext.setCellF _ _ _ (by first | omega | simp) ?_ | refine Ext.setCell ?_ (.inr (by first | omega | simp)) _))))) ?_
  rintro e x3 rfl
  generalize chS e1 ⟨f1, v1, l1, y1, t1⟩ = ts1 at *
  generalize chS e2 ⟨f2, v2, l2, y2, t2⟩ = ts2 at *
  generalize chE e1 ⟨f1, v1, l1, y1, t1⟩ = te1 at *
  generalize chE e2 ⟨f2, v2, l2, y2, t2⟩ = te2 at *
  by_cases h0 : te1 = 0
  · by_cases h1 : te2 = 0
    · subst h0; subst h1
      have UL' := Go.Lib.hid (UL.out rfl rfl)
      clear UL
      have TE : Hid (topEq e1 f1 v1 l1.length e2 f2 v2 l2.length = ((e1 == e2) && (f1 == f2) && (v1 == v2) && ((l1.length : Int) == (l2.length : Int)))) := Go.Lib.hid rfl
      have TL := Go.Lib.hid (fun h => topEq_len (e1 := e1) (f1 := f1) (v1 := v1) (n1 := l1.length) (e2 := e2) (f2 := f2) (v2 := v2) (n2 := l2.length) h)
      generalize topEq e1 f1 v1 l1.length e2 f2 v2 l2.length = tq at *
      go_upto_region 8 with fail
      go_cut [11] (fun s11 wx => s11 = .bool tq ∧ wx = x3.on)
      case first =>
        cases hb0 : (e1 == e2)
        · have G := Go.Lib.hid hb0
          go_wp2_with fail
          go_meet
          exact ⟨by rw [TE.out, G.out]; simp, rfl⟩
        · have G := Go.Lib.hid hb0
          cases hb1 : (f1 == f2)
          · have G1 := Go.Lib.hid hb1
            go_wp2_with fail
            go_meet
            exact ⟨by rw [TE.out, G.out, G1.out]; simp, rfl⟩
          · have G1 := Go.Lib.hid hb1
            cases hb2 : (v1 == v2)
            · have G2 := Go.Lib.hid hb2
              go_wp2_with fail
              go_meet
              exact ⟨by rw [TE.out, G.out, G1.out, G2.out]; simp, rfl⟩
            · have G2 := Go.Lib.hid hb2
              cases hb3 : ((l1.length : Int) == (l2.length : Int))
              all_goals
                have G3 := Go.Lib.hid hb3
                go_wp2_with fail
                go_meet
                exact ⟨by rw [TE.out, G.out, G1.out, G2.out, G3.out]; rfl, rfl⟩
      obtain ⟨rfl, rfl⟩ := hcut
      clear TE
      have ST : Hid ((tq && certsEq l1 l2) = (tq && certsEq (l1.drop 0) (l2.drop 0))) := Go.Lib.hid rfl
      have TL0 : Hid (tq = true → l1.length = l2.length) := Go.Lib.hid TL.out
      generalize hpp : (tq && certsEq l1 l2) = pp at *
      clear hpp
      go_wp2_with fail
      go_loopg [11, 12] (l1.length) (fun g sv iv wr => ∃ (sm : Bool) (i : Nat) (z : EW Non x3.on), i ≤ l1.length ∧ g = l1.length - i ∧ sv = .bool sm ∧ iv = .int .i64 i ∧ wr = z.on ∧ Hid (sm = true → l1.length = l2.length) ∧ Hid (pp = (sm && certsEq (l1.drop i) (l2.drop i))))
      case atStart => exact ⟨tq, 0, ⟨_, by (repeat (first | with_reducible exact Ext.refl _ _ | assumption | with_reducible refine Ext.upN ?_ | with_reducible refine Ext.alloc ?_ _ | with_reducible refine Ext.upA (by assumption) ?_ | with_reducible refine Ext.upW ?_ | with_reducible refine Ext.drew ?_ | with_reducible refine Ext.drewN ?_ _ | with_reducible refine Ext.upF ?_ | with_reducible refine Ext.upFF (by first | omega | simp) ?_ | with_reducible refine Ext.setCellsF _ _ _ (by first | omega | simp) ?_ | with_reducible refine Ext.setCellF _ _ _ (by first | omega | simp) ?_ | with_reducible refine Ext.upFN (by first | omega | simp) ?_ | with_reducible refine Ext.up1F (by first | omega | simp) ?_ | with_reducible refine Ext.up1N (by first | omega | simp) ?_ | with_reducible refine Ext.setCell ?_ (.inr (by first | omega | simp)) _ | refine Ext.alloc ?_ _ | refine Ext.setCellF _ _ _ (by first | omega | simp) ?_ | refine Ext.setCell ?_ (.inr (by first | omega | simp)) _))⟩, Nat.zero_le _, rfl, rfl, rfl, rfl, TL0, ST⟩
      case round =>
        clear ST TL0 TL
        obtain ⟨sm, i, z, hi, hg, rfl, rfl, rfl, HLn, HC⟩ := hrel
        have HG := Go.Lib.hid hg; clear hg
        cases sm
        · as_aux_lemma =>
          have HC' : Hid (pp = false) := Go.Lib.hid (by rw [HC.out]; rfl)
          have bt : (ts1.toList == ts2.toList) = false := by rw [UL'.out, HC'.out]
          go_wp2
          go_ret
          exact ⟨rfl, by (repeat (first | with_reducible exact Ext.refl _ _ | assumption | with_reducible refine Ext.upN ?_ | with_reducible refine Ext.alloc ?_ _ | with_reducible refine Ext.upA (by assumption) ?_ | with_reducible refine Ext.upW ?_ | with_reducible refine Ext.drew ?_ | with_reducible refine Ext.drewN ?_ _ | with_reducible refine Ext.upF ?_ | with_reducible refine Ext.upFF (by first | omega | simp) ?_ | with_reducible refine Ext.setCellsF _ _ _ (by first | omega | simp) ?_ | with_reducible refine Ext.setCellF _ _ _ (by first | omega | simp) ?_ | with_reducible refine Ext.upFN (by first | omega | simp) ?_ | with_reducible refine Ext.up1F (by first | omega | simp) ?_ | with_reducible refine Ext.up1N (by first | omega | simp) ?_ | with_reducible refine Ext.setCell ?_ (.inr (by first | omega | simp)) _ | refine Ext.alloc ?_ _ | refine Ext.setCellF _ _ _ (by first | omega | simp) ?_ | refine Ext.setCell ?_ (.inr (by first | omega | simp)) _))⟩
        · have HL := Go.Lib.hid (HLn.out rfl)
          by_cases hlt : i < l1.length
          · have hlt2 : i < l2.length := by have := HL.out; omega
            obtain ⟨cb1, co1, sa1, scap1, rfl, hcb1, hcells1, hsg1, -⟩ := H1.out.at_ i hlt
            obtain ⟨cb2, co2, sa2, scap2, rfl, hcb2, hcells2, hsg2, -⟩ := H2.out.at_ i hlt2
            have HD := Go.Lib.hid (certsEq_drop l1 l2 i hlt hlt2)
            generalize ctAt l1 i = ct1 at *
            generalize ctAt l2 i = ct2 at *
            obtain ⟨cv1, cs1, ⟨rc1, rs1, ⟨rk1, rkey1, rx1, rid1⟩⟩, sl1⟩ := ct1
            obtain ⟨cv2, cs2, ⟨rc2, rs2, ⟨rk2, rkey2, rx2, rid2⟩⟩, sl2⟩ := ct2
            have HS1 : Hid (Sigs w sa1 scap1 sl1) := Go.Lib.hid hsg1
            have HS2 : Hid (Sigs w sa2 scap2 sl2) := Go.Lib.hid hsg2
            have u1 := hsg1.small; have u2 := hsg1.le; have u3 := hsg2.small; have u4 := hsg2.le
            have m10 : w.cell? ⟨cb1, co1 + i * 9, none⟩ = some (.int .i64 cv1) := hcells1 0 _ rfl
            have m11 : w.cell? ⟨cb1, co1 + i * 9 + 1, none⟩ = some (.int .i64 cs1) := hcells1 1 _ rfl
            have m12 : w.cell? ⟨cb1, co1 + i * 9 + 2, none⟩ = some (.int .i64 rc1) := hcells1 2 _ rfl
            have m13 : w.cell? ⟨cb1, co1 + i * 9 + 3, none⟩ = some (.int .i64 rs1) := hcells1 3 _ rfl
            have m14 : w.cell? ⟨cb1, co1 + i * 9 + 4, none⟩ = some (.int .i64 rk1) := hcells1 4 _ rfl
            have m15 : w.cell? ⟨cb1, co1 + i * 9 + 5, none⟩ = some (.string rkey1) := hcells1 5 _ rfl
            have m16 : w.cell? ⟨cb1, co1 + i * 9 + 6, none⟩ = some (.float .f64 rx1) := hcells1 6 _ rfl
            have m17 : w.cell? ⟨cb1, co1 + i * 9 + 7, none⟩ = some (.int .i64 rid1) := hcells1 7 _ rfl
            have m18 : w.cell? ⟨cb1, co1 + i * 9 + 8, none⟩ = some (.slice sa1 sl1.length scap1) := hcells1 8 _ rfl
            have m20 : w.cell? ⟨cb2, co2 + i * 9, none⟩ = some (.int .i64 cv2) := hcells2 0 _ rfl
            have m21 : w.cell? ⟨cb2, co2 + i * 9 + 1, none⟩ = some (.int .i64 cs2) := hcells2 1 _ rfl
            have m22 : w.cell? ⟨cb2, co2 + i * 9 + 2, none⟩ = some (.int .i64 rc2) := hcells2 2 _ rfl
            have m23 : w.cell? ⟨cb2, co2 + i * 9 + 3, none⟩ = some (.int .i64 rs2) := hcells2 3 _ rfl
            have m24 : w.cell? ⟨cb2, co2 + i * 9 + 4, none⟩ = some (.int .i64 rk2) := hcells2 4 _ rfl
            have m25 : w.cell? ⟨cb2, co2 + i * 9 + 5, none⟩ = some (.string rkey2) := hcells2 5 _ rfl
            have m26 : w.cell? ⟨cb2, co2 + i * 9 + 6, none⟩ = some (.float .f64 rx2) := hcells2 6 _ rfl
            have m27 : w.cell? ⟨cb2, co2 + i * 9 + 7, none⟩ = some (.int .i64 rid2) := hcells2 7 _ rfl
            have m28 : w.cell? ⟨cb2, co2 + i * 9 + 8, none⟩ = some (.slice sa2 sl2.length scap2) := hcells2 8 _ rfl
            clear hcells1 hcells2 hsg1 hsg2
            have hl1 : sl1.length ≤ scap1 := u2
            have hl2 : sl2.length ≤ scap2 := u4
            go_upto_region 12 with fail
            go_cut [13, 14] (fun v13 v14 wx => ∃ (k13 k14 : Nat) (z2 : EW Non z.on), v13 = .pointer (some ⟨k13, 0, none⟩) ∧ v14 = .pointer (some ⟨k14, 0, none⟩) ∧ wx = z2.on ∧ Hid (Bx wx k13 [.int .i64 cv1, .int .i64 cs1, .int .i64 rc1, .int .i64 rs1, .int .i64 rk1, .string rkey1, .float .f64 rx1, .int .i64 rid1, .slice sa1 sl1.length scap1] 52) ∧ Hid (Bx wx k14 [.int .i64 cv2, .int .i64 cs2, .int .i64 rc2, .int .i64 rs2, .int .i64 rk2, .string rkey2, .float .f64 rx2, .int .i64 rid2, .slice sa2 sl2.length scap2] 52))
            case first =>
              go_region
              all_goals go_wp2_with fail
              all_goals go_meet
              all_goals exact ⟨_, _, ⟨_, Ext.recd (by (repeat (first | with_reducible exact Ext.refl _ _ | assumption | with_reducible refine Ext.upN ?_ | with_reducible refine Ext.alloc ?_ _ | with_reducible refine Ext.upA (by assumption) ?_ | with_reducible refine Ext.upW ?_ | with_reducible refine Ext.drew ?_ | with_reducible refine Ext.drewN ?_ _ | with_reducible refine Ext.upF ?_ | with_reducible refine Ext.upFF (by first | omega | simp) ?_ | with_reducible refine Ext.setCellsF _ _ _ (by first | omega | simp) ?_ | with_reducible refine Ext.setCellF _ _ _ (by first | omega | simp) ?_ | with_reducible refine Ext.upFN (by first | omega | simp) ?_ | with_reducible refine Ext.up1F (by first | omega | simp) ?_ | with_reducible refine Ext.up1N (by first | omega | simp) ?_ | with_reducible refine Ext.setCell ?_ (.inr (by first | omega | simp)) _ | refine Ext.alloc ?_ _ | refine Ext.setCellF _ _ _ (by first | omega | simp) ?_ | refine Ext.setCell ?_ (.inr (by first | omega | simp)) _)))⟩, rfl, rfl, rfl, by first | exact Go.Lib.hid (Bx.drew ((Bx.new _ _ _).alloc _)) | exact Go.Lib.hid (Bx.drew (Bx.newAt _ _ _ _ (by simp))), by first | exact Go.Lib.hid (Bx.drew ((Bx.new _ _ _).alloc _)) | exact Go.Lib.hid (Bx.drew (Bx.newAt _ _ _ _ (by simp)))⟩
            obtain ⟨k13, k14, z2, rfl, rfl, rfl, B13, B14⟩ := hcut
            have HQ : Hid (certEq ⟨cv1, cs1, ⟨rc1, rs1, ⟨rk1, rkey1, rx1, rid1⟩⟩, sl1⟩ ⟨cv2, cs2, ⟨rc2, rs2, ⟨rk2, rkey2, rx2, rid2⟩⟩, sl2⟩ = (headEq cv1 cs1 ⟨rc1, rs1, ⟨rk1, rkey1, rx1, rid1⟩⟩ sl1.length cv2 cs2 ⟨rc2, rs2, ⟨rk2, rkey2, rx2, rid2⟩⟩ sl2.length && sigsEq sl1 sl2)) := Go.Lib.hid (certEq_head _ _ _ _ _ _ _ _)
            have HE : Hid (headEq cv1 cs1 ⟨rc1, rs1, ⟨rk1, rkey1, rx1, rid1⟩⟩ sl1.length cv2 cs2 ⟨rc2, rs2, ⟨rk2, rkey2, rx2, rid2⟩⟩ sl2.length = ((cv1 == cv2) && (cs1 == cs2) && wholeB ⟨rc1, rs1, ⟨rk1, rkey1, rx1, rid1⟩⟩ ⟨rc2, rs2, ⟨rk2, rkey2, rx2, rid2⟩⟩ && ((sl1.length : Int) == (sl2.length : Int)))) := Go.Lib.hid rfl
            have HEL : Hid (headEq cv1 cs1 ⟨rc1, rs1, ⟨rk1, rkey1, rx1, rid1⟩⟩ sl1.length cv2 cs2 ⟨rc2, rs2, ⟨rk2, rkey2, rx2, rid2⟩⟩ sl2.length = true → sl1.length = sl2.length) := Go.Lib.hid (fun h => headEq_len h)
            generalize certEq ⟨cv1, cs1, ⟨rc1, rs1, ⟨rk1, rkey1, rx1, rid1⟩⟩, sl1⟩ ⟨cv2, cs2, ⟨rc2, rs2, ⟨rk2, rkey2, rx2, rid2⟩⟩, sl2⟩ = ceq at *
            generalize headEq cv1 cs1 ⟨rc1, rs1, ⟨rk1, rkey1, rx1, rid1⟩⟩ sl1.length cv2 cs2 ⟨rc2, rs2, ⟨rk2, rkey2, rx2, rid2⟩⟩ sl2.length = hq at *
            have b10 : z2.on.cell? ⟨k13, 0, none⟩ = some (.int .i64 cv1) := B13.out.cell rfl
            have b11 : z2.on.cell? ⟨k13, 1, none⟩ = some (.int .i64 cs1) := B13.out.cell rfl
            have b12 : z2.on.cell? ⟨k13, 2, none⟩ = some (.int .i64 rc1) := B13.out.cell rfl
            have b13 : z2.on.cell? ⟨k13, 3, none⟩ = some (.int .i64 rs1) := B13.out.cell rfl
            have b14 : z2.on.cell? ⟨k13, 4, none⟩ = some (.int .i64 rk1) := B13.out.cell rfl
            have b15 : z2.on.cell? ⟨k13, 5, none⟩ = some (.string rkey1) := B13.out.cell rfl
            have b16 : z2.on.cell? ⟨k13, 6, none⟩ = some (.float .f64 rx1) := B13.out.cell rfl
            have b17 : z2.on.cell? ⟨k13, 7, none⟩ = some (.int .i64 rid1) := B13.out.cell rfl
            have b18 : z2.on.cell? ⟨k13, 8, none⟩ = some (.slice sa1 sl1.length scap1) := B13.out.cell rfl
            have b20 : z2.on.cell? ⟨k14, 0, none⟩ = some (.int .i64 cv2) := B14.out.cell rfl
            have b21 : z2.on.cell? ⟨k14, 1, none⟩ = some (.int .i64 cs2) := B14.out.cell rfl
            have b22 : z2.on.cell? ⟨k14, 2, none⟩ = some (.int .i64 rc2) := B14.out.cell rfl
            have b23 : z2.on.cell? ⟨k14, 3, none⟩ = some (.int .i64 rs2) := B14.out.cell rfl
            have b24 : z2.on.cell? ⟨k14, 4, none⟩ = some (.int .i64 rk2) := B14.out.cell rfl
            have b25 : z2.on.cell? ⟨k14, 5, none⟩ = some (.string rkey2) := B14.out.cell rfl
            have b26 : z2.on.cell? ⟨k14, 6, none⟩ = some (.float .f64 rx2) := B14.out.cell rfl
            have b27 : z2.on.cell? ⟨k14, 7, none⟩ = some (.int .i64 rid2) := B14.out.cell rfl
            have b28 : z2.on.cell? ⟨k14, 8, none⟩ = some (.slice sa2 sl2.length scap2) := B14.out.cell rfl
            clear m10 m11 m12 m13 m14 m15 m16 m17 m18 m20 m21 m22 m23 m24 m25 m26 m27 m28
            go_upto_region 13 with fail
            go_cut [11] (fun s11 wx => ∃ z3 : EW Non z2.on, s11 = .bool hq ∧ wx = z3.on)
            case first =>
              cases hb0 : (cv1 == cv2)
              · have G := Go.Lib.hid hb0
                go_wp2_with fail
                go_meet
                exact ⟨⟨_, by (repeat (first | with_reducible exact Ext.refl _ _ | assumption | with_reducible refine Ext.upN ?_ | with_reducible refine Ext.alloc ?_ _ | with_reducible refine Ext.upA (by assumption) ?_ | with_reducible refine Ext.upW ?_ | with_reducible refine Ext.drew ?_ | with_reducible refine Ext.drewN ?_ _ | with_reducible refine Ext.upF ?_ | with_reducible refine Ext.upFF (by first | omega | simp) ?_ | with_reducible refine Ext.setCellsF _ _ _ (by first | omega | simp) ?_ | with_reducible refine Ext.setCellF _ _ _ (by first | omega | simp) ?_ | with_reducible refine Ext.upFN (by first | omega | simp) ?_ | with_reducible refine Ext.up1F (by first | omega | simp) ?_ | with_reducible refine Ext.up1N (by first | omega | simp) ?_ | with_reducible refine Ext.setCell ?_ (.inr (by first | omega | simp)) _ | refine Ext.alloc ?_ _ | refine Ext.setCellF _ _ _ (by first | omega | simp) ?_ | refine Ext.setCell ?_ (.inr (by first | omega | simp)) _))⟩, by rw [HE.out, G.out]; simp, rfl⟩
              · have G := Go.Lib.hid hb0
                cases hb1 : (cs1 == cs2)
                · have G1 := Go.Lib.hid hb1
                  go_wp2_with fail
                  go_meet
                  exact ⟨⟨_, by (repeat (first | with_reducible exact Ext.refl _ _ | assumption | with_reducible refine Ext.upN ?_ | with_reducible refine Ext.alloc ?_ _ | with_reducible refine Ext.upA (by assumption) ?_ | with_reducible refine Ext.upW ?_ | with_reducible refine Ext.drew ?_ | with_reducible refine Ext.drewN ?_ _ | with_reducible refine Ext.upF ?_ | with_reducible refine Ext.upFF (by first | omega | simp) ?_ | with_reducible refine Ext.setCellsF _ _ _ (by first | omega | simp) ?_ | with_reducible refine Ext.setCellF _ _ _ (by first | omega | simp) ?_ | with_reducible refine Ext.upFN (by first | omega | simp) ?_ | with_reducible refine Ext.up1F (by first | omega | simp) ?_ | with_reducible refine Ext.up1N (by first | omega | simp) ?_ | with_reducible refine Ext.setCell ?_ (.inr (by first | omega | simp)) _ | refine Ext.alloc ?_ _ | refine Ext.setCellF _ _ _ (by first | omega | simp) ?_ | refine Ext.setCell ?_ (.inr (by first | omega | simp)) _))⟩, by rw [HE.out, G.out, G1.out]; simp, rfl⟩
                · have G1 := Go.Lib.hid hb1
                  go_wp2_with fail
                  refine Calls.ew (ref_Whole rc1 rs1 rk1 rkey1 rx1 rid1 rc2 rs2 rk2 rkey2 rx2 rid2 _) ?_
                  rintro e x4 rfl
                  generalize wholeB ⟨rc1, rs1, ⟨rk1, rkey1, rx1, rid1⟩⟩ ⟨rc2, rs2, ⟨rk2, rkey2, rx2, rid2⟩⟩ = wq at *
                  cases hb2 : wq
                  · have G2 := Go.Lib.hid hb2
                    go_wp2_with fail
                    go_meet
                    exact ⟨⟨_, by (repeat (first | with_reducible exact Ext.refl _ _ | assumption | with_reducible refine Ext.upN ?_ | with_reducible refine Ext.alloc ?_ _ | with_reducible refine Ext.upA (by assumption) ?_ | with_reducible refine Ext.upW ?_ | with_reducible refine Ext.drew ?_ | with_reducible refine Ext.drewN ?_ _ | with_reducible refine Ext.upF ?_ | with_reducible refine Ext.upFF (by first | omega | simp) ?_ | with_reducible refine Ext.setCellsF _ _ _ (by first | omega | simp) ?_ | with_reducible refine Ext.setCellF _ _ _ (by first | omega | simp) ?_ | with_reducible refine Ext.upFN (by first | omega | simp) ?_ | with_reducible refine Ext.up1F (by first | omega | simp) ?_ | with_reducible refine Ext.up1N (by first | omega | simp) ?_ | with_reducible refine Ext.setCell ?_ (.inr (by first | omega | simp)) _ | refine Ext.alloc ?_ _ | refine Ext.setCellF _ _ _ (by first | omega | simp) ?_ | refine Ext.setCell ?_ (.inr (by first | omega | simp)) _))⟩, by rw [HE.out, G.out, G1.out, G2.out]; simp, rfl⟩
                  · have G2 := Go.Lib.hid hb2
                    cases hb3 : ((sl1.length : Int) == (sl2.length : Int))
                    all_goals
                      have G3 := Go.Lib.hid hb3
                      go_wp2_with fail
                      go_meet
                      exact ⟨⟨_, by (repeat (first | with_reducible exact Ext.refl _ _ | assumption | with_reducible refine Ext.upN ?_ | with_reducible refine Ext.alloc ?_ _ | with_reducible refine Ext.upA (by assumption) ?_ | with_reducible refine Ext.upW ?_ | with_reducible refine Ext.drew ?_ | with_reducible refine Ext.drewN ?_ _ | with_reducible refine Ext.upF ?_ | with_reducible refine Ext.upFF (by first | omega | simp) ?_ | with_reducible refine Ext.setCellsF _ _ _ (by first | omega | simp) ?_ | with_reducible refine Ext.setCellF _ _ _ (by first | omega | simp) ?_ | with_reducible refine Ext.upFN (by first | omega | simp) ?_ | with_reducible refine Ext.up1F (by first | omega | simp) ?_ | with_reducible refine Ext.up1N (by first | omega | simp) ?_ | with_reducible refine Ext.setCell ?_ (.inr (by first | omega | simp)) _ | refine Ext.alloc ?_ _ | refine Ext.setCellF _ _ _ (by first | omega | simp) ?_ | refine Ext.setCell ?_ (.inr (by first | omega | simp)) _))⟩, by rw [HE.out, G.out, G1.out, G2.out, G3.out]; rfl, rfl⟩
            obtain ⟨z3, rfl, rfl⟩ := hcut
            have SL : Hid (ceq = (hq && sigsEq (sl1.drop 0) (sl2.drop 0))) := Go.Lib.hid HQ.out
            clear HE HQ
            go_wp2_with fail
            go_loopg [11, 15] (sl1.length) (fun g sv kv wr => ∃ (sm : Bool) (k : Nat) (z4 : EW Non z3.on), k ≤ sl1.length ∧ g = sl1.length - k ∧ sv = .bool sm ∧ kv = .int .i64 k ∧ wr = z4.on ∧ Hid (sm = true → sl1.length = sl2.length) ∧ Hid (ceq = (sm && sigsEq (sl1.drop k) (sl2.drop k))))
            case atStart => exact ⟨hq, 0, ⟨_, by (repeat (first | with_reducible exact Ext.refl _ _ | assumption | with_reducible refine Ext.upN ?_ | with_reducible refine Ext.alloc ?_ _ | with_reducible refine Ext.upA (by assumption) ?_ | with_reducible refine Ext.upW ?_ | with_reducible refine Ext.drew ?_ | with_reducible refine Ext.drewN ?_ _ | with_reducible refine Ext.upF ?_ | with_reducible refine Ext.upFF (by first | omega | simp) ?_ | with_reducible refine Ext.setCellsF _ _ _ (by first | omega | simp) ?_ | with_reducible refine Ext.setCellF _ _ _ (by first | omega | simp) ?_ | with_reducible refine Ext.upFN (by first | omega | simp) ?_ | with_reducible refine Ext.up1F (by first | omega | simp) ?_ | with_reducible refine Ext.up1N (by first | omega | simp) ?_ | with_reducible refine Ext.setCell ?_ (.inr (by first | omega | simp)) _ | refine Ext.alloc ?_ _ | refine Ext.setCellF _ _ _ (by first | omega | simp) ?_ | refine Ext.setCell ?_ (.inr (by first | omega | simp)) _))⟩, Nat.zero_le _, rfl, rfl, rfl, rfl, HEL, SL⟩
            case round =>
              clear SL HEL
              obtain ⟨sm, k, z4, hk, hg2, rfl, rfl, rfl, HSn, HS⟩ := hrel
              have HG2 := Go.Lib.hid hg2; clear hg2
              cases sm
              · have HP : Hid (pp = (false && certsEq (l1.drop (i + 1)) (l2.drop (i + 1)))) := Go.Lib.hid (by rw [HC.out, HD.out, HS.out]; rfl)
                go_wp2_with fail
                go_roundg (l1.length - (i + 1))
                case measure => have := HG.out; omega
                case rel => exact ⟨false, i + 1, ⟨_, by (repeat (first | with_reducible exact Ext.refl _ _ | assumption | with_reducible refine Ext.upN ?_ | with_reducible refine Ext.alloc ?_ _ | with_reducible refine Ext.upA (by assumption) ?_ | with_reducible refine Ext.upW ?_ | with_reducible refine Ext.drew ?_ | with_reducible refine Ext.drewN ?_ _ | with_reducible refine Ext.upF ?_ | with_reducible refine Ext.upFF (by first | omega | simp) ?_ | with_reducible refine Ext.setCellsF _ _ _ (by first | omega | simp) ?_ | with_reducible refine Ext.setCellF _ _ _ (by first | omega | simp) ?_ | with_reducible refine Ext.upFN (by first | omega | simp) ?_ | with_reducible refine Ext.up1F (by first | omega | simp) ?_ | with_reducible refine Ext.up1N (by first | omega | simp) ?_ | with_reducible refine Ext.setCell ?_ (.inr (by first | omega | simp)) _ | refine Ext.alloc ?_ _ | refine Ext.setCellF _ _ _ (by first | omega | simp) ?_ | refine Ext.setCell ?_ (.inr (by first | omega | simp)) _))⟩, hlt, rfl, rfl, by go_num, rfl, Go.Lib.hid (fun h => by cases h), HP⟩
              · have HSL := Go.Lib.hid (HSn.out rfl)
                by_cases hkl : k < sl1.length
                · have hkl2 : k < sl2.length := by have := HSL.out; omega
                  obtain ⟨gb1, go1, rfl, hgb1, g10, g11, -⟩ := HS1.out.at_ k hkl
                  obtain ⟨gb2, go2, rfl, hgb2, g20, g21, -⟩ := HS2.out.at_ k hkl2
                  have HSD := Go.Lib.hid (sigsEq_drop sl1 sl2 k hkl hkl2)
                  generalize sgAt sl1 k = sg1 at *
                  generalize sgAt sl2 k = sg2 at *
                  obtain ⟨sb1, st1⟩ := sg1
                  obtain ⟨sb2, st2⟩ := sg2
                  have HSE : Hid (sgEq ⟨sb1, st1⟩ ⟨sb2, st2⟩ = ((sb1 == sb2) && (st1.toList == st2.toList))) := Go.Lib.hid rfl
                  have hg10 : w.cell? ⟨gb1, go1 + k * 2, none⟩ = some (.int .i64 sb1) := g10
                  have hg11 : w.cell? ⟨gb1, go1 + k * 2 + 1, none⟩ = some (.string st1) := g11
                  have hg20 : w.cell? ⟨gb2, go2 + k * 2, none⟩ = some (.int .i64 sb2) := g20
                  have hg21 : w.cell? ⟨gb2, go2 + k * 2 + 1, none⟩ = some (.string st2) := g21
                  clear g10 g11 g20 g21
                  go_upto_region 17 with fail
                  cases hb0 : (sb1 == sb2) <;> cases hb1 : (st1.toList == st2.toList)
                  all_goals
                    have G0 := Go.Lib.hid hb0; have G1 := Go.Lib.hid hb1
                    (refine wp_region_ext_lit (by kernel_rfl) (by kernel_rfl) ?_; (repeat (go_big_quiet_step (fail))); refine wpQuiet_nil ?_; intro _ hw'; obtain ⟨xq, hw''⟩ := hw'; subst hw'')
                    go_wp2_with fail
                    go_roundg (sl1.length - (k + 1))
                    case measure => have := HG2.out; omega
                    case rel => exact ⟨_, k + 1, ⟨_, by (repeat (first | with_reducible exact Ext.refl _ _ | assumption | with_reducible refine Ext.upN ?_ | with_reducible refine Ext.alloc ?_ _ | with_reducible refine Ext.upA (by assumption) ?_ | with_reducible refine Ext.upW ?_ | with_reducible refine Ext.drew ?_ | with_reducible refine Ext.drewN ?_ _ | with_reducible refine Ext.upF ?_ | with_reducible refine Ext.upFF (by first | omega | simp) ?_ | with_reducible refine Ext.setCellsF _ _ _ (by first | omega | simp) ?_ | with_reducible refine Ext.setCellF _ _ _ (by first | omega | simp) ?_ | with_reducible refine Ext.upFN (by first | omega | simp) ?_ | with_reducible refine Ext.up1F (by first | omega | simp) ?_ | with_reducible refine Ext.up1N (by first | omega | simp) ?_ | with_reducible refine Ext.setCell ?_ (.inr (by first | omega | simp)) _ | refine Ext.alloc ?_ _ | refine Ext.setCellF _ _ _ (by first | omega | simp) ?_ | refine Ext.setCell ?_ (.inr (by first | omega | simp)) _))⟩, hkl, rfl, rfl, by go_num, rfl, Go.Lib.hid (fun _ => HSL.out), Go.Lib.hid (by rw [HS.out, HSD.out, HSE.out, G0.out, G1.out]; rfl)⟩
                · have HT : Hid (ceq = true) := Go.Lib.hid (by rw [HS.out, List.drop_eq_nil_of_le (by omega), List.drop_eq_nil_of_le (by have := HSL.out; omega)]; rfl)
                  have HP : Hid (pp = (true && certsEq (l1.drop (i + 1)) (l2.drop (i + 1)))) := Go.Lib.hid (by rw [HC.out, HD.out, HT.out]; rfl)
                  go_wp2_with fail
                  go_roundg (l1.length - (i + 1))
                  case measure => have := HG.out; omega
                  case rel => exact ⟨true, i + 1, ⟨_, by (repeat (first | with_reducible exact Ext.refl _ _ | assumption | with_reducible refine Ext.upN ?_ | with_reducible refine Ext.alloc ?_ _ | with_reducible refine Ext.upA (by assumption) ?_ | with_reducible refine Ext.upW ?_ | with_reducible refine Ext.drew ?_ | with_reducible refine Ext.drewN ?_ _ | with_reducible refine Ext.upF ?_ | with_reducible refine Ext.upFF (by first | omega | simp) ?_ | with_reducible refine Ext.setCellsF _ _ _ (by first | omega | simp) ?_ | with_reducible refine Ext.setCellF _ _ _ (by first | omega | simp) ?_ | with_reducible refine Ext.upFN (by first | omega | simp) ?_ | with_reducible refine Ext.up1F (by first | omega | simp) ?_ | with_reducible refine Ext.up1N (by first | omega | simp) ?_ | with_reducible refine Ext.setCell ?_ (.inr (by first | omega | simp)) _ | refine Ext.alloc ?_ _ | refine Ext.setCellF _ _ _ (by first | omega | simp) ?_ | refine Ext.setCell ?_ (.inr (by first | omega | simp)) _))⟩, hlt, rfl, rfl, by go_num, rfl, Go.Lib.hid (fun _ => HL.out), HP⟩
          · as_aux_lemma =>
            have HC' : Hid (pp = true) := Go.Lib.hid (by rw [HC.out, List.drop_eq_nil_of_le (by omega), List.drop_eq_nil_of_le (by have := HL.out; omega)]; rfl)
            have bt : (ts1.toList == ts2.toList) = true := by rw [UL'.out, HC'.out]
            go_wp2
            go_ret
            exact ⟨rfl, by (repeat (first | with_reducible exact Ext.refl _ _ | assumption | with_reducible refine Ext.upN ?_ | with_reducible refine Ext.alloc ?_ _ | with_reducible refine Ext.upA (by assumption) ?_ | with_reducible refine Ext.upW ?_ | with_reducible refine Ext.drew ?_ | with_reducible refine Ext.drewN ?_ _ | with_reducible refine Ext.upF ?_ | with_reducible refine Ext.upFF (by first | omega | simp) ?_ | with_reducible refine Ext.setCellsF _ _ _ (by first | omega | simp) ?_ | with_reducible refine Ext.setCellF _ _ _ (by first | omega | simp) ?_ | with_reducible refine Ext.upFN (by first | omega | simp) ?_ | with_reducible refine Ext.up1F (by first | omega | simp) ?_ | with_reducible refine Ext.up1N (by first | omega | simp) ?_ | with_reducible refine Ext.setCell ?_ (.inr (by first | omega | simp)) _ | refine Ext.alloc ?_ _ | refine Ext.setCellF _ _ _ (by first | omega | simp) ?_ | refine Ext.setCell ?_ (.inr (by first | omega | simp)) _))⟩
    · as_aux_lemma =>
      have hb1 : (te2 != 0) = true := by rw [bne_iff_ne]; exact h1
      subst h0
      clear UL h1
      go_wp2
      go_ret
      exact ⟨rfl, by (repeat (first | with_reducible exact Ext.refl _ _ | assumption | with_reducible refine Ext.upN ?_ | with_reducible refine Ext.alloc ?_ _ | with_reducible refine Ext.upA (by assumption) ?_ | with_reducible refine Ext.upW ?_ | with_reducible refine Ext.drew ?_ | with_reducible refine Ext.drewN ?_ _ | with_reducible refine Ext.upF ?_ | with_reducible refine Ext.upFF (by first | omega | simp) ?_ | with_reducible refine Ext.setCellsF _ _ _ (by first | omega | simp) ?_ | with_reducible refine Ext.setCellF _ _ _ (by first | omega | simp) ?_ | with_reducible refine Ext.upFN (by first | omega | simp) ?_ | with_reducible refine Ext.up1F (by first | omega | simp) ?_ | with_reducible refine Ext.up1N (by first | omega | simp) ?_ | with_reducible refine Ext.setCell ?_ (.inr (by first | omega | simp)) _ | refine Ext.alloc ?_ _ | refine Ext.setCellF _ _ _ (by first | omega | simp) ?_ | refine Ext.setCell ?_ (.inr (by first | omega | simp)) _))⟩
  · as_aux_lemma =>
    have hb1 : (te1 != 0) = true := by rw [bne_iff_ne]; exact h0
    clear UL h0
    go_wp2
    go_ret
    exact ⟨rfl, by (repeat (first | with_reducible exact Ext.refl _ _ | assumption | with_reducible refine Ext.upN ?_ | with_reducible refine Ext.alloc ?_ _ | with_reducible refine Ext.upA (by assumption) ?_ | with_reducible refine Ext.upW ?_ | with_reducible refine Ext.drew ?_ | with_reducible refine Ext.drewN ?_ _ | with_reducible refine Ext.upF ?_ | with_reducible refine Ext.upFF (by first | omega | simp) ?_ | with_reducible refine Ext.setCellsF _ _ _ (by first | omega | simp) ?_ | with_reducible refine Ext.setCellF _ _ _ (by first | omega | simp) ?_ | with_reducible refine Ext.upFN (by first | omega | simp) ?_ | with_reducible refine Ext.up1F (by first | omega | simp) ?_ | with_reducible refine Ext.up1N (by first | omega | simp) ?_ | with_reducible refine Ext.setCell ?_ (.inr (by first | omega | simp)) _ | refine Ext.alloc ?_ _ | refine Ext.setCellF _ _ _ (by first | omega | simp) ?_ | refine Ext.setCell ?_ (.inr (by first | omega | simp)) _))⟩
set_option maxRecDepth 100000 in
open Go.ChangeShapes Go.WideShapes in
theorem law_ChangeUnlike {H : Type} {enc : TypeId × Value → H} (W : World) {base : Nat} (v0 : Value) (d0 : DataW H) (p0 : List MemPlace)
    (h0 : DataW.Trod enc Try.prog W 0 (fun _ => true) true 44 v0 d0 p0) (ok0 : Value.okWide Try.prog W .any base 44 v0) :
    Calls Try.prog 6 #[v0] W fun e w' => e = .returned (.bool true) ∧ Below W.heap.size W w' := by
  obtain ⟨cs, rfl, n, x, hx⟩ := arg_struct Try.underlying44 ok0 h0
  obtain ⟨hl, hf⟩ := read_struct Try.underlying44 hx
  have hl : cs.length = 12 := hl.trans (by kernel_rfl)
  match cs, hl with
  | [u0, u1, u2, u3, u4, u5, u6, u7, u8, u9, u10, u11], _ =>
    obtain ⟨_, _, g0⟩ := hf 0 _ 3 0 1 rfl rfl rfl c_int
    obtain ⟨_, _, g1⟩ := hf 1 _ 3 1 1 rfl rfl rfl c_int
    obtain ⟨_, _, g2⟩ := hf 2 _ 26 2 5 rfl rfl rfl c_change
    obtain ⟨_, _, g3⟩ := hf 3 _ 26 7 5 rfl rfl rfl c_change
    obtain ⟨e1, q0, i0⟩ := read_int g0
    obtain ⟨e2, q1, i1⟩ := read_int g1
    obtain ⟨⟨⟨f1, v1, l1, y1, t1⟩, a1, c1⟩, q2, k1, i2, i3, _⟩ := read_change g2
    obtain ⟨⟨⟨f2, v2, l2, y2, t2⟩, a2, c2⟩, q3, k2, i4, i5, _⟩ := read_change g3
    simp [Ch.cells] at q0 q1 q2 q3
    obtain ⟨rfl, rfl, rfl, rfl, rfl⟩ := q2
    obtain ⟨rfl, rfl, rfl, rfl, rfl⟩ := q3
    subst q0; subst q1
    exact (walk_ChangeUnlike e1 e2 f1 v1 y1 t1 a1 c1 l1 f2 v2 y2 t2 a2 c2 l2 ⟨i0, i2, i3, i1, i4, i5⟩ W k1 k2).mono fun _ _ ⟨a, b⟩ => ⟨a, b.toBelow⟩
end Go.Proofs.Ytakbkpklfihfiaa
