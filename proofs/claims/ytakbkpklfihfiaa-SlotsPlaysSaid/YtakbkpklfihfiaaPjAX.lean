/- Joined texts: Same13. What each proves stands at its head; no conditions beside those in its theorems. -/
import Derived.Laws.StructEq
import Derived.Test.YtakbkpklfihfiaaPjAD
import Derived.Test.YtakbkpklfihfiaaPjAQ
/- Contracts: the references' words on the same signatures and the same certificates. -/
namespace Go.Proofs.Ytakbkpklfihfiaa
open Go.RowKit Go.Lib F64
set_option linter.unusedSimpArgs false
set_option linter.unusedVariables false
attribute [local go_sem] run_store_float
attribute [local go_sem low] EW.cellN EW.frozN alloc_cell_or alloc_froz_or EW.cellF EW.frozF EW.cell1 EW.froz1
theorem guard_sig (op : BinOp) (x y : Operand) (xs ys : Array Value) (w : World) : (eqGuard op 24 x y (.agg xs) (.agg ys)).run Try.prog w = .ok () w := run_eqGuard_agg w op 24 x y xs ys (by kernel_rfl)
attribute [local go_sem] guard_sig
theorem sigsEq_drop (a b : List Sg) (i : Nat) (h : i < a.length) (h' : i < b.length) : sigsEq (a.drop i) (b.drop i) = (sgEq (sgAt a i) (sgAt b i) && sigsEq (a.drop (i + 1)) (b.drop (i + 1))) := by
  rw [List.drop_eq_getElem_cons h, List.drop_eq_getElem_cons h', sgAt_get h, sgAt_get h']; rfl
theorem sigsEq_len : ∀ a b, a.length ≠ b.length → sigsEq a b = false
  | [], [], h => absurd rfl h
  | [], _ :: _, _ => rfl
  | _ :: _, [], _ => rfl
  | x :: xs, y :: ys, h => by unfold sigsEq; rw [sigsEq_len xs ys (by simpa using h)]; simp
theorem certsEq_drop (a b : List Ct) (i : Nat) (h : i < a.length) (h' : i < b.length) : certsEq (a.drop i) (b.drop i) = (certEq (ctAt a i) (ctAt b i) && certsEq (a.drop (i + 1)) (b.drop (i + 1))) := by
  rw [List.drop_eq_getElem_cons h, List.drop_eq_getElem_cons h', ctAt_get h, ctAt_get h']; rfl
theorem certsEq_len : ∀ a b, a.length ≠ b.length → certsEq a b = false
  | [], [], h => absurd rfl h
  | [], _ :: _, _ => rfl
  | _ :: _, [], _ => rfl
  | x :: xs, y :: ys, h => by unfold certsEq; rw [certsEq_len xs ys (by simpa using h)]; simp
set_option maxHeartbeats 4000000 in
set_option maxRecDepth 100000 in
theorem ref09_Same (a1 : Option Addr) (c1 : Nat) (l1 : List Sg) (a2 : Option Addr) (c2 : Nat) (l2 : List Sg) (w : World) (h1 : Sigs w a1 c1 l1) (h2 : Sigs w a2 c2 l2) :
    Calls Try.prog 87 #[.slice a1 l1.length c1, .slice a2 l2.length c2] w fun e w' => e = .returned (.bool (sigsEq l1 l2)) ∧ Ext Non w w' := by
  have H1 := Go.Lib.hid h1; have H2 := Go.Lib.hid h2
  have s1 := h1.small; have e1 := h1.le; have s2 := h2.small; have e2 := h2.le
  clear h1 h2
  by_cases hl : l1.length = l2.length
  · have HL := Go.Lib.hid hl
    have hlb : (l1.length != l2.length) = false := by rw [bne_eq_false_iff_eq]; exact hl
    have hlb2 : ((l1.length : Int) != (l2.length : Int)) = false := by rw [bne_eq_false_iff_eq]; omega
    clear hl
    go_enter Try.func87, Try.ntmps87
    go_wp2_with fail
    go_loopw [5] (fun iv wr => ∃ (i : Nat) (z : EW Non w), i ≤ l1.length ∧ iv = .int .i64 i ∧ wr = z.on ∧ Hid (sigsEq l1 l2 = sigsEq (l1.drop i) (l2.drop i))) (fun iv _ => l1.length - (intOf iv).toNat)
    case atStart => exact ⟨0, ⟨_, by (repeat (first | with_reducible (first | exact Ext.refl _ _ | assumption | refine Ext.upN ?_ | refine Ext.alloc ?_ _ | refine Ext.drew ?_ | refine Ext.drewN ?_ _ | refine Ext.up1N (by first | omega | simp) ?_) | refine Ext.alloc ?_ _ | refine Ext.setCell ?_ (.inr (by first | omega | simp)) _))⟩, Nat.zero_le _, rfl, rfl, Go.Lib.hid rfl⟩
    case round =>
      obtain ⟨i, z, hi, rfl, rfl, HA⟩ := hrel
      by_cases hlt : i < l1.length
      · have hlt2 : i < l2.length := by have := HL.out; omega
        obtain ⟨b1, o1, rfl, hb1, p0, p1, -⟩ := H1.out.at_ i hlt
        obtain ⟨b2, o2, rfl, hb2, t0, t1, -⟩ := H2.out.at_ i hlt2
        have HD := Go.Lib.hid (sigsEq_drop l1 l2 i hlt hlt2)
        generalize sgAt l1 i = q1 at *
        generalize sgAt l2 i = q2 at *
        obtain ⟨by1, tx1⟩ := q1
        obtain ⟨by2, tx2⟩ := q2
        have DQ : Hid (sgEq ⟨by1, tx1⟩ ⟨by2, tx2⟩ = ((by1 == by2) && (tx1.toList == tx2.toList))) := Go.Lib.hid rfl
        have hi2 : (i : Int) < (l2.length : Int) := by omega
        by_cases hb : by1 = by2
        · by_cases hc : tx1.toList = tx2.toList
          · have HA' : Hid (sigsEq l1 l2 = sigsEq (l1.drop (i + 1)) (l2.drop (i + 1))) := Go.Lib.hid (by rw [HA.out, HD.out, DQ.out, beq_iff_eq.2 hb, beq_iff_eq.2 hc]; rfl)
            go_upto_region 6 with fail
            (refine wp_region_ext_lit (by kernel_rfl) (by kernel_rfl) ?_; (repeat (go_big_quiet_step (fail))); refine wpQuiet_nil ?_; intro _ hw'; obtain ⟨xq, hw''⟩ := hw'; subst hw'')
            go_wp2_with fail
            go_roundw
            case rel => exact ⟨i + 1, ⟨_, by (repeat (first | with_reducible (first | exact Ext.refl _ _ | assumption | refine Ext.upN ?_ | refine Ext.alloc ?_ _ | refine Ext.drew ?_ | refine Ext.drewN ?_ _ | refine Ext.up1N (by first | omega | simp) ?_) | refine Ext.alloc ?_ _ | refine Ext.setCell ?_ (.inr (by first | omega | simp)) _))⟩, hlt, by go_num, rfl, HA'⟩
            case measure => simp [intOf]; omega
          · have HC := Go.Lib.hid (beq_eq_false_iff_ne.2 hc)
            go_upto_region 6 with fail
            (refine wp_region_ext_lit (by kernel_rfl) (by kernel_rfl) ?_; (repeat (go_big_quiet_step (fail))); refine wpQuiet_nil ?_; intro _ hw'; obtain ⟨xq, hw''⟩ := hw'; subst hw'')
            go_wp2
            go_ret
            exact ⟨ret_bool (by rw [HA.out, HD.out, DQ.out, HC.out]; simp), by (repeat (first | with_reducible (first | exact Ext.refl _ _ | assumption | refine Ext.upN ?_ | refine Ext.alloc ?_ _ | refine Ext.drew ?_ | refine Ext.drewN ?_ _ | refine Ext.up1N (by first | omega | simp) ?_) | refine Ext.alloc ?_ _ | refine Ext.setCell ?_ (.inr (by first | omega | simp)) _))⟩
        · have HB := Go.Lib.hid (beq_eq_false_iff_ne.2 hb)
          go_upto_region 6 with fail
          (refine wp_region_ext_lit (by kernel_rfl) (by kernel_rfl) ?_; (repeat (go_big_quiet_step (fail))); refine wpQuiet_nil ?_; intro _ hw'; obtain ⟨xq, hw''⟩ := hw'; subst hw'')
          go_wp2
          go_ret
          exact ⟨ret_bool (by rw [HA.out, HD.out, DQ.out, HB.out]; simp), by (repeat (first | with_reducible (first | exact Ext.refl _ _ | assumption | refine Ext.upN ?_ | refine Ext.alloc ?_ _ | refine Ext.drew ?_ | refine Ext.drewN ?_ _ | refine Ext.up1N (by first | omega | simp) ?_) | refine Ext.alloc ?_ _ | refine Ext.setCell ?_ (.inr (by first | omega | simp)) _))⟩
      · have HA' : Hid (sigsEq l1 l2 = true) := Go.Lib.hid (by rw [HA.out, List.drop_eq_nil_of_le (by omega), List.drop_eq_nil_of_le (by have := HL.out; omega)]; rfl)
        go_wp2
        go_ret
        exact ⟨ret_bool HA'.out.symm, by (repeat (first | with_reducible (first | exact Ext.refl _ _ | assumption | refine Ext.upN ?_ | refine Ext.alloc ?_ _ | refine Ext.drew ?_ | refine Ext.drewN ?_ _ | refine Ext.up1N (by first | omega | simp) ?_) | refine Ext.alloc ?_ _ | refine Ext.setCell ?_ (.inr (by first | omega | simp)) _))⟩
  · have HA := Go.Lib.hid (sigsEq_len l1 l2 hl)
    have hlb : (l1.length != l2.length) = true := by rw [bne_iff_ne]; exact hl
    have hlb2 : ((l1.length : Int) != (l2.length : Int)) = true := by rw [bne_iff_ne]; omega
    go_enter Try.func87, Try.ntmps87
    go_wp2
    go_ret
    exact ⟨ret_bool HA.out.symm, by (repeat (first | with_reducible (first | exact Ext.refl _ _ | assumption | refine Ext.upN ?_ | refine Ext.alloc ?_ _ | refine Ext.drew ?_ | refine Ext.drewN ?_ _ | refine Ext.up1N (by first | omega | simp) ?_) | refine Ext.alloc ?_ _ | refine Ext.setCell ?_ (.inr (by first | omega | simp)) _))⟩
set_option maxHeartbeats 4000000 in
set_option maxRecDepth 100000 in
theorem ref13_SameCerts (a1 : Option Addr) (c1 : Nat) (l1 : List Ct) (a2 : Option Addr) (c2 : Nat) (l2 : List Ct) (w : World) (h1 : Certs w a1 c1 l1) (h2 : Certs w a2 c2 l2) :
    Calls Try.prog 43 #[.slice a1 l1.length c1, .slice a2 l2.length c2] w fun e w' => e = .returned (.bool (certsEq l1 l2)) ∧ Ext Non w w' := by
  have H1 := Go.Lib.hid h1; have H2 := Go.Lib.hid h2
  have s1 := h1.small; have e1 := h1.le; have s2 := h2.small; have e2 := h2.le
  clear h1 h2
  by_cases hl : l1.length = l2.length
  · have HL := Go.Lib.hid hl
    have hlb : (l1.length != l2.length) = false := by rw [bne_eq_false_iff_eq]; exact hl
    have hlb2 : ((l1.length : Int) != (l2.length : Int)) = false := by rw [bne_eq_false_iff_eq]; omega
    clear hl
    go_enter Try.func43, Try.ntmps43
    go_wp2_with fail
    go_loopw [5] (fun iv wr => ∃ (i : Nat) (z : EW Non w), i ≤ l1.length ∧ iv = .int .i64 i ∧ wr = z.on ∧ Hid (certsEq l1 l2 = certsEq (l1.drop i) (l2.drop i))) (fun iv _ => l1.length - (intOf iv).toNat)
    case atStart => exact ⟨0, ⟨_, by (repeat (first | with_reducible (first | exact Ext.refl _ _ | assumption | refine Ext.upN ?_ | refine Ext.alloc ?_ _ | refine Ext.drew ?_ | refine Ext.drewN ?_ _ | refine Ext.up1N (by first | omega | simp) ?_) | refine Ext.alloc ?_ _ | refine Ext.setCell ?_ (.inr (by first | omega | simp)) _))⟩, Nat.zero_le _, rfl, rfl, Go.Lib.hid rfl⟩
    case round =>
      obtain ⟨i, z, hi, rfl, rfl, HA⟩ := hrel
      by_cases hlt : i < l1.length
      · have hlt2 : i < l2.length := by have := HL.out; omega
        obtain ⟨b1, o1, sa1, sc1, rfl, hb1, k1, g1, -⟩ := H1.out.at_ i hlt
        obtain ⟨b2, o2, sa2, sc2, rfl, hb2, k2, g2, -⟩ := H2.out.at_ i hlt2
        have HD := Go.Lib.hid (certsEq_drop l1 l2 i hlt hlt2)
        generalize ctAt l1 i = q1 at *
        generalize ctAt l2 i = q2 at *
        obtain ⟨v1, n1, ⟨rc, rs, ⟨rk, rkey, rx, rid⟩⟩, sl1⟩ := q1
        obtain ⟨v2, n2, ⟨tc, ts, ⟨tk, tkey, tx, tid⟩⟩, sl2⟩ := q2
        have DQ : Hid (certEq ⟨v1, n1, ⟨rc, rs, ⟨rk, rkey, rx, rid⟩⟩, sl1⟩ ⟨v2, n2, ⟨tc, ts, ⟨tk, tkey, tx, tid⟩⟩, sl2⟩ = ((v1 == v2) && (n1 == n2) && wholeB ⟨rc, rs, ⟨rk, rkey, rx, rid⟩⟩ ⟨tc, ts, ⟨tk, tkey, tx, tid⟩⟩ && sigsEq sl1 sl2)) := Go.Lib.hid rfl
        have G1 : Hid (Sigs w sa1 sc1 sl1) := Go.Lib.hid g1
        have G2 : Hid (Sigs w sa2 sc2 sl2) := Go.Lib.hid g2
        clear g1 g2
        have p0 : w.cell? ⟨b1, o1 + i * 9, none⟩ = some (.int .i64 v1) := k1 0 _ rfl
        have p1 : w.cell? ⟨b1, o1 + i * 9 + 1, none⟩ = some (.int .i64 n1) := k1 1 _ rfl
        have p2 : w.cell? ⟨b1, o1 + i * 9 + 2, none⟩ = some (.int .i64 rc) := k1 2 _ rfl
        have p3 : w.cell? ⟨b1, o1 + i * 9 + 3, none⟩ = some (.int .i64 rs) := k1 3 _ rfl
        have p4 : w.cell? ⟨b1, o1 + i * 9 + 4, none⟩ = some (.int .i64 rk) := k1 4 _ rfl
        have p5 : w.cell? ⟨b1, o1 + i * 9 + 5, none⟩ = some (.string rkey) := k1 5 _ rfl
        have p6 : w.cell? ⟨b1, o1 + i * 9 + 6, none⟩ = some (.float .f64 rx) := k1 6 _ rfl
        have p7 : w.cell? ⟨b1, o1 + i * 9 + 7, none⟩ = some (.int .i64 rid) := k1 7 _ rfl
        have p8 : w.cell? ⟨b1, o1 + i * 9 + 8, none⟩ = some (.slice sa1 sl1.length sc1) := k1 8 _ rfl
        have t0 : w.cell? ⟨b2, o2 + i * 9, none⟩ = some (.int .i64 v2) := k2 0 _ rfl
        have t1 : w.cell? ⟨b2, o2 + i * 9 + 1, none⟩ = some (.int .i64 n2) := k2 1 _ rfl
        have t2 : w.cell? ⟨b2, o2 + i * 9 + 2, none⟩ = some (.int .i64 tc) := k2 2 _ rfl
        have t3 : w.cell? ⟨b2, o2 + i * 9 + 3, none⟩ = some (.int .i64 ts) := k2 3 _ rfl
        have t4 : w.cell? ⟨b2, o2 + i * 9 + 4, none⟩ = some (.int .i64 tk) := k2 4 _ rfl
        have t5 : w.cell? ⟨b2, o2 + i * 9 + 5, none⟩ = some (.string tkey) := k2 5 _ rfl
        have t6 : w.cell? ⟨b2, o2 + i * 9 + 6, none⟩ = some (.float .f64 tx) := k2 6 _ rfl
        have t7 : w.cell? ⟨b2, o2 + i * 9 + 7, none⟩ = some (.int .i64 tid) := k2 7 _ rfl
        have t8 : w.cell? ⟨b2, o2 + i * 9 + 8, none⟩ = some (.slice sa2 sl2.length sc2) := k2 8 _ rfl
        have hi2 : (i : Int) < (l2.length : Int) := by omega
        clear k1 k2
        go_upto_region 6 with fail
        (refine wp_region_ext_lit (by kernel_rfl) (by kernel_rfl) ?_)
        ((try simp only [Bool.not_true, Bool.not_false, Bool.or_false, Bool.or_true, Bool.false_or, Bool.true_or, Bool.and_true, Bool.true_and, Bool.and_false, Bool.false_and]); (repeat (go_big_quiet_step ((first | (go_at_call 22; exact Calls.ext_of (ref_Whole rc rs rk rkey rx rid tc ts tk tkey tx tid _)) | (go_at_call 87; exact Calls.ext_of (ref09_Same sa1 sc1 sl1 sa2 sc2 sl2 _ (G1.out.extN (by (repeat (first | with_reducible (first | exact Ext.refl _ _ | assumption | refine Ext.upN ?_ | refine Ext.alloc ?_ _ | refine Ext.drew ?_ | refine Ext.drewN ?_ _ | refine Ext.up1N (by first | omega | simp) ?_) | refine Ext.alloc ?_ _ | refine Ext.setCell ?_ (.inr (by first | omega | simp)) _)))) (G2.out.extN (by (repeat (first | with_reducible (first | exact Ext.refl _ _ | assumption | refine Ext.upN ?_ | refine Ext.alloc ?_ _ | refine Ext.drew ?_ | refine Ext.drewN ?_ _ | refine Ext.up1N (by first | omega | simp) ?_) | refine Ext.alloc ?_ _ | refine Ext.setCell ?_ (.inr (by first | omega | simp)) _)))))))))))
        rcases (Bool.eq_false_or_eq_true (v1 != v2)) with hb0 | hb0
        · have F0 : Hid ((v1 == v2) = false) := Go.Lib.hid (by simpa [bne] using hb0)
          rw [hb0]; clear hb0
          ((try simp only [Bool.not_true, Bool.not_false, Bool.or_false, Bool.or_true, Bool.false_or, Bool.true_or, Bool.and_true, Bool.true_and, Bool.and_false, Bool.false_and]); (repeat (go_big_quiet_step ((first | (go_at_call 22; exact Calls.ext_of (ref_Whole rc rs rk rkey rx rid tc ts tk tkey tx tid _)) | (go_at_call 87; exact Calls.ext_of (ref09_Same sa1 sc1 sl1 sa2 sc2 sl2 _ (G1.out.extN (by (repeat (first | with_reducible (first | exact Ext.refl _ _ | assumption | refine Ext.upN ?_ | refine Ext.alloc ?_ _ | refine Ext.drew ?_ | refine Ext.drewN ?_ _ | refine Ext.up1N (by first | omega | simp) ?_) | refine Ext.alloc ?_ _ | refine Ext.setCell ?_ (.inr (by first | omega | simp)) _)))) (G2.out.extN (by (repeat (first | with_reducible (first | exact Ext.refl _ _ | assumption | refine Ext.upN ?_ | refine Ext.alloc ?_ _ | refine Ext.drew ?_ | refine Ext.drewN ?_ _ | refine Ext.up1N (by first | omega | simp) ?_) | refine Ext.alloc ?_ _ | refine Ext.setCell ?_ (.inr (by first | omega | simp)) _)))))))))))
          (refine wpQuiet_nil ?_; intro _ hw'; obtain ⟨xq, hw''⟩ := hw'; subst hw'')
          go_wp2
          go_ret
          exact ⟨ret_bool (by rw [HA.out, HD.out, DQ.out, F0.out]; simp), by (repeat (first | with_reducible (first | exact Ext.refl _ _ | assumption | refine Ext.upN ?_ | refine Ext.alloc ?_ _ | refine Ext.drew ?_ | refine Ext.drewN ?_ _ | refine Ext.up1N (by first | omega | simp) ?_) | refine Ext.alloc ?_ _ | refine Ext.setCell ?_ (.inr (by first | omega | simp)) _))⟩
        · have F0 : Hid ((v1 == v2) = true) := Go.Lib.hid (by simpa [bne] using hb0)
          rw [hb0]; clear hb0
          ((try simp only [Bool.not_true, Bool.not_false, Bool.or_false, Bool.or_true, Bool.false_or, Bool.true_or, Bool.and_true, Bool.true_and, Bool.and_false, Bool.false_and]); (repeat (go_big_quiet_step ((first | (go_at_call 22; exact Calls.ext_of (ref_Whole rc rs rk rkey rx rid tc ts tk tkey tx tid _)) | (go_at_call 87; exact Calls.ext_of (ref09_Same sa1 sc1 sl1 sa2 sc2 sl2 _ (G1.out.extN (by (repeat (first | with_reducible (first | exact Ext.refl _ _ | assumption | refine Ext.upN ?_ | refine Ext.alloc ?_ _ | refine Ext.drew ?_ | refine Ext.drewN ?_ _ | refine Ext.up1N (by first | omega | simp) ?_) | refine Ext.alloc ?_ _ | refine Ext.setCell ?_ (.inr (by first | omega | simp)) _)))) (G2.out.extN (by (repeat (first | with_reducible (first | exact Ext.refl _ _ | assumption | refine Ext.upN ?_ | refine Ext.alloc ?_ _ | refine Ext.drew ?_ | refine Ext.drewN ?_ _ | refine Ext.up1N (by first | omega | simp) ?_) | refine Ext.alloc ?_ _ | refine Ext.setCell ?_ (.inr (by first | omega | simp)) _)))))))))))
          rcases (Bool.eq_false_or_eq_true (n1 != n2)) with hb1 | hb1
          · have F1 : Hid ((n1 == n2) = false) := Go.Lib.hid (by simpa [bne] using hb1)
            rw [hb1]; clear hb1
            ((try simp only [Bool.not_true, Bool.not_false, Bool.or_false, Bool.or_true, Bool.false_or, Bool.true_or, Bool.and_true, Bool.true_and, Bool.and_false, Bool.false_and]); (repeat (go_big_quiet_step ((first | (go_at_call 22; exact Calls.ext_of (ref_Whole rc rs rk rkey rx rid tc ts tk tkey tx tid _)) | (go_at_call 87; exact Calls.ext_of (ref09_Same sa1 sc1 sl1 sa2 sc2 sl2 _ (G1.out.extN (by (repeat (first | with_reducible (first | exact Ext.refl _ _ | assumption | refine Ext.upN ?_ | refine Ext.alloc ?_ _ | refine Ext.drew ?_ | refine Ext.drewN ?_ _ | refine Ext.up1N (by first | omega | simp) ?_) | refine Ext.alloc ?_ _ | refine Ext.setCell ?_ (.inr (by first | omega | simp)) _)))) (G2.out.extN (by (repeat (first | with_reducible (first | exact Ext.refl _ _ | assumption | refine Ext.upN ?_ | refine Ext.alloc ?_ _ | refine Ext.drew ?_ | refine Ext.drewN ?_ _ | refine Ext.up1N (by first | omega | simp) ?_) | refine Ext.alloc ?_ _ | refine Ext.setCell ?_ (.inr (by first | omega | simp)) _)))))))))))
            (refine wpQuiet_nil ?_; intro _ hw'; obtain ⟨xq, hw''⟩ := hw'; subst hw'')
            go_wp2
            go_ret
            exact ⟨ret_bool (by rw [HA.out, HD.out, DQ.out, F1.out]; simp), by (repeat (first | with_reducible (first | exact Ext.refl _ _ | assumption | refine Ext.upN ?_ | refine Ext.alloc ?_ _ | refine Ext.drew ?_ | refine Ext.drewN ?_ _ | refine Ext.up1N (by first | omega | simp) ?_) | refine Ext.alloc ?_ _ | refine Ext.setCell ?_ (.inr (by first | omega | simp)) _))⟩
          · have F1 : Hid ((n1 == n2) = true) := Go.Lib.hid (by simpa [bne] using hb1)
            rw [hb1]; clear hb1
            ((try simp only [Bool.not_true, Bool.not_false, Bool.or_false, Bool.or_true, Bool.false_or, Bool.true_or, Bool.and_true, Bool.true_and, Bool.and_false, Bool.false_and]); (repeat (go_big_quiet_step ((first | (go_at_call 22; exact Calls.ext_of (ref_Whole rc rs rk rkey rx rid tc ts tk tkey tx tid _)) | (go_at_call 87; exact Calls.ext_of (ref09_Same sa1 sc1 sl1 sa2 sc2 sl2 _ (G1.out.extN (by (repeat (first | with_reducible (first | exact Ext.refl _ _ | assumption | refine Ext.upN ?_ | refine Ext.alloc ?_ _ | refine Ext.drew ?_ | refine Ext.drewN ?_ _ | refine Ext.up1N (by first | omega | simp) ?_) | refine Ext.alloc ?_ _ | refine Ext.setCell ?_ (.inr (by first | omega | simp)) _)))) (G2.out.extN (by (repeat (first | with_reducible (first | exact Ext.refl _ _ | assumption | refine Ext.upN ?_ | refine Ext.alloc ?_ _ | refine Ext.drew ?_ | refine Ext.drewN ?_ _ | refine Ext.up1N (by first | omega | simp) ?_) | refine Ext.alloc ?_ _ | refine Ext.setCell ?_ (.inr (by first | omega | simp)) _)))))))))))
            cases hb2 : wholeB ⟨rc, rs, ⟨rk, rkey, rx, rid⟩⟩ ⟨tc, ts, ⟨tk, tkey, tx, tid⟩⟩
            · have F2 := Go.Lib.hid hb2; clear hb2
              ((try simp only [Bool.not_true, Bool.not_false, Bool.or_false, Bool.or_true, Bool.false_or, Bool.true_or, Bool.and_true, Bool.true_and, Bool.and_false, Bool.false_and]); (repeat (go_big_quiet_step ((first | (go_at_call 22; exact Calls.ext_of (ref_Whole rc rs rk rkey rx rid tc ts tk tkey tx tid _)) | (go_at_call 87; exact Calls.ext_of (ref09_Same sa1 sc1 sl1 sa2 sc2 sl2 _ (G1.out.extN (by (repeat (first | with_reducible (first | exact Ext.refl _ _ | assumption | refine Ext.upN ?_ | refine Ext.alloc ?_ _ | refine Ext.drew ?_ | refine Ext.drewN ?_ _ | refine Ext.up1N (by first | omega | simp) ?_) | refine Ext.alloc ?_ _ | refine Ext.setCell ?_ (.inr (by first | omega | simp)) _)))) (G2.out.extN (by (repeat (first | with_reducible (first | exact Ext.refl _ _ | assumption | refine Ext.upN ?_ | refine Ext.alloc ?_ _ | refine Ext.drew ?_ | refine Ext.drewN ?_ _ | refine Ext.up1N (by first | omega | simp) ?_) | refine Ext.alloc ?_ _ | refine Ext.setCell ?_ (.inr (by first | omega | simp)) _)))))))))))
              (refine wpQuiet_nil ?_; intro _ hw'; obtain ⟨xq, hw''⟩ := hw'; subst hw'')
              go_wp2
              go_ret
              exact ⟨ret_bool (by rw [HA.out, HD.out, DQ.out, F2.out]; simp), by (repeat (first | with_reducible (first | exact Ext.refl _ _ | assumption | refine Ext.upN ?_ | refine Ext.alloc ?_ _ | refine Ext.drew ?_ | refine Ext.drewN ?_ _ | refine Ext.up1N (by first | omega | simp) ?_) | refine Ext.alloc ?_ _ | refine Ext.setCell ?_ (.inr (by first | omega | simp)) _))⟩
            · have F2 := Go.Lib.hid hb2; clear hb2
              ((try simp only [Bool.not_true, Bool.not_false, Bool.or_false, Bool.or_true, Bool.false_or, Bool.true_or, Bool.and_true, Bool.true_and, Bool.and_false, Bool.false_and]); (repeat (go_big_quiet_step ((first | (go_at_call 22; exact Calls.ext_of (ref_Whole rc rs rk rkey rx rid tc ts tk tkey tx tid _)) | (go_at_call 87; exact Calls.ext_of (ref09_Same sa1 sc1 sl1 sa2 sc2 sl2 _ (G1.out.extN (by (repeat (first | with_reducible (first | exact Ext.refl _ _ | assumption | refine Ext.upN ?_ | refine Ext.alloc ?_ _ | refine Ext.drew ?_ | refine Ext.drewN ?_ _ | refine Ext.up1N (by first | omega | simp) ?_) | refine Ext.alloc ?_ _ | refine Ext.setCell ?_ (.inr (by first | omega | simp)) _)))) (G2.out.extN (by (repeat (first | with_reducible (first | exact Ext.refl _ _ | assumption | refine Ext.upN ?_ | refine Ext.alloc ?_ _ | refine Ext.drew ?_ | refine Ext.drewN ?_ _ | refine Ext.up1N (by first | omega | simp) ?_) | refine Ext.alloc ?_ _ | refine Ext.setCell ?_ (.inr (by first | omega | simp)) _)))))))))))
              cases hb3 : sigsEq sl1 sl2
              · have F3 := Go.Lib.hid hb3; clear hb3
                ((try simp only [Bool.not_true, Bool.not_false, Bool.or_false, Bool.or_true, Bool.false_or, Bool.true_or, Bool.and_true, Bool.true_and, Bool.and_false, Bool.false_and]); (repeat (go_big_quiet_step ((first | (go_at_call 22; exact Calls.ext_of (ref_Whole rc rs rk rkey rx rid tc ts tk tkey tx tid _)) | (go_at_call 87; exact Calls.ext_of (ref09_Same sa1 sc1 sl1 sa2 sc2 sl2 _ (G1.out.extN (by (repeat (first | with_reducible (first | exact Ext.refl _ _ | assumption | refine Ext.upN ?_ | refine Ext.alloc ?_ _ | refine Ext.drew ?_ | refine Ext.drewN ?_ _ | refine Ext.up1N (by first | omega | simp) ?_) | refine Ext.alloc ?_ _ | refine Ext.setCell ?_ (.inr (by first | omega | simp)) _)))) (G2.out.extN (by (repeat (first | with_reducible (first | exact Ext.refl _ _ | assumption | refine Ext.upN ?_ | refine Ext.alloc ?_ _ | refine Ext.drew ?_ | refine Ext.drewN ?_ _ | refine Ext.up1N (by first | omega | simp) ?_) | refine Ext.alloc ?_ _ | refine Ext.setCell ?_ (.inr (by first | omega | simp)) _)))))))))))
                (refine wpQuiet_nil ?_; intro _ hw'; obtain ⟨xq, hw''⟩ := hw'; subst hw'')
                go_wp2
                go_ret
                exact ⟨ret_bool (by rw [HA.out, HD.out, DQ.out, F3.out]; simp), by (repeat (first | with_reducible (first | exact Ext.refl _ _ | assumption | refine Ext.upN ?_ | refine Ext.alloc ?_ _ | refine Ext.drew ?_ | refine Ext.drewN ?_ _ | refine Ext.up1N (by first | omega | simp) ?_) | refine Ext.alloc ?_ _ | refine Ext.setCell ?_ (.inr (by first | omega | simp)) _))⟩
              · have F3 := Go.Lib.hid hb3; clear hb3
                ((try simp only [Bool.not_true, Bool.not_false, Bool.or_false, Bool.or_true, Bool.false_or, Bool.true_or, Bool.and_true, Bool.true_and, Bool.and_false, Bool.false_and]); (repeat (go_big_quiet_step ((first | (go_at_call 22; exact Calls.ext_of (ref_Whole rc rs rk rkey rx rid tc ts tk tkey tx tid _)) | (go_at_call 87; exact Calls.ext_of (ref09_Same sa1 sc1 sl1 sa2 sc2 sl2 _ (G1.out.extN (by (repeat (first | with_reducible (first | exact Ext.refl _ _ | assumption | refine Ext.upN ?_ | refine Ext.alloc ?_ _ | refine Ext.drew ?_ | refine Ext.drewN ?_ _ | refine Ext.up1N (by first | omega | simp) ?_) | refine Ext.alloc ?_ _ | refine Ext.setCell ?_ (.inr (by first | omega | simp)) _)))) (G2.out.extN (by (repeat (first | with_reducible (first | exact Ext.refl _ _ | assumption | refine Ext.upN ?_ | refine Ext.alloc ?_ _ | refine Ext.drew ?_ | refine Ext.drewN ?_ _ | refine Ext.up1N (by first | omega | simp) ?_) | refine Ext.alloc ?_ _ | refine Ext.setCell ?_ (.inr (by first | omega | simp)) _)))))))))))
                (refine wpQuiet_nil ?_; intro _ hw'; obtain ⟨xq, hw''⟩ := hw'; subst hw'')
                have HA' : Hid (certsEq l1 l2 = certsEq (l1.drop (i + 1)) (l2.drop (i + 1))) := Go.Lib.hid (by rw [HA.out, HD.out, DQ.out, F0.out, F1.out, F2.out, F3.out]; rfl)
                go_wp2_with fail
                go_roundw
                case rel => exact ⟨i + 1, ⟨_, by (repeat (first | with_reducible (first | exact Ext.refl _ _ | assumption | refine Ext.upN ?_ | refine Ext.alloc ?_ _ | refine Ext.drew ?_ | refine Ext.drewN ?_ _ | refine Ext.up1N (by first | omega | simp) ?_) | refine Ext.alloc ?_ _ | refine Ext.setCell ?_ (.inr (by first | omega | simp)) _))⟩, hlt, by go_num, rfl, HA'⟩
                case measure => simp [intOf]; omega
      · have HA' : Hid (certsEq l1 l2 = true) := Go.Lib.hid (by rw [HA.out, List.drop_eq_nil_of_le (by omega), List.drop_eq_nil_of_le (by have := HL.out; omega)]; rfl)
        go_wp2
        go_ret
        exact ⟨ret_bool HA'.out.symm, by (repeat (first | with_reducible (first | exact Ext.refl _ _ | assumption | refine Ext.upN ?_ | refine Ext.alloc ?_ _ | refine Ext.drew ?_ | refine Ext.drewN ?_ _ | refine Ext.up1N (by first | omega | simp) ?_) | refine Ext.alloc ?_ _ | refine Ext.setCell ?_ (.inr (by first | omega | simp)) _))⟩
  · have HA := Go.Lib.hid (certsEq_len l1 l2 hl)
    have hlb : (l1.length != l2.length) = true := by rw [bne_iff_ne]; exact hl
    have hlb2 : ((l1.length : Int) != (l2.length : Int)) = true := by rw [bne_iff_ne]; omega
    go_enter Try.func43, Try.ntmps43
    go_wp2
    go_ret
    exact ⟨ret_bool HA.out.symm, by (repeat (first | with_reducible (first | exact Ext.refl _ _ | assumption | refine Ext.upN ?_ | refine Ext.alloc ?_ _ | refine Ext.drew ?_ | refine Ext.drewN ?_ _ | refine Ext.up1N (by first | omega | simp) ?_) | refine Ext.alloc ?_ _ | refine Ext.setCell ?_ (.inr (by first | omega | simp)) _))⟩
end Go.Proofs.Ytakbkpklfihfiaa
