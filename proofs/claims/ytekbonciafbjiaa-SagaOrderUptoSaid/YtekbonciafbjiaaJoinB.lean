/- Joined texts: Saga11, Saga12. What each proves stands at its head; no conditions beside those in its theorems. -/
import Derived.Test.YtekbonciafbjiaaJoinA
/- Layer 22: the reference's Whole and Same of rows, Asked; alike. -/
namespace Go.Proofs.Ytekbonciafbjiaa
open Go.RowKit Go.Lib F64
set_option linter.unusedSimpArgs false
set_option linter.unusedVariables false
attribute [local go_sem] run_store_float
attribute [local go_sem low] EW.cellN EW.frozN alloc_cell_or alloc_froz_or
set_option maxHeartbeats 4000000 in
set_option maxRecDepth 100000 in
theorem ref_Whole (c1 s1 k1 : Int) (key1 : ByteArray) (x1 : Nat) (id1 : Int) (c2 s2 k2 : Int) (key2 : ByteArray) (x2 : Nat) (id2 : Int) (w : World) :
    Calls Try.prog 44 #[.agg #[.int .i64 c1, .int .i64 s1, .int .i64 k1, .string key1, .float .f64 x1, .int .i64 id1], .agg #[.int .i64 c2, .int .i64 s2, .int .i64 k2, .string key2, .float .f64 x2, .int .i64 id2]] w fun e w' =>
    e = .returned (.bool (wholeB ⟨c1, s1, ⟨k1, key1, x1, id1⟩⟩ ⟨c2, s2, ⟨k2, key2, x2, id2⟩⟩)) ∧ Ext Non w w' := by
  have DW : Hid (wholeB ⟨c1, s1, ⟨k1, key1, x1, id1⟩⟩ ⟨c2, s2, ⟨k2, key2, x2, id2⟩⟩ = ((c1 == c2) && (s1 == s2) && (k1 == k2) && (key1.toList == key2.toList) && (id1 == id2) && (canonN x1 == canonN x2))) := Go.Lib.hid rfl
  go_enter Try.func44, Try.ntmps44
  go_wp2_with fail
  (refine wp_region_ext_lit (by kernel_rfl) (by kernel_rfl) ?_)
  ((try simp only [Bool.not_true, Bool.not_false, Bool.or_false, Bool.or_true, Bool.false_or, Bool.true_or, Bool.and_true, Bool.true_and, Bool.and_false, Bool.false_and]); (repeat (go_big_quiet_step ((go_at_call 47; exact Calls.ext_eq (ref_Bits _ _))))))
  cases hb0 : (c1 == c2)
  · as_aux_lemma =>
    have G0 := Go.Lib.hid hb0; clear hb0
    ((try simp only [Bool.not_true, Bool.not_false, Bool.or_false, Bool.or_true, Bool.false_or, Bool.true_or, Bool.and_true, Bool.true_and, Bool.and_false, Bool.false_and]); (repeat (go_big_quiet_step ((go_at_call 47; exact Calls.ext_eq (ref_Bits _ _))))))
    (refine wpQuiet_nil ?_; intro _ hw'; obtain ⟨xq, hw''⟩ := hw'; subst hw'')
    go_wp2
    go_ret
    exact ⟨ret_bool (by rw [DW.out, G0.out]; simp), by (repeat (first | with_reducible exact Ext.refl _ _ | assumption | with_reducible refine Ext.upN ?_ | with_reducible refine Ext.alloc ?_ _ | with_reducible refine Ext.upA (by assumption) ?_ | with_reducible refine Ext.upW ?_ | with_reducible refine Ext.drew ?_ | with_reducible refine Ext.drewN ?_ _ | with_reducible refine Ext.upF ?_ | with_reducible refine Ext.upFF (by first | omega | simp) ?_ | with_reducible refine Ext.setCellsF _ _ _ (by first | omega | simp) ?_ | with_reducible refine Ext.setCellF _ _ _ (by first | omega | simp) ?_ | with_reducible refine Ext.upFN (by first | omega | simp) ?_ | with_reducible refine Ext.up1F (by first | omega | simp) ?_ | with_reducible refine Ext.up1N (by first | omega | simp) ?_ | with_reducible refine Ext.setCell ?_ (.inr (by first | omega | simp)) _ | refine Ext.alloc ?_ _ | refine Ext.setCellF _ _ _ (by first | omega | simp) ?_ | refine Ext.setCell ?_ (.inr (by first | omega | simp)) _))⟩
  · have G0 := Go.Lib.hid hb0; clear hb0
    ((try simp only [Bool.not_true, Bool.not_false, Bool.or_false, Bool.or_true, Bool.false_or, Bool.true_or, Bool.and_true, Bool.true_and, Bool.and_false, Bool.false_and]); (repeat (go_big_quiet_step ((go_at_call 47; exact Calls.ext_eq (ref_Bits _ _))))))
    cases hb1 : (s1 == s2)
    · as_aux_lemma =>
      have G1 := Go.Lib.hid hb1; clear hb1
      ((try simp only [Bool.not_true, Bool.not_false, Bool.or_false, Bool.or_true, Bool.false_or, Bool.true_or, Bool.and_true, Bool.true_and, Bool.and_false, Bool.false_and]); (repeat (go_big_quiet_step ((go_at_call 47; exact Calls.ext_eq (ref_Bits _ _))))))
      (refine wpQuiet_nil ?_; intro _ hw'; obtain ⟨xq, hw''⟩ := hw'; subst hw'')
      go_wp2
      go_ret
      exact ⟨ret_bool (by rw [DW.out, G0.out, G1.out]; simp), by (repeat (first | with_reducible exact Ext.refl _ _ | assumption | with_reducible refine Ext.upN ?_ | with_reducible refine Ext.alloc ?_ _ | with_reducible refine Ext.upA (by assumption) ?_ | with_reducible refine Ext.upW ?_ | with_reducible refine Ext.drew ?_ | with_reducible refine Ext.drewN ?_ _ | with_reducible refine Ext.upF ?_ | with_reducible refine Ext.upFF (by first | omega | simp) ?_ | with_reducible refine Ext.setCellsF _ _ _ (by first | omega | simp) ?_ | with_reducible refine Ext.setCellF _ _ _ (by first | omega | simp) ?_ | with_reducible refine Ext.upFN (by first | omega | simp) ?_ | with_reducible refine Ext.up1F (by first | omega | simp) ?_ | with_reducible refine Ext.up1N (by first | omega | simp) ?_ | with_reducible refine Ext.setCell ?_ (.inr (by first | omega | simp)) _ | refine Ext.alloc ?_ _ | refine Ext.setCellF _ _ _ (by first | omega | simp) ?_ | refine Ext.setCell ?_ (.inr (by first | omega | simp)) _))⟩
    · have G1 := Go.Lib.hid hb1; clear hb1
      ((try simp only [Bool.not_true, Bool.not_false, Bool.or_false, Bool.or_true, Bool.false_or, Bool.true_or, Bool.and_true, Bool.true_and, Bool.and_false, Bool.false_and]); (repeat (go_big_quiet_step ((go_at_call 47; exact Calls.ext_eq (ref_Bits _ _))))))
      cases hb2 : (k1 == k2)
      · as_aux_lemma =>
        have G2 := Go.Lib.hid hb2; clear hb2
        ((try simp only [Bool.not_true, Bool.not_false, Bool.or_false, Bool.or_true, Bool.false_or, Bool.true_or, Bool.and_true, Bool.true_and, Bool.and_false, Bool.false_and]); (repeat (go_big_quiet_step ((go_at_call 47; exact Calls.ext_eq (ref_Bits _ _))))))
        (refine wpQuiet_nil ?_; intro _ hw'; obtain ⟨xq, hw''⟩ := hw'; subst hw'')
        go_wp2
        go_ret
        exact ⟨ret_bool (by rw [DW.out, G0.out, G1.out, G2.out]; simp), by (repeat (first | with_reducible exact Ext.refl _ _ | assumption | with_reducible refine Ext.upN ?_ | with_reducible refine Ext.alloc ?_ _ | with_reducible refine Ext.upA (by assumption) ?_ | with_reducible refine Ext.upW ?_ | with_reducible refine Ext.drew ?_ | with_reducible refine Ext.drewN ?_ _ | with_reducible refine Ext.upF ?_ | with_reducible refine Ext.upFF (by first | omega | simp) ?_ | with_reducible refine Ext.setCellsF _ _ _ (by first | omega | simp) ?_ | with_reducible refine Ext.setCellF _ _ _ (by first | omega | simp) ?_ | with_reducible refine Ext.upFN (by first | omega | simp) ?_ | with_reducible refine Ext.up1F (by first | omega | simp) ?_ | with_reducible refine Ext.up1N (by first | omega | simp) ?_ | with_reducible refine Ext.setCell ?_ (.inr (by first | omega | simp)) _ | refine Ext.alloc ?_ _ | refine Ext.setCellF _ _ _ (by first | omega | simp) ?_ | refine Ext.setCell ?_ (.inr (by first | omega | simp)) _))⟩
      · have G2 := Go.Lib.hid hb2; clear hb2
        ((try simp only [Bool.not_true, Bool.not_false, Bool.or_false, Bool.or_true, Bool.false_or, Bool.true_or, Bool.and_true, Bool.true_and, Bool.and_false, Bool.false_and]); (repeat (go_big_quiet_step ((go_at_call 47; exact Calls.ext_eq (ref_Bits _ _))))))
        cases hb3 : (key1.toList == key2.toList)
        · as_aux_lemma =>
          have G3 := Go.Lib.hid hb3; clear hb3
          ((try simp only [Bool.not_true, Bool.not_false, Bool.or_false, Bool.or_true, Bool.false_or, Bool.true_or, Bool.and_true, Bool.true_and, Bool.and_false, Bool.false_and]); (repeat (go_big_quiet_step ((go_at_call 47; exact Calls.ext_eq (ref_Bits _ _))))))
          (refine wpQuiet_nil ?_; intro _ hw'; obtain ⟨xq, hw''⟩ := hw'; subst hw'')
          go_wp2
          go_ret
          exact ⟨ret_bool (by rw [DW.out, G0.out, G1.out, G2.out, G3.out]; simp), by (repeat (first | with_reducible exact Ext.refl _ _ | assumption | with_reducible refine Ext.upN ?_ | with_reducible refine Ext.alloc ?_ _ | with_reducible refine Ext.upA (by assumption) ?_ | with_reducible refine Ext.upW ?_ | with_reducible refine Ext.drew ?_ | with_reducible refine Ext.drewN ?_ _ | with_reducible refine Ext.upF ?_ | with_reducible refine Ext.upFF (by first | omega | simp) ?_ | with_reducible refine Ext.setCellsF _ _ _ (by first | omega | simp) ?_ | with_reducible refine Ext.setCellF _ _ _ (by first | omega | simp) ?_ | with_reducible refine Ext.upFN (by first | omega | simp) ?_ | with_reducible refine Ext.up1F (by first | omega | simp) ?_ | with_reducible refine Ext.up1N (by first | omega | simp) ?_ | with_reducible refine Ext.setCell ?_ (.inr (by first | omega | simp)) _ | refine Ext.alloc ?_ _ | refine Ext.setCellF _ _ _ (by first | omega | simp) ?_ | refine Ext.setCell ?_ (.inr (by first | omega | simp)) _))⟩
        · have G3 := Go.Lib.hid hb3; clear hb3
          ((try simp only [Bool.not_true, Bool.not_false, Bool.or_false, Bool.or_true, Bool.false_or, Bool.true_or, Bool.and_true, Bool.true_and, Bool.and_false, Bool.false_and]); (repeat (go_big_quiet_step ((go_at_call 47; exact Calls.ext_eq (ref_Bits _ _))))))
          cases hb4 : (id1 == id2)
          · as_aux_lemma =>
            have G4 := Go.Lib.hid hb4; clear hb4
            ((try simp only [Bool.not_true, Bool.not_false, Bool.or_false, Bool.or_true, Bool.false_or, Bool.true_or, Bool.and_true, Bool.true_and, Bool.and_false, Bool.false_and]); (repeat (go_big_quiet_step ((go_at_call 47; exact Calls.ext_eq (ref_Bits _ _))))))
            (refine wpQuiet_nil ?_; intro _ hw'; obtain ⟨xq, hw''⟩ := hw'; subst hw'')
            go_wp2
            go_ret
            exact ⟨ret_bool (by rw [DW.out, G0.out, G1.out, G2.out, G3.out, G4.out]; simp), by (repeat (first | with_reducible exact Ext.refl _ _ | assumption | with_reducible refine Ext.upN ?_ | with_reducible refine Ext.alloc ?_ _ | with_reducible refine Ext.upA (by assumption) ?_ | with_reducible refine Ext.upW ?_ | with_reducible refine Ext.drew ?_ | with_reducible refine Ext.drewN ?_ _ | with_reducible refine Ext.upF ?_ | with_reducible refine Ext.upFF (by first | omega | simp) ?_ | with_reducible refine Ext.setCellsF _ _ _ (by first | omega | simp) ?_ | with_reducible refine Ext.setCellF _ _ _ (by first | omega | simp) ?_ | with_reducible refine Ext.upFN (by first | omega | simp) ?_ | with_reducible refine Ext.up1F (by first | omega | simp) ?_ | with_reducible refine Ext.up1N (by first | omega | simp) ?_ | with_reducible refine Ext.setCell ?_ (.inr (by first | omega | simp)) _ | refine Ext.alloc ?_ _ | refine Ext.setCellF _ _ _ (by first | omega | simp) ?_ | refine Ext.setCell ?_ (.inr (by first | omega | simp)) _))⟩
          · have G4 := Go.Lib.hid hb4; clear hb4
            ((try simp only [Bool.not_true, Bool.not_false, Bool.or_false, Bool.or_true, Bool.false_or, Bool.true_or, Bool.and_true, Bool.true_and, Bool.and_false, Bool.false_and]); (repeat (go_big_quiet_step ((go_at_call 47; exact Calls.ext_eq (ref_Bits _ _))))))
            (refine wpQuiet_nil ?_; intro _ hw'; obtain ⟨xq, hw''⟩ := hw'; subst hw'')
            go_wp2
            go_ret
            exact ⟨ret_bool (by rw [DW.out, G0.out, G1.out, G2.out, G3.out, G4.out]; rw [Bool.eq_iff_iff]; simp [Int.natCast_inj]), by (repeat (first | with_reducible exact Ext.refl _ _ | assumption | with_reducible refine Ext.upN ?_ | with_reducible refine Ext.alloc ?_ _ | with_reducible refine Ext.upA (by assumption) ?_ | with_reducible refine Ext.upW ?_ | with_reducible refine Ext.drew ?_ | with_reducible refine Ext.drewN ?_ _ | with_reducible refine Ext.upF ?_ | with_reducible refine Ext.upFF (by first | omega | simp) ?_ | with_reducible refine Ext.setCellsF _ _ _ (by first | omega | simp) ?_ | with_reducible refine Ext.setCellF _ _ _ (by first | omega | simp) ?_ | with_reducible refine Ext.upFN (by first | omega | simp) ?_ | with_reducible refine Ext.up1F (by first | omega | simp) ?_ | with_reducible refine Ext.up1N (by first | omega | simp) ?_ | with_reducible refine Ext.setCell ?_ (.inr (by first | omega | simp)) _ | refine Ext.alloc ?_ _ | refine Ext.setCellF _ _ _ (by first | omega | simp) ?_ | refine Ext.setCell ?_ (.inr (by first | omega | simp)) _))⟩
def allW : List Req → List Req → Bool
  | [], [] => true
  | x :: xs, y :: ys => wholeB x y && allW xs ys
  | _, _ => false
theorem allW_self : ∀ l, allW l l = true
  | [] => rfl
  | x :: xs => by unfold allW; rw [wholeB_self, allW_self xs]; rfl
theorem allW_drop (a b : List Req) (i : Nat) (h : i < a.length) (h' : i < b.length) : allW (a.drop i) (b.drop i) = (wholeB a[i] b[i] && allW (a.drop (i + 1)) (b.drop (i + 1))) := by
  rw [List.drop_eq_getElem_cons h, List.drop_eq_getElem_cons h']; rfl
theorem allW_len : ∀ a b, a.length ≠ b.length → allW a b = false
  | [], [], h => absurd rfl h
  | [], _ :: _, _ => rfl
  | _ :: _, [], _ => rfl
  | x :: xs, y :: ys, h => by unfold allW; rw [allW_len xs ys (by simpa using h)]; simp
set_option maxHeartbeats 4000000 in
set_option maxRecDepth 100000 in
theorem ref16_Same (a1 : Option Addr) (c1 : Nat) (l1 : List Req) (a2 : Option Addr) (c2 : Nat) (l2 : List Req) (w : World) (h1 : Reqs w a1 c1 l1) (h2 : Reqs w a2 c2 l2) :
    Calls Try.prog 21 #[.slice a1 l1.length c1, .slice a2 l2.length c2] w fun e w' => e = .returned (.bool (allW l1 l2)) ∧ Ext Non w w' := by
  have H1 := Go.Lib.hid h1; have H2 := Go.Lib.hid h2
  have s1 := h1.small; have e1 := h1.le; have s2 := h2.small; have e2 := h2.le
  clear h1 h2
  by_cases hl : l1.length = l2.length
  · have HL := Go.Lib.hid hl
    have hlb : (l1.length != l2.length) = false := by rw [bne_eq_false_iff_eq]; exact hl
    have hlb2 : ((l1.length : Int) != (l2.length : Int)) = false := by rw [bne_eq_false_iff_eq]; omega
    clear hl
    go_enter Try.func21, Try.ntmps21
    go_wp2_with fail
    go_loopw [5] (fun iv wr => ∃ (i : Nat) (z : EW Non w), i ≤ l1.length ∧ iv = .int .i64 i ∧ wr = z.on ∧ Hid (allW l1 l2 = allW (l1.drop i) (l2.drop i))) (fun iv _ => l1.length - (intOf iv).toNat)
    case atStart => exact ⟨0, ⟨_, by (repeat (first | with_reducible exact Ext.refl _ _ | assumption | with_reducible refine Ext.upN ?_ | with_reducible refine Ext.alloc ?_ _ | with_reducible refine Ext.upA (by assumption) ?_ | with_reducible refine Ext.upW ?_ | with_reducible refine Ext.drew ?_ | with_reducible refine Ext.drewN ?_ _ | with_reducible refine Ext.upF ?_ | with_reducible refine Ext.upFF (by first | omega | simp) ?_ | with_reducible refine Ext.setCellsF _ _ _ (by first | omega | simp) ?_ | with_reducible refine Ext.setCellF _ _ _ (by first | omega | simp) ?_ | with_reducible refine Ext.upFN (by first | omega | simp) ?_ | with_reducible refine Ext.up1F (by first | omega | simp) ?_ | with_reducible refine Ext.up1N (by first | omega | simp) ?_ | with_reducible refine Ext.setCell ?_ (.inr (by first | omega | simp)) _ | refine Ext.alloc ?_ _ | refine Ext.setCellF _ _ _ (by first | omega | simp) ?_ | refine Ext.setCell ?_ (.inr (by first | omega | simp)) _))⟩, Nat.zero_le _, rfl, rfl, Go.Lib.hid rfl⟩
    case round =>
      obtain ⟨i, z, hi, rfl, rfl, HA⟩ := hrel
      by_cases hlt : i < l1.length
      · have hlt2 : i < l2.length := by have := HL.out; omega
        obtain ⟨b1, o1, rfl, hb1, k1⟩ := H1.out.at_ i hlt
        obtain ⟨b2, o2, rfl, hb2, k2⟩ := H2.out.at_ i hlt2
        have HD := Go.Lib.hid (allW_drop l1 l2 i hlt hlt2)
        generalize l1[i] = q1 at *
        generalize l2[i] = q2 at *
        obtain ⟨rc, rs, ⟨rk, rkey, rx, rid⟩⟩ := q1
        obtain ⟨tc, ts, ⟨tk, tkey, tx, tid⟩⟩ := q2
        have p0 : w.cell? ⟨b1, o1 + i * 6, none⟩ = some (.int .i64 rc) := k1 0 _ rfl
        have p1 : w.cell? ⟨b1, o1 + i * 6 + 1, none⟩ = some (.int .i64 rs) := k1 1 _ rfl
        have p2 : w.cell? ⟨b1, o1 + i * 6 + 2, none⟩ = some (.int .i64 rk) := k1 2 _ rfl
        have p3 : w.cell? ⟨b1, o1 + i * 6 + 3, none⟩ = some (.string rkey) := k1 3 _ rfl
        have p4 : w.cell? ⟨b1, o1 + i * 6 + 4, none⟩ = some (.float .f64 rx) := k1 4 _ rfl
        have p5 : w.cell? ⟨b1, o1 + i * 6 + 5, none⟩ = some (.int .i64 rid) := k1 5 _ rfl
        have t0 : w.cell? ⟨b2, o2 + i * 6, none⟩ = some (.int .i64 tc) := k2 0 _ rfl
        have t1 : w.cell? ⟨b2, o2 + i * 6 + 1, none⟩ = some (.int .i64 ts) := k2 1 _ rfl
        have t2 : w.cell? ⟨b2, o2 + i * 6 + 2, none⟩ = some (.int .i64 tk) := k2 2 _ rfl
        have t3 : w.cell? ⟨b2, o2 + i * 6 + 3, none⟩ = some (.string tkey) := k2 3 _ rfl
        have t4 : w.cell? ⟨b2, o2 + i * 6 + 4, none⟩ = some (.float .f64 tx) := k2 4 _ rfl
        have t5 : w.cell? ⟨b2, o2 + i * 6 + 5, none⟩ = some (.int .i64 tid) := k2 5 _ rfl
        have hi2 : (i : Int) < (l2.length : Int) := by omega
        clear k1 k2
        go_upto_region 6 with fail
        (refine wp_region_ext_lit (by kernel_rfl) (by kernel_rfl) ?_)
        ((try simp only [Bool.not_true, Bool.not_false, Bool.or_false, Bool.or_true, Bool.false_or, Bool.true_or, Bool.and_true, Bool.true_and, Bool.and_false, Bool.false_and]); (repeat (go_big_quiet_step ((go_at_call 44; exact Calls.ext_of (ref_Whole rc rs rk rkey rx rid tc ts tk tkey tx tid _))))))
        cases hw : wholeB ⟨rc, rs, ⟨rk, rkey, rx, rid⟩⟩ ⟨tc, ts, ⟨tk, tkey, tx, tid⟩⟩
        · as_aux_lemma =>
          have HW := Go.Lib.hid hw; clear hw
          ((try simp only [Bool.not_true, Bool.not_false, Bool.or_false, Bool.or_true, Bool.false_or, Bool.true_or, Bool.and_true, Bool.true_and, Bool.and_false, Bool.false_and]); (repeat (go_big_quiet_step (fail))))
          (refine wpQuiet_nil ?_; intro _ hw'; obtain ⟨xq, hw''⟩ := hw'; subst hw'')
          go_wp2
          go_ret
          exact ⟨ret_bool (by rw [HA.out, HD.out, HW.out]; rfl), by (repeat (first | with_reducible exact Ext.refl _ _ | assumption | with_reducible refine Ext.upN ?_ | with_reducible refine Ext.alloc ?_ _ | with_reducible refine Ext.upA (by assumption) ?_ | with_reducible refine Ext.upW ?_ | with_reducible refine Ext.drew ?_ | with_reducible refine Ext.drewN ?_ _ | with_reducible refine Ext.upF ?_ | with_reducible refine Ext.upFF (by first | omega | simp) ?_ | with_reducible refine Ext.setCellsF _ _ _ (by first | omega | simp) ?_ | with_reducible refine Ext.setCellF _ _ _ (by first | omega | simp) ?_ | with_reducible refine Ext.upFN (by first | omega | simp) ?_ | with_reducible refine Ext.up1F (by first | omega | simp) ?_ | with_reducible refine Ext.up1N (by first | omega | simp) ?_ | with_reducible refine Ext.setCell ?_ (.inr (by first | omega | simp)) _ | refine Ext.alloc ?_ _ | refine Ext.setCellF _ _ _ (by first | omega | simp) ?_ | refine Ext.setCell ?_ (.inr (by first | omega | simp)) _))⟩
        · have HW := Go.Lib.hid hw; clear hw
          ((try simp only [Bool.not_true, Bool.not_false, Bool.or_false, Bool.or_true, Bool.false_or, Bool.true_or, Bool.and_true, Bool.true_and, Bool.and_false, Bool.false_and]); (repeat (go_big_quiet_step (fail))))
          (refine wpQuiet_nil ?_; intro _ hw'; obtain ⟨xq, hw''⟩ := hw'; subst hw'')
          have HA' : Hid (allW l1 l2 = allW (l1.drop (i + 1)) (l2.drop (i + 1))) := Go.Lib.hid (by rw [HA.out, HD.out, HW.out]; rfl)
          go_wp2_with fail
          go_roundw
          case rel => exact ⟨i + 1, ⟨_, by (repeat (first | with_reducible exact Ext.refl _ _ | assumption | with_reducible refine Ext.upN ?_ | with_reducible refine Ext.alloc ?_ _ | with_reducible refine Ext.upA (by assumption) ?_ | with_reducible refine Ext.upW ?_ | with_reducible refine Ext.drew ?_ | with_reducible refine Ext.drewN ?_ _ | with_reducible refine Ext.upF ?_ | with_reducible refine Ext.upFF (by first | omega | simp) ?_ | with_reducible refine Ext.setCellsF _ _ _ (by first | omega | simp) ?_ | with_reducible refine Ext.setCellF _ _ _ (by first | omega | simp) ?_ | with_reducible refine Ext.upFN (by first | omega | simp) ?_ | with_reducible refine Ext.up1F (by first | omega | simp) ?_ | with_reducible refine Ext.up1N (by first | omega | simp) ?_ | with_reducible refine Ext.setCell ?_ (.inr (by first | omega | simp)) _ | refine Ext.alloc ?_ _ | refine Ext.setCellF _ _ _ (by first | omega | simp) ?_ | refine Ext.setCell ?_ (.inr (by first | omega | simp)) _))⟩, hlt, by go_num, rfl, HA'⟩
          case measure => simp [intOf]; omega
      · have HA' : Hid (allW l1 l2 = true) := Go.Lib.hid (by rw [HA.out, List.drop_eq_nil_of_le (by omega), List.drop_eq_nil_of_le (by have := HL.out; omega)]; rfl)
        go_wp2
        go_ret
        exact ⟨ret_bool HA'.out.symm, by (repeat (first | with_reducible exact Ext.refl _ _ | assumption | with_reducible refine Ext.upN ?_ | with_reducible refine Ext.alloc ?_ _ | with_reducible refine Ext.upA (by assumption) ?_ | with_reducible refine Ext.upW ?_ | with_reducible refine Ext.drew ?_ | with_reducible refine Ext.drewN ?_ _ | with_reducible refine Ext.upF ?_ | with_reducible refine Ext.upFF (by first | omega | simp) ?_ | with_reducible refine Ext.setCellsF _ _ _ (by first | omega | simp) ?_ | with_reducible refine Ext.setCellF _ _ _ (by first | omega | simp) ?_ | with_reducible refine Ext.upFN (by first | omega | simp) ?_ | with_reducible refine Ext.up1F (by first | omega | simp) ?_ | with_reducible refine Ext.up1N (by first | omega | simp) ?_ | with_reducible refine Ext.setCell ?_ (.inr (by first | omega | simp)) _ | refine Ext.alloc ?_ _ | refine Ext.setCellF _ _ _ (by first | omega | simp) ?_ | refine Ext.setCell ?_ (.inr (by first | omega | simp)) _))⟩
  · have HA := Go.Lib.hid (allW_len l1 l2 hl)
    have hlb : (l1.length != l2.length) = true := by rw [bne_iff_ne]; exact hl
    have hlb2 : ((l1.length : Int) != (l2.length : Int)) = true := by rw [bne_iff_ne]; omega
    go_enter Try.func21, Try.ntmps21
    go_wp2
    go_ret
    exact ⟨ret_bool HA.out.symm, by (repeat (first | with_reducible exact Ext.refl _ _ | assumption | with_reducible refine Ext.upN ?_ | with_reducible refine Ext.alloc ?_ _ | with_reducible refine Ext.upA (by assumption) ?_ | with_reducible refine Ext.upW ?_ | with_reducible refine Ext.drew ?_ | with_reducible refine Ext.drewN ?_ _ | with_reducible refine Ext.upF ?_ | with_reducible refine Ext.upFF (by first | omega | simp) ?_ | with_reducible refine Ext.setCellsF _ _ _ (by first | omega | simp) ?_ | with_reducible refine Ext.setCellF _ _ _ (by first | omega | simp) ?_ | with_reducible refine Ext.upFN (by first | omega | simp) ?_ | with_reducible refine Ext.up1F (by first | omega | simp) ?_ | with_reducible refine Ext.up1N (by first | omega | simp) ?_ | with_reducible refine Ext.setCell ?_ (.inr (by first | omega | simp)) _ | refine Ext.alloc ?_ _ | refine Ext.setCellF _ _ _ (by first | omega | simp) ?_ | refine Ext.setCell ?_ (.inr (by first | omega | simp)) _))⟩
end Go.Proofs.Ytekbonciafbjiaa

/- Layer 22: alike; the reference's Asked. -/
namespace Go.Proofs.Ytekbonciafbjiaa
open Go.RowKit Go.Lib F64
set_option linter.unusedSimpArgs false
set_option linter.unusedVariables false
attribute [local go_sem] run_store_float
attribute [local go_sem low] EW.cellN EW.frozN alloc_cell_or alloc_froz_or
/-- The same by their texts, one by one. -/
def allT : List Req → List Req → Bool
  | [], [] => true
  | x :: xs, y :: ys => sameT x y && allT xs ys
  | _, _ => false
theorem allT_self : ∀ l : List Req, (∀ r ∈ l, askedB r = true) → allT l l = true
  | [], _ => rfl
  | x :: xs, h => by unfold allT; rw [sameT_self (h x List.mem_cons_self), allT_self xs (fun r hr => h r (List.mem_cons_of_mem _ hr))]; rfl
theorem allT_drop (a b : List Req) (i : Nat) (h : i < a.length) (h' : i < b.length) : allT (a.drop i) (b.drop i) = (sameT a[i] b[i] && allT (a.drop (i + 1)) (b.drop (i + 1))) := by
  rw [List.drop_eq_getElem_cons h, List.drop_eq_getElem_cons h']; rfl
theorem allT_len : ∀ a b, a.length ≠ b.length → allT a b = false
  | [], [], h => absurd rfl h
  | [], _ :: _, _ => rfl
  | _ :: _, [], _ => rfl
  | x :: xs, y :: ys, h => by unfold allT; rw [allT_len xs ys (by simpa using h)]; simp
set_option maxHeartbeats 4000000 in
set_option maxRecDepth 100000 in
theorem law22_alike (a1 : Option Addr) (c1 : Nat) (l1 : List Req) (a2 : Option Addr) (c2 : Nat) (l2 : List Req) (ok1 : ∀ r ∈ l1, ReqOk r) (ok2 : ∀ r ∈ l2, ReqOk r) (w : World) (h1 : Reqs w a1 c1 l1) (h2 : Reqs w a2 c2 l2) :
    Calls Try.prog 22 #[.slice a1 l1.length c1, .slice a2 l2.length c2] w fun e w' => e = .returned (.bool (allT l1 l2)) ∧ Ext Non w w' := by
  have K1 := Go.Lib.hid ok1; have K2 := Go.Lib.hid ok2
  clear ok1 ok2
  have H1 := Go.Lib.hid h1; have H2 := Go.Lib.hid h2
  have s1 := h1.small; have e1 := h1.le; have s2 := h2.small; have e2 := h2.le
  clear h1 h2
  by_cases hl : l1.length = l2.length
  · have HL := Go.Lib.hid hl
    have hlb : (l1.length != l2.length) = false := by rw [bne_eq_false_iff_eq]; exact hl
    have hlb2 : ((l1.length : Int) != (l2.length : Int)) = false := by rw [bne_eq_false_iff_eq]; omega
    clear hl
    go_enter Try.func22, Try.ntmps22
    go_wp2_with fail
    go_loopw [5] (fun iv wr => ∃ (i : Nat) (z : EW Non w), i ≤ l1.length ∧ iv = .int .i64 i ∧ wr = z.on ∧ Hid (allT l1 l2 = allT (l1.drop i) (l2.drop i))) (fun iv _ => l1.length - (intOf iv).toNat)
    case atStart => exact ⟨0, ⟨_, by (repeat (first | with_reducible exact Ext.refl _ _ | assumption | with_reducible refine Ext.upN ?_ | with_reducible refine Ext.alloc ?_ _ | with_reducible refine Ext.upA (by assumption) ?_ | with_reducible refine Ext.upW ?_ | with_reducible refine Ext.drew ?_ | with_reducible refine Ext.drewN ?_ _ | with_reducible refine Ext.upF ?_ | with_reducible refine Ext.upFF (by first | omega | simp) ?_ | with_reducible refine Ext.setCellsF _ _ _ (by first | omega | simp) ?_ | with_reducible refine Ext.setCellF _ _ _ (by first | omega | simp) ?_ | with_reducible refine Ext.upFN (by first | omega | simp) ?_ | with_reducible refine Ext.up1F (by first | omega | simp) ?_ | with_reducible refine Ext.up1N (by first | omega | simp) ?_ | with_reducible refine Ext.setCell ?_ (.inr (by first | omega | simp)) _ | refine Ext.alloc ?_ _ | refine Ext.setCellF _ _ _ (by first | omega | simp) ?_ | refine Ext.setCell ?_ (.inr (by first | omega | simp)) _))⟩, Nat.zero_le _, rfl, rfl, Go.Lib.hid rfl⟩
    case round =>
      obtain ⟨i, z, hi, rfl, rfl, HA⟩ := hrel
      by_cases hlt : i < l1.length
      · have hlt2 : i < l2.length := by have := HL.out; omega
        obtain ⟨b1, o1, rfl, hb1, k1⟩ := H1.out.at_ i hlt
        obtain ⟨b2, o2, rfl, hb2, k2⟩ := H2.out.at_ i hlt2
        have HD := Go.Lib.hid (allT_drop l1 l2 i hlt hlt2)
        have R1 := Go.Lib.hid (K1.out _ (List.getElem_mem hlt)); have R2 := Go.Lib.hid (K2.out _ (List.getElem_mem hlt2))
        generalize l1[i] = q1 at *
        generalize l2[i] = q2 at *
        obtain ⟨rc, rs, ⟨rk, rkey, rx, rid⟩⟩ := q1
        obtain ⟨tc, ts, ⟨tk, tkey, tx, tid⟩⟩ := q2
        have p0 : w.cell? ⟨b1, o1 + i * 6, none⟩ = some (.int .i64 rc) := k1 0 _ rfl
        have p1 : w.cell? ⟨b1, o1 + i * 6 + 1, none⟩ = some (.int .i64 rs) := k1 1 _ rfl
        have p2 : w.cell? ⟨b1, o1 + i * 6 + 2, none⟩ = some (.int .i64 rk) := k1 2 _ rfl
        have p3 : w.cell? ⟨b1, o1 + i * 6 + 3, none⟩ = some (.string rkey) := k1 3 _ rfl
        have p4 : w.cell? ⟨b1, o1 + i * 6 + 4, none⟩ = some (.float .f64 rx) := k1 4 _ rfl
        have p5 : w.cell? ⟨b1, o1 + i * 6 + 5, none⟩ = some (.int .i64 rid) := k1 5 _ rfl
        have t0 : w.cell? ⟨b2, o2 + i * 6, none⟩ = some (.int .i64 tc) := k2 0 _ rfl
        have t1 : w.cell? ⟨b2, o2 + i * 6 + 1, none⟩ = some (.int .i64 ts) := k2 1 _ rfl
        have t2 : w.cell? ⟨b2, o2 + i * 6 + 2, none⟩ = some (.int .i64 tk) := k2 2 _ rfl
        have t3 : w.cell? ⟨b2, o2 + i * 6 + 3, none⟩ = some (.string tkey) := k2 3 _ rfl
        have t4 : w.cell? ⟨b2, o2 + i * 6 + 4, none⟩ = some (.float .f64 tx) := k2 4 _ rfl
        have t5 : w.cell? ⟨b2, o2 + i * 6 + 5, none⟩ = some (.int .i64 tid) := k2 5 _ rfl
        have hi2 : (i : Int) < (l2.length : Int) := by omega
        clear k1 k2
        go_upto_region 6 with fail
        (refine wp_region_ext_lit (by kernel_rfl) (by kernel_rfl) ?_)
        ((try simp only [Bool.not_true, Bool.not_false, Bool.or_false, Bool.or_true, Bool.false_or, Bool.true_or, Bool.and_true, Bool.true_and, Bool.and_false, Bool.false_and]); (repeat (go_big_quiet_step ((go_at_call 15; exact Calls.ext_of (ref11_Same rc rs rk rkey rx rid tc ts tk tkey tx tid R1.out R2.out _))))))
        cases hw : sameT ⟨rc, rs, ⟨rk, rkey, rx, rid⟩⟩ ⟨tc, ts, ⟨tk, tkey, tx, tid⟩⟩
        · as_aux_lemma =>
          have HW := Go.Lib.hid hw; clear hw
          ((try simp only [Bool.not_true, Bool.not_false, Bool.or_false, Bool.or_true, Bool.false_or, Bool.true_or, Bool.and_true, Bool.true_and, Bool.and_false, Bool.false_and]); (repeat (go_big_quiet_step (fail))))
          (refine wpQuiet_nil ?_; intro _ hw'; obtain ⟨xq, hw''⟩ := hw'; subst hw'')
          go_wp2
          go_ret
          exact ⟨ret_bool (by rw [HA.out, HD.out, HW.out]; rfl), by (repeat (first | with_reducible exact Ext.refl _ _ | assumption | with_reducible refine Ext.upN ?_ | with_reducible refine Ext.alloc ?_ _ | with_reducible refine Ext.upA (by assumption) ?_ | with_reducible refine Ext.upW ?_ | with_reducible refine Ext.drew ?_ | with_reducible refine Ext.drewN ?_ _ | with_reducible refine Ext.upF ?_ | with_reducible refine Ext.upFF (by first | omega | simp) ?_ | with_reducible refine Ext.setCellsF _ _ _ (by first | omega | simp) ?_ | with_reducible refine Ext.setCellF _ _ _ (by first | omega | simp) ?_ | with_reducible refine Ext.upFN (by first | omega | simp) ?_ | with_reducible refine Ext.up1F (by first | omega | simp) ?_ | with_reducible refine Ext.up1N (by first | omega | simp) ?_ | with_reducible refine Ext.setCell ?_ (.inr (by first | omega | simp)) _ | refine Ext.alloc ?_ _ | refine Ext.setCellF _ _ _ (by first | omega | simp) ?_ | refine Ext.setCell ?_ (.inr (by first | omega | simp)) _))⟩
        · have HW := Go.Lib.hid hw; clear hw
          ((try simp only [Bool.not_true, Bool.not_false, Bool.or_false, Bool.or_true, Bool.false_or, Bool.true_or, Bool.and_true, Bool.true_and, Bool.and_false, Bool.false_and]); (repeat (go_big_quiet_step (fail))))
          (refine wpQuiet_nil ?_; intro _ hw'; obtain ⟨xq, hw''⟩ := hw'; subst hw'')
          have HA' : Hid (allT l1 l2 = allT (l1.drop (i + 1)) (l2.drop (i + 1))) := Go.Lib.hid (by rw [HA.out, HD.out, HW.out]; rfl)
          go_wp2_with fail
          go_roundw
          case rel => exact ⟨i + 1, ⟨_, by (repeat (first | with_reducible exact Ext.refl _ _ | assumption | with_reducible refine Ext.upN ?_ | with_reducible refine Ext.alloc ?_ _ | with_reducible refine Ext.upA (by assumption) ?_ | with_reducible refine Ext.upW ?_ | with_reducible refine Ext.drew ?_ | with_reducible refine Ext.drewN ?_ _ | with_reducible refine Ext.upF ?_ | with_reducible refine Ext.upFF (by first | omega | simp) ?_ | with_reducible refine Ext.setCellsF _ _ _ (by first | omega | simp) ?_ | with_reducible refine Ext.setCellF _ _ _ (by first | omega | simp) ?_ | with_reducible refine Ext.upFN (by first | omega | simp) ?_ | with_reducible refine Ext.up1F (by first | omega | simp) ?_ | with_reducible refine Ext.up1N (by first | omega | simp) ?_ | with_reducible refine Ext.setCell ?_ (.inr (by first | omega | simp)) _ | refine Ext.alloc ?_ _ | refine Ext.setCellF _ _ _ (by first | omega | simp) ?_ | refine Ext.setCell ?_ (.inr (by first | omega | simp)) _))⟩, hlt, by go_num, rfl, HA'⟩
          case measure => simp [intOf]; omega
      · have HA' : Hid (allT l1 l2 = true) := Go.Lib.hid (by rw [HA.out, List.drop_eq_nil_of_le (by omega), List.drop_eq_nil_of_le (by have := HL.out; omega)]; rfl)
        go_wp2
        go_ret
        exact ⟨ret_bool HA'.out.symm, by (repeat (first | with_reducible exact Ext.refl _ _ | assumption | with_reducible refine Ext.upN ?_ | with_reducible refine Ext.alloc ?_ _ | with_reducible refine Ext.upA (by assumption) ?_ | with_reducible refine Ext.upW ?_ | with_reducible refine Ext.drew ?_ | with_reducible refine Ext.drewN ?_ _ | with_reducible refine Ext.upF ?_ | with_reducible refine Ext.upFF (by first | omega | simp) ?_ | with_reducible refine Ext.setCellsF _ _ _ (by first | omega | simp) ?_ | with_reducible refine Ext.setCellF _ _ _ (by first | omega | simp) ?_ | with_reducible refine Ext.upFN (by first | omega | simp) ?_ | with_reducible refine Ext.up1F (by first | omega | simp) ?_ | with_reducible refine Ext.up1N (by first | omega | simp) ?_ | with_reducible refine Ext.setCell ?_ (.inr (by first | omega | simp)) _ | refine Ext.alloc ?_ _ | refine Ext.setCellF _ _ _ (by first | omega | simp) ?_ | refine Ext.setCell ?_ (.inr (by first | omega | simp)) _))⟩
  · have HA := Go.Lib.hid (allT_len l1 l2 hl)
    have hlb : (l1.length != l2.length) = true := by rw [bne_iff_ne]; exact hl
    have hlb2 : ((l1.length : Int) != (l2.length : Int)) = true := by rw [bne_iff_ne]; omega
    go_enter Try.func22, Try.ntmps22
    go_wp2
    go_ret
    exact ⟨ret_bool HA.out.symm, by (repeat (first | with_reducible exact Ext.refl _ _ | assumption | with_reducible refine Ext.upN ?_ | with_reducible refine Ext.alloc ?_ _ | with_reducible refine Ext.upA (by assumption) ?_ | with_reducible refine Ext.upW ?_ | with_reducible refine Ext.drew ?_ | with_reducible refine Ext.drewN ?_ _ | with_reducible refine Ext.upF ?_ | with_reducible refine Ext.upFF (by first | omega | simp) ?_ | with_reducible refine Ext.setCellsF _ _ _ (by first | omega | simp) ?_ | with_reducible refine Ext.setCellF _ _ _ (by first | omega | simp) ?_ | with_reducible refine Ext.upFN (by first | omega | simp) ?_ | with_reducible refine Ext.up1F (by first | omega | simp) ?_ | with_reducible refine Ext.up1N (by first | omega | simp) ?_ | with_reducible refine Ext.setCell ?_ (.inr (by first | omega | simp)) _ | refine Ext.alloc ?_ _ | refine Ext.setCellF _ _ _ (by first | omega | simp) ?_ | refine Ext.setCell ?_ (.inr (by first | omega | simp)) _))⟩
theorem ref13_Asked (c s k : Int) (key : ByteArray) (x : Nat) (id : Int) (w : World) :
    Calls Try.prog 43 #[.agg #[.int .i64 c, .int .i64 s, .int .i64 k, .string key, .float .f64 x, .int .i64 id]] w fun e w' => e = .returned (.bool (askedB ⟨c, s, ⟨k, key, x, id⟩⟩)) ∧ Ext Non w w' := by
  have DA : Hid (askedB ⟨c, s, ⟨k, key, x, id⟩⟩ = (rightB ⟨c, s, ⟨k, key, x, id⟩⟩ || nullB ⟨c, s, ⟨k, key, x, id⟩⟩)) := Go.Lib.hid rfl
  go_enter Try.func43, Try.ntmps43
  go_wp2_with fail
  refine Calls.ew (ref_Right c s k key x id _) ?_
  rintro e x1 rfl
  cases hr : rightB ⟨c, s, ⟨k, key, x, id⟩⟩
  · have HH := Go.Lib.hid hr; clear hr
    go_wp2_with fail
    refine Calls.ew (ref_Null c s k key x id _) ?_
    rintro e x2 rfl
    go_wp2
    go_ret
    exact ⟨ret_bool (by rw [DA.out, HH.out]; rfl), by (repeat (first | with_reducible exact Ext.refl _ _ | assumption | with_reducible refine Ext.upN ?_ | with_reducible refine Ext.alloc ?_ _ | with_reducible refine Ext.upA (by assumption) ?_ | with_reducible refine Ext.upW ?_ | with_reducible refine Ext.drew ?_ | with_reducible refine Ext.drewN ?_ _ | with_reducible refine Ext.upF ?_ | with_reducible refine Ext.upFF (by first | omega | simp) ?_ | with_reducible refine Ext.setCellsF _ _ _ (by first | omega | simp) ?_ | with_reducible refine Ext.setCellF _ _ _ (by first | omega | simp) ?_ | with_reducible refine Ext.upFN (by first | omega | simp) ?_ | with_reducible refine Ext.up1F (by first | omega | simp) ?_ | with_reducible refine Ext.up1N (by first | omega | simp) ?_ | with_reducible refine Ext.setCell ?_ (.inr (by first | omega | simp)) _ | refine Ext.alloc ?_ _ | refine Ext.setCellF _ _ _ (by first | omega | simp) ?_ | refine Ext.setCell ?_ (.inr (by first | omega | simp)) _))⟩
  · have HH := Go.Lib.hid hr; clear hr
    go_wp2
    go_ret
    exact ⟨ret_bool (by rw [DA.out, HH.out]; rfl), by (repeat (first | with_reducible exact Ext.refl _ _ | assumption | with_reducible refine Ext.upN ?_ | with_reducible refine Ext.alloc ?_ _ | with_reducible refine Ext.upA (by assumption) ?_ | with_reducible refine Ext.upW ?_ | with_reducible refine Ext.drew ?_ | with_reducible refine Ext.drewN ?_ _ | with_reducible refine Ext.upF ?_ | with_reducible refine Ext.upFF (by first | omega | simp) ?_ | with_reducible refine Ext.setCellsF _ _ _ (by first | omega | simp) ?_ | with_reducible refine Ext.setCellF _ _ _ (by first | omega | simp) ?_ | with_reducible refine Ext.upFN (by first | omega | simp) ?_ | with_reducible refine Ext.up1F (by first | omega | simp) ?_ | with_reducible refine Ext.up1N (by first | omega | simp) ?_ | with_reducible refine Ext.setCell ?_ (.inr (by first | omega | simp)) _ | refine Ext.alloc ?_ _ | refine Ext.setCellF _ _ _ (by first | omega | simp) ?_ | refine Ext.setCell ?_ (.inr (by first | omega | simp)) _))⟩
end Go.Proofs.Ytekbonciafbjiaa
