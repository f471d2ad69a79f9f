/- Joined texts: Whole, RPick16, Pick16. What each proves stands at its head; no conditions beside those in its theorems. -/
import Derived.Test.YtakbkpklfihfiaaJoinH
/- Contracts of the reference of layer 11 and 16: wholly the same requests. -/
namespace Go.Proofs.Ytakbkpklfihfiaa
open Go.RowKit Go.Lib F64
set_option linter.unusedSimpArgs false
set_option linter.unusedVariables false
attribute [local go_sem] run_store_float
attribute [local go_sem low] EW.cellN EW.frozN alloc_cell_or alloc_froz_or
def wholeB (a b : Req) : Bool := (a.client == b.client) && (a.stamp == b.stamp) && (a.op.kind == b.op.kind) && (a.op.key.toList == b.op.key.toList) && (a.op.id == b.op.id) && (canonN a.op.real == canonN b.op.real)
theorem wholeB_self (a : Req) : wholeB a a = true := by unfold wholeB; simp
set_option maxHeartbeats 4000000 in
set_option maxRecDepth 100000 in
theorem ref_Whole (c1 s1 k1 : Int) (key1 : ByteArray) (x1 : Nat) (id1 : Int) (c2 s2 k2 : Int) (key2 : ByteArray) (x2 : Nat) (id2 : Int) (w : World) :
    Calls Try.prog 22 #[.agg #[.int .i64 c1, .int .i64 s1, .int .i64 k1, .string key1, .float .f64 x1, .int .i64 id1], .agg #[.int .i64 c2, .int .i64 s2, .int .i64 k2, .string key2, .float .f64 x2, .int .i64 id2]] w fun e w' =>
    e = .returned (.bool (wholeB ⟨c1, s1, ⟨k1, key1, x1, id1⟩⟩ ⟨c2, s2, ⟨k2, key2, x2, id2⟩⟩)) ∧ Ext Non w w' := by
  have DW : Hid (wholeB ⟨c1, s1, ⟨k1, key1, x1, id1⟩⟩ ⟨c2, s2, ⟨k2, key2, x2, id2⟩⟩ = ((c1 == c2) && (s1 == s2) && (k1 == k2) && (key1.toList == key2.toList) && (id1 == id2) && (canonN x1 == canonN x2))) := Go.Lib.hid rfl
  go_enter Try.func22, Try.ntmps22
  go_wp2_with fail
  (refine wp_region_ext_lit (by kernel_rfl) (by kernel_rfl) ?_)
  ((try simp only [Bool.not_true, Bool.not_false, Bool.or_false, Bool.or_true, Bool.false_or, Bool.true_or, Bool.and_true, Bool.true_and, Bool.and_false, Bool.false_and]); (repeat (go_big_quiet_step ((go_at_call 76; exact Calls.ext_eq (ref_Bits _ _))))))
  cases hb0 : (c1 == c2)
  · as_aux_lemma =>
    have G0 := Go.Lib.hid hb0; clear hb0
    ((try simp only [Bool.not_true, Bool.not_false, Bool.or_false, Bool.or_true, Bool.false_or, Bool.true_or, Bool.and_true, Bool.true_and, Bool.and_false, Bool.false_and]); (repeat (go_big_quiet_step ((go_at_call 76; exact Calls.ext_eq (ref_Bits _ _))))))
    (refine wpQuiet_nil ?_; intro _ hw'; obtain ⟨xq, hw''⟩ := hw'; subst hw'')
    go_wp2
    go_ret
    exact ⟨ret_bool (by rw [DW.out, G0.out]; simp), by (repeat (first | with_reducible exact Ext.refl _ _ | assumption | with_reducible refine Ext.upN ?_ | with_reducible refine Ext.alloc ?_ _ | with_reducible refine Ext.upA (by assumption) ?_ | with_reducible refine Ext.upW ?_ | with_reducible refine Ext.drew ?_ | with_reducible refine Ext.drewN ?_ _ | with_reducible refine Ext.upF ?_ | with_reducible refine Ext.upFF (by first | omega | simp) ?_ | with_reducible refine Ext.setCellsF _ _ _ (by first | omega | simp) ?_ | with_reducible refine Ext.setCellF _ _ _ (by first | omega | simp) ?_ | with_reducible refine Ext.upFN (by first | omega | simp) ?_ | with_reducible refine Ext.up1F (by first | omega | simp) ?_ | with_reducible refine Ext.up1N (by first | omega | simp) ?_ | with_reducible refine Ext.setCell ?_ (.inr (by first | omega | simp)) _ | refine Ext.alloc ?_ _ | refine Ext.setCellF _ _ _ (by first | omega | simp) ?_ | refine Ext.setCell ?_ (.inr (by first | omega | simp)) _))⟩
  · have G0 := Go.Lib.hid hb0; clear hb0
    ((try simp only [Bool.not_true, Bool.not_false, Bool.or_false, Bool.or_true, Bool.false_or, Bool.true_or, Bool.and_true, Bool.true_and, Bool.and_false, Bool.false_and]); (repeat (go_big_quiet_step ((go_at_call 76; exact Calls.ext_eq (ref_Bits _ _))))))
    cases hb1 : (s1 == s2)
    · as_aux_lemma =>
      have G1 := Go.Lib.hid hb1; clear hb1
      ((try simp only [Bool.not_true, Bool.not_false, Bool.or_false, Bool.or_true, Bool.false_or, Bool.true_or, Bool.and_true, Bool.true_and, Bool.and_false, Bool.false_and]); (repeat (go_big_quiet_step ((go_at_call 76; exact Calls.ext_eq (ref_Bits _ _))))))
      (refine wpQuiet_nil ?_; intro _ hw'; obtain ⟨xq, hw''⟩ := hw'; subst hw'')
      go_wp2
      go_ret
      exact ⟨ret_bool (by rw [DW.out, G0.out, G1.out]; simp), by (repeat (first | with_reducible exact Ext.refl _ _ | assumption | with_reducible refine Ext.upN ?_ | with_reducible refine Ext.alloc ?_ _ | with_reducible refine Ext.upA (by assumption) ?_ | with_reducible refine Ext.upW ?_ | with_reducible refine Ext.drew ?_ | with_reducible refine Ext.drewN ?_ _ | with_reducible refine Ext.upF ?_ | with_reducible refine Ext.upFF (by first | omega | simp) ?_ | with_reducible refine Ext.setCellsF _ _ _ (by first | omega | simp) ?_ | with_reducible refine Ext.setCellF _ _ _ (by first | omega | simp) ?_ | with_reducible refine Ext.upFN (by first | omega | simp) ?_ | with_reducible refine Ext.up1F (by first | omega | simp) ?_ | with_reducible refine Ext.up1N (by first | omega | simp) ?_ | with_reducible refine Ext.setCell ?_ (.inr (by first | omega | simp)) _ | refine Ext.alloc ?_ _ | refine Ext.setCellF _ _ _ (by first | omega | simp) ?_ | refine Ext.setCell ?_ (.inr (by first | omega | simp)) _))⟩
    · have G1 := Go.Lib.hid hb1; clear hb1
      ((try simp only [Bool.not_true, Bool.not_false, Bool.or_false, Bool.or_true, Bool.false_or, Bool.true_or, Bool.and_true, Bool.true_and, Bool.and_false, Bool.false_and]); (repeat (go_big_quiet_step ((go_at_call 76; exact Calls.ext_eq (ref_Bits _ _))))))
      cases hb2 : (k1 == k2)
      · as_aux_lemma =>
        have G2 := Go.Lib.hid hb2; clear hb2
        ((try simp only [Bool.not_true, Bool.not_false, Bool.or_false, Bool.or_true, Bool.false_or, Bool.true_or, Bool.and_true, Bool.true_and, Bool.and_false, Bool.false_and]); (repeat (go_big_quiet_step ((go_at_call 76; exact Calls.ext_eq (ref_Bits _ _))))))
        (refine wpQuiet_nil ?_; intro _ hw'; obtain ⟨xq, hw''⟩ := hw'; subst hw'')
        go_wp2
        go_ret
        exact ⟨ret_bool (by rw [DW.out, G0.out, G1.out, G2.out]; simp), by (repeat (first | with_reducible exact Ext.refl _ _ | assumption | with_reducible refine Ext.upN ?_ | with_reducible refine Ext.alloc ?_ _ | with_reducible refine Ext.upA (by assumption) ?_ | with_reducible refine Ext.upW ?_ | with_reducible refine Ext.drew ?_ | with_reducible refine Ext.drewN ?_ _ | with_reducible refine Ext.upF ?_ | with_reducible refine Ext.upFF (by first | omega | simp) ?_ | with_reducible refine Ext.setCellsF _ _ _ (by first | omega | simp) ?_ | with_reducible refine Ext.setCellF _ _ _ (by first | omega | simp) ?_ | with_reducible refine Ext.upFN (by first | omega | simp) ?_ | with_reducible refine Ext.up1F (by first | omega | simp) ?_ | with_reducible refine Ext.up1N (by first | omega | simp) ?_ | with_reducible refine Ext.setCell ?_ (.inr (by first | omega | simp)) _ | refine Ext.alloc ?_ _ | refine Ext.setCellF _ _ _ (by first | omega | simp) ?_ | refine Ext.setCell ?_ (.inr (by first | omega | simp)) _))⟩
      · have G2 := Go.Lib.hid hb2; clear hb2
        ((try simp only [Bool.not_true, Bool.not_false, Bool.or_false, Bool.or_true, Bool.false_or, Bool.true_or, Bool.and_true, Bool.true_and, Bool.and_false, Bool.false_and]); (repeat (go_big_quiet_step ((go_at_call 76; exact Calls.ext_eq (ref_Bits _ _))))))
        cases hb3 : (key1.toList == key2.toList)
        · as_aux_lemma =>
          have G3 := Go.Lib.hid hb3; clear hb3
          ((try simp only [Bool.not_true, Bool.not_false, Bool.or_false, Bool.or_true, Bool.false_or, Bool.true_or, Bool.and_true, Bool.true_and, Bool.and_false, Bool.false_and]); (repeat (go_big_quiet_step ((go_at_call 76; exact Calls.ext_eq (ref_Bits _ _))))))
          (refine wpQuiet_nil ?_; intro _ hw'; obtain ⟨xq, hw''⟩ := hw'; subst hw'')
          go_wp2
          go_ret
          exact ⟨ret_bool (by rw [DW.out, G0.out, G1.out, G2.out, G3.out]; simp), by (repeat (first | with_reducible exact Ext.refl _ _ | assumption | with_reducible refine Ext.upN ?_ | with_reducible refine Ext.alloc ?_ _ | with_reducible refine Ext.upA (by assumption) ?_ | with_reducible refine Ext.upW ?_ | with_reducible refine Ext.drew ?_ | with_reducible refine Ext.drewN ?_ _ | with_reducible refine Ext.upF ?_ | with_reducible refine Ext.upFF (by first | omega | simp) ?_ | with_reducible refine Ext.setCellsF _ _ _ (by first | omega | simp) ?_ | with_reducible refine Ext.setCellF _ _ _ (by first | omega | simp) ?_ | with_reducible refine Ext.upFN (by first | omega | simp) ?_ | with_reducible refine Ext.up1F (by first | omega | simp) ?_ | with_reducible refine Ext.up1N (by first | omega | simp) ?_ | with_reducible refine Ext.setCell ?_ (.inr (by first | omega | simp)) _ | refine Ext.alloc ?_ _ | refine Ext.setCellF _ _ _ (by first | omega | simp) ?_ | refine Ext.setCell ?_ (.inr (by first | omega | simp)) _))⟩
        · have G3 := Go.Lib.hid hb3; clear hb3
          ((try simp only [Bool.not_true, Bool.not_false, Bool.or_false, Bool.or_true, Bool.false_or, Bool.true_or, Bool.and_true, Bool.true_and, Bool.and_false, Bool.false_and]); (repeat (go_big_quiet_step ((go_at_call 76; exact Calls.ext_eq (ref_Bits _ _))))))
          cases hb4 : (id1 == id2)
          · as_aux_lemma =>
            have G4 := Go.Lib.hid hb4; clear hb4
            ((try simp only [Bool.not_true, Bool.not_false, Bool.or_false, Bool.or_true, Bool.false_or, Bool.true_or, Bool.and_true, Bool.true_and, Bool.and_false, Bool.false_and]); (repeat (go_big_quiet_step ((go_at_call 76; exact Calls.ext_eq (ref_Bits _ _))))))
            (refine wpQuiet_nil ?_; intro _ hw'; obtain ⟨xq, hw''⟩ := hw'; subst hw'')
            go_wp2
            go_ret
            exact ⟨ret_bool (by rw [DW.out, G0.out, G1.out, G2.out, G3.out, G4.out]; simp), by (repeat (first | with_reducible exact Ext.refl _ _ | assumption | with_reducible refine Ext.upN ?_ | with_reducible refine Ext.alloc ?_ _ | with_reducible refine Ext.upA (by assumption) ?_ | with_reducible refine Ext.upW ?_ | with_reducible refine Ext.drew ?_ | with_reducible refine Ext.drewN ?_ _ | with_reducible refine Ext.upF ?_ | with_reducible refine Ext.upFF (by first | omega | simp) ?_ | with_reducible refine Ext.setCellsF _ _ _ (by first | omega | simp) ?_ | with_reducible refine Ext.setCellF _ _ _ (by first | omega | simp) ?_ | with_reducible refine Ext.upFN (by first | omega | simp) ?_ | with_reducible refine Ext.up1F (by first | omega | simp) ?_ | with_reducible refine Ext.up1N (by first | omega | simp) ?_ | with_reducible refine Ext.setCell ?_ (.inr (by first | omega | simp)) _ | refine Ext.alloc ?_ _ | refine Ext.setCellF _ _ _ (by first | omega | simp) ?_ | refine Ext.setCell ?_ (.inr (by first | omega | simp)) _))⟩
          · have G4 := Go.Lib.hid hb4; clear hb4
            ((try simp only [Bool.not_true, Bool.not_false, Bool.or_false, Bool.or_true, Bool.false_or, Bool.true_or, Bool.and_true, Bool.true_and, Bool.and_false, Bool.false_and]); (repeat (go_big_quiet_step ((go_at_call 76; exact Calls.ext_eq (ref_Bits _ _))))))
            (refine wpQuiet_nil ?_; intro _ hw'; obtain ⟨xq, hw''⟩ := hw'; subst hw'')
            go_wp2
            go_ret
            exact ⟨ret_bool (by rw [DW.out, G0.out, G1.out, G2.out, G3.out, G4.out]; rw [Bool.eq_iff_iff]; simp [Int.natCast_inj]), by (repeat (first | with_reducible exact Ext.refl _ _ | assumption | with_reducible refine Ext.upN ?_ | with_reducible refine Ext.alloc ?_ _ | with_reducible refine Ext.upA (by assumption) ?_ | with_reducible refine Ext.upW ?_ | with_reducible refine Ext.drew ?_ | with_reducible refine Ext.drewN ?_ _ | with_reducible refine Ext.upF ?_ | with_reducible refine Ext.upFF (by first | omega | simp) ?_ | with_reducible refine Ext.setCellsF _ _ _ (by first | omega | simp) ?_ | with_reducible refine Ext.setCellF _ _ _ (by first | omega | simp) ?_ | with_reducible refine Ext.upFN (by first | omega | simp) ?_ | with_reducible refine Ext.up1F (by first | omega | simp) ?_ | with_reducible refine Ext.up1N (by first | omega | simp) ?_ | with_reducible refine Ext.setCell ?_ (.inr (by first | omega | simp)) _ | refine Ext.alloc ?_ _ | refine Ext.setCellF _ _ _ (by first | omega | simp) ?_ | refine Ext.setCell ?_ (.inr (by first | omega | simp)) _))⟩
/-- A row of requests that can be read behind an address. -/
structure Reqs (w : World) (a : Option Addr) (cap : Nat) (l : List Req) : Prop where
  le : l.length ≤ cap
  small : cap ≤ 9223372036854775807
  at_ : ∀ j (h : j < l.length), ∃ b o, a = some ⟨b, o, none⟩ ∧ b < w.heap.size ∧ (∀ i v, (l[j].cells)[i]? = some v → w.cell? ⟨b, o + j * 6 + i, none⟩ = some v)
theorem Reqs.ext {S : Nat → Prop} {w w' : World} {a : Option Addr} {cap : Nat} {l : List Req} (h : Reqs w a cap l) (x : Ext S w w') (hs : ∀ b o, a = some ⟨b, o, none⟩ → ¬ S b) : Reqs w' a cap l :=
  ⟨h.le, h.small, fun j hj => by
    obtain ⟨b, o, e, hb, c⟩ := h.at_ j hj
    exact ⟨b, o, e, Nat.lt_of_lt_of_le hb x.size, fun i v hv => (x.cell (p := ⟨b, o + j * 6 + i, none⟩) hb (hs b o e)).trans (c i v hv)⟩⟩
theorem Reqs.extN {w w' : World} {a : Option Addr} {cap : Nat} {l : List Req} (h : Reqs w a cap l) (x : Ext Non w w') : Reqs w' a cap l := h.ext x fun _ _ _ f => f
theorem reqCells_get : ∀ (l : List Req) (j i : Nat) (h : j < l.length), i < 6 → (reqCells l)[j * 6 + i]? = (l[j].cells)[i]?
  | r :: t, 0, i, _, hi => by
    show (r.cells ++ reqCells t)[0 * 6 + i]? = _
    rw [List.getElem?_append_left (by show 0 * 6 + i < 6; omega), Nat.zero_mul, Nat.zero_add]; rfl
  | r :: t, j + 1, i, h, hi => by
    show (r.cells ++ reqCells t)[(j + 1) * 6 + i]? = _
    rw [List.getElem?_append_right (by show 6 ≤ _; omega), show (j + 1) * 6 + i - r.cells.length = j * 6 + i by show (j + 1) * 6 + i - 6 = _; omega]
    exact reqCells_get t j i (by simpa using h) hi
theorem reqs_of_own {w : World} {base : Nat} {e : TypeId} {v : Value} {l : List Req} (h : w.ownsRow base e 6 v l.length (reqCells l)) : ∃ a cap, v = .slice a l.length cap ∧ Reqs w a cap l := by
  rcases h.2 with ⟨rfl, hn⟩ | ⟨g, cap, cur, rfl, hb, hg, hc, hm, hs, ht⟩
  · exact ⟨none, 0, by rw [hn], by omega, by omega, fun j hj => by omega⟩
  · refine ⟨_, cap, rfl, hc, by unfold maxLen at hm; omega, fun j hj => ⟨g, 0, rfl, (Array.getElem?_eq_some_iff.1 hg).1, fun i v hv => ?_⟩⟩
    have hi : i < 6 := (List.getElem?_eq_some_iff.1 hv).1
    have e := reqCells_get l j i hj hi
    rw [hv, ← ht, List.getElem?_take, if_pos (by omega), Array.getElem?_toList] at e
    have hgc : w.cell? ⟨g, j * 6 + i, none⟩ = cur[j * 6 + i]? := by simp [World.cell?, hg]
    rw [Nat.zero_add, hgc]
    exact e
def allW : List Req → List Req → Bool
  | [], [] => true
  | x :: xs, y :: ys => wholeB x y && allW xs ys
  | _, _ => false
theorem allW_self : ∀ l, allW l l = true
  | [] => rfl
  | x :: xs => by unfold allW; rw [wholeB_self, allW_self xs]; rfl
theorem allW_drop (a b : List Req) (i : Nat) (h : i < a.length) (h' : i < b.length) : allW (a.drop i) (b.drop i) = (wholeB a[i] b[i] && allW (a.drop (i + 1)) (b.drop (i + 1))) := by
  rw [List.drop_eq_getElem_cons h, List.drop_eq_getElem_cons h']; rfl
theorem allW_len : ∀ a b, a.length ≠ b.length → allW a b = false
  | [], [], h => absurd rfl h
  | [], _ :: _, _ => rfl
  | _ :: _, [], _ => rfl
  | x :: xs, y :: ys, h => by unfold allW; rw [allW_len xs ys (by simpa using h)]; simp
set_option maxHeartbeats 4000000 in
set_option maxRecDepth 100000 in
theorem ref16_Same (a1 : Option Addr) (c1 : Nat) (l1 : List Req) (a2 : Option Addr) (c2 : Nat) (l2 : List Req) (w : World) (h1 : Reqs w a1 c1 l1) (h2 : Reqs w a2 c2 l2) :
    Calls Try.prog 21 #[.slice a1 l1.length c1, .slice a2 l2.length c2] w fun e w' => e = .returned (.bool (allW l1 l2)) ∧ Ext Non w w' := by
  have H1 := Go.Lib.hid h1; have H2 := Go.Lib.hid h2
  have s1 := h1.small; have e1 := h1.le; have s2 := h2.small; have e2 := h2.le
  clear h1 h2
  by_cases hl : l1.length = l2.length
  · have HL := Go.Lib.hid hl
    have hlb : (l1.length != l2.length) = false := by rw [bne_eq_false_iff_eq]; exact hl
    have hlb2 : ((l1.length : Int) != (l2.length : Int)) = false := by rw [bne_eq_false_iff_eq]; omega
    clear hl
    go_enter Try.func21, Try.ntmps21
    go_wp2_with fail
    go_loopw [5] (fun iv wr => ∃ (i : Nat) (z : EW Non w), i ≤ l1.length ∧ iv = .int .i64 i ∧ wr = z.on ∧ Hid (allW l1 l2 = allW (l1.drop i) (l2.drop i))) (fun iv _ => l1.length - (intOf iv).toNat)
    case atStart => exact ⟨0, ⟨_, by (repeat (first | with_reducible exact Ext.refl _ _ | assumption | with_reducible refine Ext.upN ?_ | with_reducible refine Ext.alloc ?_ _ | with_reducible refine Ext.upA (by assumption) ?_ | with_reducible refine Ext.upW ?_ | with_reducible refine Ext.drew ?_ | with_reducible refine Ext.drewN ?_ _ | with_reducible refine Ext.upF ?_ | with_reducible refine Ext.upFF (by first | omega | simp) ?_ | with_reducible refine Ext.setCellsF _ _ _ (by first | omega | simp) ?_ | with_reducible refine Ext.setCellF _ _ _ (by first | omega | simp) ?_ | with_reducible refine Ext.upFN (by first | omega | simp) ?_ | with_reducible refine Ext.up1F (by first | omega | simp) ?_ | with_reducible refine Ext.up1N (by first | omega | simp) ?_ | with_reducible refine Ext.setCell ?_ (.inr (by first | omega | simp)) _ | refine Ext.alloc ?_ _ | refine Ext.setCellF _ _ _ (by first | omega | simp) ?_ | refine Ext.setCell ?_ (.inr (by first | omega | simp)) _))⟩, Nat.zero_le _, rfl, rfl, Go.Lib.hid rfl⟩
    case round =>
      obtain ⟨i, z, hi, rfl, rfl, HA⟩ := hrel
      by_cases hlt : i < l1.length
      · have hlt2 : i < l2.length := by have := HL.out; omega
        obtain ⟨b1, o1, rfl, hb1, k1⟩ := H1.out.at_ i hlt
        obtain ⟨b2, o2, rfl, hb2, k2⟩ := H2.out.at_ i hlt2
        have HD := Go.Lib.hid (allW_drop l1 l2 i hlt hlt2)
        generalize l1[i] = q1 at *
        generalize l2[i] = q2 at *
        obtain ⟨rc, rs, ⟨rk, rkey, rx, rid⟩⟩ := q1
        obtain ⟨tc, ts, ⟨tk, tkey, tx, tid⟩⟩ := q2
        have p0 : w.cell? ⟨b1, o1 + i * 6, none⟩ = some (.int .i64 rc) := k1 0 _ rfl
        have p1 : w.cell? ⟨b1, o1 + i * 6 + 1, none⟩ = some (.int .i64 rs) := k1 1 _ rfl
        have p2 : w.cell? ⟨b1, o1 + i * 6 + 2, none⟩ = some (.int .i64 rk) := k1 2 _ rfl
        have p3 : w.cell? ⟨b1, o1 + i * 6 + 3, none⟩ = some (.string rkey) := k1 3 _ rfl
        have p4 : w.cell? ⟨b1, o1 + i * 6 + 4, none⟩ = some (.float .f64 rx) := k1 4 _ rfl
        have p5 : w.cell? ⟨b1, o1 + i * 6 + 5, none⟩ = some (.int .i64 rid) := k1 5 _ rfl
        have t0 : w.cell? ⟨b2, o2 + i * 6, none⟩ = some (.int .i64 tc) := k2 0 _ rfl
        have t1 : w.cell? ⟨b2, o2 + i * 6 + 1, none⟩ = some (.int .i64 ts) := k2 1 _ rfl
        have t2 : w.cell? ⟨b2, o2 + i * 6 + 2, none⟩ = some (.int .i64 tk) := k2 2 _ rfl
        have t3 : w.cell? ⟨b2, o2 + i * 6 + 3, none⟩ = some (.string tkey) := k2 3 _ rfl
        have t4 : w.cell? ⟨b2, o2 + i * 6 + 4, none⟩ = some (.float .f64 tx) := k2 4 _ rfl
        have t5 : w.cell? ⟨b2, o2 + i * 6 + 5, none⟩ = some (.int .i64 tid) := k2 5 _ rfl
        have hi2 : (i : Int) < (l2.length : Int) := by omega
        clear k1 k2
        go_upto_region 6 with fail
        (refine wp_region_ext_lit (by kernel_rfl) (by kernel_rfl) ?_)
        ((try simp only [Bool.not_true, Bool.not_false, Bool.or_false, Bool.or_true, Bool.false_or, Bool.true_or, Bool.and_true, Bool.true_and, Bool.and_false, Bool.false_and]); (repeat (go_big_quiet_step ((go_at_call 22; exact Calls.ext_of (ref_Whole rc rs rk rkey rx rid tc ts tk tkey tx tid _))))))
        cases hw : wholeB ⟨rc, rs, ⟨rk, rkey, rx, rid⟩⟩ ⟨tc, ts, ⟨tk, tkey, tx, tid⟩⟩
        · as_aux_lemma =>
          have HW := Go.Lib.hid hw; clear hw
          ((try simp only [Bool.not_true, Bool.not_false, Bool.or_false, Bool.or_true, Bool.false_or, Bool.true_or, Bool.and_true, Bool.true_and, Bool.and_false, Bool.false_and]); (repeat (go_big_quiet_step (fail))))
          (refine wpQuiet_nil ?_; intro _ hw'; obtain ⟨xq, hw''⟩ := hw'; subst hw'')
          go_wp2
          go_ret
          exact ⟨ret_bool (by rw [HA.out, HD.out, HW.out]; rfl), by (repeat (first | with_reducible exact Ext.refl _ _ | assumption | with_reducible refine Ext.upN ?_ | with_reducible refine Ext.alloc ?_ _ | with_reducible refine Ext.upA (by assumption) ?_ | with_reducible refine Ext.upW ?_ | with_reducible refine Ext.drew ?_ | with_reducible refine Ext.drewN ?_ _ | with_reducible refine Ext.upF ?_ | with_reducible refine Ext.upFF (by first | omega | simp) ?_ | with_reducible refine Ext.setCellsF _ _ _ (by first | omega | simp) ?_ | with_reducible refine Ext.setCellF _ _ _ (by first | omega | simp) ?_ | with_reducible refine Ext.upFN (by first | omega | simp) ?_ | with_reducible refine Ext.up1F (by first | omega | simp) ?_ | with_reducible refine Ext.up1N (by first | omega | simp) ?_ | with_reducible refine Ext.setCell ?_ (.inr (by first | omega | simp)) _ | refine Ext.alloc ?_ _ | refine Ext.setCellF _ _ _ (by first | omega | simp) ?_ | refine Ext.setCell ?_ (.inr (by first | omega | simp)) _))⟩
        · have HW := Go.Lib.hid hw; clear hw
          ((try simp only [Bool.not_true, Bool.not_false, Bool.or_false, Bool.or_true, Bool.false_or, Bool.true_or, Bool.and_true, Bool.true_and, Bool.and_false, Bool.false_and]); (repeat (go_big_quiet_step (fail))))
          (refine wpQuiet_nil ?_; intro _ hw'; obtain ⟨xq, hw''⟩ := hw'; subst hw'')
          have HA' : Hid (allW l1 l2 = allW (l1.drop (i + 1)) (l2.drop (i + 1))) := Go.Lib.hid (by rw [HA.out, HD.out, HW.out]; rfl)
          go_wp2_with fail
          go_roundw
          case rel => exact ⟨i + 1, ⟨_, by (repeat (first | with_reducible exact Ext.refl _ _ | assumption | with_reducible refine Ext.upN ?_ | with_reducible refine Ext.alloc ?_ _ | with_reducible refine Ext.upA (by assumption) ?_ | with_reducible refine Ext.upW ?_ | with_reducible refine Ext.drew ?_ | with_reducible refine Ext.drewN ?_ _ | with_reducible refine Ext.upF ?_ | with_reducible refine Ext.upFF (by first | omega | simp) ?_ | with_reducible refine Ext.setCellsF _ _ _ (by first | omega | simp) ?_ | with_reducible refine Ext.setCellF _ _ _ (by first | omega | simp) ?_ | with_reducible refine Ext.upFN (by first | omega | simp) ?_ | with_reducible refine Ext.up1F (by first | omega | simp) ?_ | with_reducible refine Ext.up1N (by first | omega | simp) ?_ | with_reducible refine Ext.setCell ?_ (.inr (by first | omega | simp)) _ | refine Ext.alloc ?_ _ | refine Ext.setCellF _ _ _ (by first | omega | simp) ?_ | refine Ext.setCell ?_ (.inr (by first | omega | simp)) _))⟩, hlt, by go_num, rfl, HA'⟩
          case measure => simp [intOf]; omega
      · have HA' : Hid (allW l1 l2 = true) := Go.Lib.hid (by rw [HA.out, List.drop_eq_nil_of_le (by omega), List.drop_eq_nil_of_le (by have := HL.out; omega)]; rfl)
        go_wp2
        go_ret
        exact ⟨ret_bool HA'.out.symm, by (repeat (first | with_reducible exact Ext.refl _ _ | assumption | with_reducible refine Ext.upN ?_ | with_reducible refine Ext.alloc ?_ _ | with_reducible refine Ext.upA (by assumption) ?_ | with_reducible refine Ext.upW ?_ | with_reducible refine Ext.drew ?_ | with_reducible refine Ext.drewN ?_ _ | with_reducible refine Ext.upF ?_ | with_reducible refine Ext.upFF (by first | omega | simp) ?_ | with_reducible refine Ext.setCellsF _ _ _ (by first | omega | simp) ?_ | with_reducible refine Ext.setCellF _ _ _ (by first | omega | simp) ?_ | with_reducible refine Ext.upFN (by first | omega | simp) ?_ | with_reducible refine Ext.up1F (by first | omega | simp) ?_ | with_reducible refine Ext.up1N (by first | omega | simp) ?_ | with_reducible refine Ext.setCell ?_ (.inr (by first | omega | simp)) _ | refine Ext.alloc ?_ _ | refine Ext.setCellF _ _ _ (by first | omega | simp) ?_ | refine Ext.setCell ?_ (.inr (by first | omega | simp)) _))⟩
  · have HA := Go.Lib.hid (allW_len l1 l2 hl)
    have hlb : (l1.length != l2.length) = true := by rw [bne_iff_ne]; exact hl
    have hlb2 : ((l1.length : Int) != (l2.length : Int)) = true := by rw [bne_iff_ne]; omega
    go_enter Try.func21, Try.ntmps21
    go_wp2
    go_ret
    exact ⟨ret_bool HA.out.symm, by (repeat (first | with_reducible exact Ext.refl _ _ | assumption | with_reducible refine Ext.upN ?_ | with_reducible refine Ext.alloc ?_ _ | with_reducible refine Ext.upA (by assumption) ?_ | with_reducible refine Ext.upW ?_ | with_reducible refine Ext.drew ?_ | with_reducible refine Ext.drewN ?_ _ | with_reducible refine Ext.upF ?_ | with_reducible refine Ext.upFF (by first | omega | simp) ?_ | with_reducible refine Ext.setCellsF _ _ _ (by first | omega | simp) ?_ | with_reducible refine Ext.setCellF _ _ _ (by first | omega | simp) ?_ | with_reducible refine Ext.upFN (by first | omega | simp) ?_ | with_reducible refine Ext.up1F (by first | omega | simp) ?_ | with_reducible refine Ext.up1N (by first | omega | simp) ?_ | with_reducible refine Ext.setCell ?_ (.inr (by first | omega | simp)) _ | refine Ext.alloc ?_ _ | refine Ext.setCellF _ _ _ (by first | omega | simp) ?_ | refine Ext.setCell ?_ (.inr (by first | omega | simp)) _))⟩
end Go.Proofs.Ytakbkpklfihfiaa

/- Contracts of the reference of layer 16: Pick. -/
namespace Go.Proofs.Ytakbkpklfihfiaa
open Go.RowKit Go.Lib F64
set_option linter.unusedSimpArgs false
set_option linter.unusedVariables false
attribute [local go_sem] run_store_float
attribute [local go_sem low] EW.cellN EW.frozN alloc_cell_or alloc_froz_or EW.cellF EW.frozF EW.cell1 EW.froz1
set_option maxHeartbeats 4000000 in
set_option maxRecDepth 100000 in
theorem ref16_Pick (ep : Int) (a : Option Addr) (cap : Nat) (xs : List Int) (view : Int) (la : Option Addr) (lcap : Nat) (l : List Ch) (hie : I64 ep) (w : World) (hi : Ints w a cap xs) (h : Chs w la lcap l) :
    Calls Try.prog 20 #[.agg #[.int .i64 ep, .slice a xs.length cap], .int .i64 view, .slice la l.length lcap] w fun e w' =>
    ∃ v, e = .returned (.tuple #[v, .int .i64 (checkE ep xs view l)]) ∧ w'.ownsRow w.heap.size 49 6 v (pickL ep xs view l).length (reqCells (pickL ep xs view l)) ∧ Ext Non w w' := by
  have HH := Go.Lib.hid h; have HI := Go.Lib.hid hi
  have HE := Go.Lib.hid hie
  have hsm := h.small; have hsl := h.le
  have DP : Hid (checkE ep xs view l ≠ 0 → pickL ep xs view l = []) := Go.Lib.hid (fun h => if_neg h)
  have DQ : Hid (checkE ep xs view l = 0 → pickL ep xs view l = pickR ep l) := Go.Lib.hid (fun h => if_pos h)
  have DF : Hid (checkE ep xs view l = if confB ep xs = true then (if viewsB view l = true then (if rightsE ep xs l = 0 then (if riseB (-1) l = true then (if (l.length : Int) < quorumI xs.length then 15 else 0) else 17) else rightsE ep xs l) else 13) else 1) := Go.Lib.hid rfl
  have DV : Hid (viewsB view l = (decide (1 ≤ view) && decide (view ≤ 15) && sameViews view l)) := Go.Lib.hid rfl
  clear h hi hie
  go_enter Try.func20, Try.ntmps20
  go_wp2_with fail
  refine Calls.ew (ref_Right07 ep a cap xs _ (HI.out.extN (by (repeat (first | with_reducible exact Ext.refl _ _ | assumption | with_reducible refine Ext.upN ?_ | with_reducible refine Ext.alloc ?_ _ | with_reducible refine Ext.upA (by assumption) ?_ | with_reducible refine Ext.upW ?_ | with_reducible refine Ext.drew ?_ | with_reducible refine Ext.drewN ?_ _ | with_reducible refine Ext.upF ?_ | with_reducible refine Ext.upFF (by first | omega | simp) ?_ | with_reducible refine Ext.setCellsF _ _ _ (by first | omega | simp) ?_ | with_reducible refine Ext.setCellF _ _ _ (by first | omega | simp) ?_ | with_reducible refine Ext.upFN (by first | omega | simp) ?_ | with_reducible refine Ext.up1F (by first | omega | simp) ?_ | with_reducible refine Ext.up1N (by first | omega | simp) ?_ | with_reducible refine Ext.setCell ?_ (.inr (by first | omega | simp)) _ | refine Ext.alloc ?_ _ | refine Ext.setCellF _ _ _ (by first | omega | simp) ?_ | refine Ext.setCell ?_ (.inr (by first | omega | simp)) _))))) ?_
  rintro e x1 rfl
  cases hc : confB ep xs
  · as_aux_lemma =>
    have HC := Go.Lib.hid hc; clear hc
    go_wp2
    go_returns
    have e : checkE ep xs view l = 1 := by rw [DF.out, HC.out]; rfl
    exact ⟨.slice none 0 0, by rw [e]; rfl, by rw [DP.out (by rw [e]; omega)]; exact World.ownsRow_nil _ _ _ _, by (repeat (first | with_reducible exact Ext.refl _ _ | assumption | with_reducible refine Ext.upN ?_ | with_reducible refine Ext.alloc ?_ _ | with_reducible refine Ext.upA (by assumption) ?_ | with_reducible refine Ext.upW ?_ | with_reducible refine Ext.drew ?_ | with_reducible refine Ext.drewN ?_ _ | with_reducible refine Ext.upF ?_ | with_reducible refine Ext.upFF (by first | omega | simp) ?_ | with_reducible refine Ext.setCellsF _ _ _ (by first | omega | simp) ?_ | with_reducible refine Ext.setCellF _ _ _ (by first | omega | simp) ?_ | with_reducible refine Ext.upFN (by first | omega | simp) ?_ | with_reducible refine Ext.up1F (by first | omega | simp) ?_ | with_reducible refine Ext.up1N (by first | omega | simp) ?_ | with_reducible refine Ext.setCell ?_ (.inr (by first | omega | simp)) _ | refine Ext.alloc ?_ _ | refine Ext.setCellF _ _ _ (by first | omega | simp) ?_ | refine Ext.setCell ?_ (.inr (by first | omega | simp)) _))⟩
  · have HC := Go.Lib.hid hc
    have HL := Go.Lib.hid (conf_len hc)
    clear hc
    by_cases h1 : 1 ≤ view
    · by_cases h2 : view ≤ 15
      · have DV2 : Hid (viewsB view l = sameViews view l) := Go.Lib.hid (by rw [DV.out, decide_eq_true h1, decide_eq_true h2]; rfl)
        have hep := conf_ep HC.out
        go_wp2_with fail
        go_loopw [8] (fun iv wr => ∃ (i : Nat) (z : EW Non x1.on), i ≤ l.length ∧ iv = .int .i64 i ∧ wr = z.on ∧ Hid (viewsB view l = sameViews view (l.drop i))) (fun iv _ => l.length - (intOf iv).toNat)
        case atStart => exact ⟨0, ⟨_, by (repeat (first | with_reducible exact Ext.refl _ _ | assumption | with_reducible refine Ext.upN ?_ | with_reducible refine Ext.alloc ?_ _ | with_reducible refine Ext.upA (by assumption) ?_ | with_reducible refine Ext.upW ?_ | with_reducible refine Ext.drew ?_ | with_reducible refine Ext.drewN ?_ _ | with_reducible refine Ext.upF ?_ | with_reducible refine Ext.upFF (by first | omega | simp) ?_ | with_reducible refine Ext.setCellsF _ _ _ (by first | omega | simp) ?_ | with_reducible refine Ext.setCellF _ _ _ (by first | omega | simp) ?_ | with_reducible refine Ext.upFN (by first | omega | simp) ?_ | with_reducible refine Ext.up1F (by first | omega | simp) ?_ | with_reducible refine Ext.up1N (by first | omega | simp) ?_ | with_reducible refine Ext.setCell ?_ (.inr (by first | omega | simp)) _ | refine Ext.alloc ?_ _ | refine Ext.setCellF _ _ _ (by first | omega | simp) ?_ | refine Ext.setCell ?_ (.inr (by first | omega | simp)) _))⟩, Nat.zero_le _, rfl, rfl, DV2⟩
        case round =>
          obtain ⟨i, z, hi, rfl, rfl, HV⟩ := hrel
          by_cases hlt : i < l.length
          · obtain ⟨lb, lo, ca, ccap, rfl, hlb, hrow, hcs, hif, hiv, hiy, hit⟩ := HH.out.at_ i hlt
            have HD := Go.Lib.hid (sameViews_drop view l i hlt)
            generalize hcc : chAt l i = cc at *
            obtain ⟨cf, cv, certs, cy, ct⟩ := cc
            clear hcc
            have r0 : w.cell? ⟨lb, lo + i * 5, none⟩ = some (.int .i64 cf) := hrow 0 _ rfl
            have r1 : w.cell? ⟨lb, lo + i * 5 + 1, none⟩ = some (.int .i64 cv) := hrow 1 _ rfl
            have r2 : w.cell? ⟨lb, lo + i * 5 + 2, none⟩ = some (.slice ca certs.length ccap) := hrow 2 _ rfl
            have r3 : w.cell? ⟨lb, lo + i * 5 + 3, none⟩ = some (.int .i64 cy) := hrow 3 _ rfl
            have r4 : w.cell? ⟨lb, lo + i * 5 + 4, none⟩ = some (.string ct) := hrow 4 _ rfl
            have HCs : Hid (Certs w ca ccap certs) := Go.Lib.hid hcs
            have HIx : Hid (I64 cf ∧ I64 cv) := Go.Lib.hid ⟨hif, hiv⟩
            clear hrow hcs hif hiv hiy hit
            by_cases hv : cv = view
            · have HW : Hid (viewsB view l = sameViews view (l.drop (i + 1))) := Go.Lib.hid (by rw [HV.out, HD.out, decide_eq_true (show _ = view from hv)]; rfl)
              have hbe : (cv != view) = false := by rw [bne_eq_false_iff_eq]; exact hv
              clear hv
              go_wp2_with fail
              go_roundw
              case rel => exact ⟨i + 1, ⟨_, by (repeat (first | with_reducible exact Ext.refl _ _ | assumption | with_reducible refine Ext.upN ?_ | with_reducible refine Ext.alloc ?_ _ | with_reducible refine Ext.upA (by assumption) ?_ | with_reducible refine Ext.upW ?_ | with_reducible refine Ext.drew ?_ | with_reducible refine Ext.drewN ?_ _ | with_reducible refine Ext.upF ?_ | with_reducible refine Ext.upFF (by first | omega | simp) ?_ | with_reducible refine Ext.setCellsF _ _ _ (by first | omega | simp) ?_ | with_reducible refine Ext.setCellF _ _ _ (by first | omega | simp) ?_ | with_reducible refine Ext.upFN (by first | omega | simp) ?_ | with_reducible refine Ext.up1F (by first | omega | simp) ?_ | with_reducible refine Ext.up1N (by first | omega | simp) ?_ | with_reducible refine Ext.setCell ?_ (.inr (by first | omega | simp)) _ | refine Ext.alloc ?_ _ | refine Ext.setCellF _ _ _ (by first | omega | simp) ?_ | refine Ext.setCell ?_ (.inr (by first | omega | simp)) _))⟩, hlt, by go_num, rfl, HW⟩
              case measure => simp [intOf]; omega
            · as_aux_lemma =>
              have HW : Hid (viewsB view l = false) := Go.Lib.hid (by rw [HV.out, HD.out, decide_eq_false (show ¬ _ = view from hv)]; rfl)
              have hbe : (cv != view) = true := by rw [bne_iff_ne]; exact hv
              clear hv
              go_wp2
              go_returns
              have e : checkE ep xs view l = 13 := by rw [DF.out, HC.out, HW.out]; rfl
              exact ⟨.slice none 0 0, by rw [e]; rfl, by rw [DP.out (by rw [e]; omega)]; exact World.ownsRow_nil _ _ _ _, by (repeat (first | with_reducible exact Ext.refl _ _ | assumption | with_reducible refine Ext.upN ?_ | with_reducible refine Ext.alloc ?_ _ | with_reducible refine Ext.upA (by assumption) ?_ | with_reducible refine Ext.upW ?_ | with_reducible refine Ext.drew ?_ | with_reducible refine Ext.drewN ?_ _ | with_reducible refine Ext.upF ?_ | with_reducible refine Ext.upFF (by first | omega | simp) ?_ | with_reducible refine Ext.setCellsF _ _ _ (by first | omega | simp) ?_ | with_reducible refine Ext.setCellF _ _ _ (by first | omega | simp) ?_ | with_reducible refine Ext.upFN (by first | omega | simp) ?_ | with_reducible refine Ext.up1F (by first | omega | simp) ?_ | with_reducible refine Ext.up1N (by first | omega | simp) ?_ | with_reducible refine Ext.setCell ?_ (.inr (by first | omega | simp)) _ | refine Ext.alloc ?_ _ | refine Ext.setCellF _ _ _ (by first | omega | simp) ?_ | refine Ext.setCell ?_ (.inr (by first | omega | simp)) _))⟩
          · have HV' : Hid (viewsB view l = true) := Go.Lib.hid (by rw [HV.out, List.drop_eq_nil_of_le (by omega)]; rfl)
            have DG : Hid (checkE ep xs view l = if rightsE ep xs l = 0 then (if riseB (-1) l = true then (if (l.length : Int) < quorumI xs.length then 15 else 0) else 17) else rightsE ep xs l) := Go.Lib.hid (by rw [DF.out, HC.out, HV'.out]; rfl)
            clear HV
            go_wp2_with fail
            go_loopw [9] (fun iv wr => ∃ (i : Nat) (z2 : EW Non z.on), i ≤ l.length ∧ iv = .int .i64 i ∧ wr = z2.on ∧ Hid (rightsE ep xs l = rightsE ep xs (l.drop i))) (fun iv _ => l.length - (intOf iv).toNat)
            case atStart => exact ⟨0, ⟨_, by (repeat (first | with_reducible exact Ext.refl _ _ | assumption | with_reducible refine Ext.upN ?_ | with_reducible refine Ext.alloc ?_ _ | with_reducible refine Ext.upA (by assumption) ?_ | with_reducible refine Ext.upW ?_ | with_reducible refine Ext.drew ?_ | with_reducible refine Ext.drewN ?_ _ | with_reducible refine Ext.upF ?_ | with_reducible refine Ext.upFF (by first | omega | simp) ?_ | with_reducible refine Ext.setCellsF _ _ _ (by first | omega | simp) ?_ | with_reducible refine Ext.setCellF _ _ _ (by first | omega | simp) ?_ | with_reducible refine Ext.upFN (by first | omega | simp) ?_ | with_reducible refine Ext.up1F (by first | omega | simp) ?_ | with_reducible refine Ext.up1N (by first | omega | simp) ?_ | with_reducible refine Ext.setCell ?_ (.inr (by first | omega | simp)) _ | refine Ext.alloc ?_ _ | refine Ext.setCellF _ _ _ (by first | omega | simp) ?_ | refine Ext.setCell ?_ (.inr (by first | omega | simp)) _))⟩, Nat.zero_le _, rfl, rfl, Go.Lib.hid rfl⟩
            case round =>
              obtain ⟨i, z2, hi, rfl, rfl, HG⟩ := hrel
              by_cases hlt : i < l.length
              · obtain ⟨lb, lo, ca, ccap, rfl, hlb, hrow, hcs, hif, hiv, hiy, hit⟩ := HH.out.at_ i hlt
                have HDe := Go.Lib.hid (rightsE_drop ep xs l i hlt)
                generalize hcc : chAt l i = cc at *
                obtain ⟨cf, cv, certs, cy, ct⟩ := cc
                clear hcc
                have r0 : w.cell? ⟨lb, lo + i * 5, none⟩ = some (.int .i64 cf) := hrow 0 _ rfl
                have r1 : w.cell? ⟨lb, lo + i * 5 + 1, none⟩ = some (.int .i64 cv) := hrow 1 _ rfl
                have r2 : w.cell? ⟨lb, lo + i * 5 + 2, none⟩ = some (.slice ca certs.length ccap) := hrow 2 _ rfl
                have r3 : w.cell? ⟨lb, lo + i * 5 + 3, none⟩ = some (.int .i64 cy) := hrow 3 _ rfl
                have r4 : w.cell? ⟨lb, lo + i * 5 + 4, none⟩ = some (.string ct) := hrow 4 _ rfl
                have HCs : Hid (Certs w ca ccap certs) := Go.Lib.hid hcs
                have HIx : Hid (I64 cf ∧ I64 cv) := Go.Lib.hid ⟨hif, hiv⟩
                clear hrow hcs hif hiv hiy hit
                go_upto_region 13 with fail
                (refine wp_region_ext_lit (by kernel_rfl) (by kernel_rfl) ?_; (repeat (go_big_quiet_step ((go_at_call 18; exact Calls.ext_of (ref16_Right ep a cap xs cf cv cy ct ca ccap certs HE.out HIx.out.1 HIx.out.2 _ (HI.out.extN (by (repeat (first | with_reducible exact Ext.refl _ _ | assumption | with_reducible refine Ext.upN ?_ | with_reducible refine Ext.alloc ?_ _ | with_reducible refine Ext.upA (by assumption) ?_ | with_reducible refine Ext.upW ?_ | with_reducible refine Ext.drew ?_ | with_reducible refine Ext.drewN ?_ _ | with_reducible refine Ext.upF ?_ | with_reducible refine Ext.upFF (by first | omega | simp) ?_ | with_reducible refine Ext.setCellsF _ _ _ (by first | omega | simp) ?_ | with_reducible refine Ext.setCellF _ _ _ (by first | omega | simp) ?_ | with_reducible refine Ext.upFN (by first | omega | simp) ?_ | with_reducible refine Ext.up1F (by first | omega | simp) ?_ | with_reducible refine Ext.up1N (by first | omega | simp) ?_ | with_reducible refine Ext.setCell ?_ (.inr (by first | omega | simp)) _ | refine Ext.alloc ?_ _ | refine Ext.setCellF _ _ _ (by first | omega | simp) ?_ | refine Ext.setCell ?_ (.inr (by first | omega | simp)) _)))) (HCs.out.extN (by (repeat (first | with_reducible exact Ext.refl _ _ | assumption | with_reducible refine Ext.upN ?_ | with_reducible refine Ext.alloc ?_ _ | with_reducible refine Ext.upA (by assumption) ?_ | with_reducible refine Ext.upW ?_ | with_reducible refine Ext.drew ?_ | with_reducible refine Ext.drewN ?_ _ | with_reducible refine Ext.upF ?_ | with_reducible refine Ext.upFF (by first | omega | simp) ?_ | with_reducible refine Ext.setCellsF _ _ _ (by first | omega | simp) ?_ | with_reducible refine Ext.setCellF _ _ _ (by first | omega | simp) ?_ | with_reducible refine Ext.upFN (by first | omega | simp) ?_ | with_reducible refine Ext.up1F (by first | omega | simp) ?_ | with_reducible refine Ext.up1N (by first | omega | simp) ?_ | with_reducible refine Ext.setCell ?_ (.inr (by first | omega | simp)) _ | refine Ext.alloc ?_ _ | refine Ext.setCellF _ _ _ (by first | omega | simp) ?_ | refine Ext.setCell ?_ (.inr (by first | omega | simp)) _))))))))); refine wpQuiet_nil ?_; intro _ hw'; obtain ⟨xq, hw''⟩ := hw'; subst hw'')
                generalize hre : rightE ep xs ⟨cf, cv, certs, cy, ct⟩ = re at *
                clear hre
                by_cases h0 : re = 0
                · subst h0
                  have HG' : Hid (rightsE ep xs l = rightsE ep xs (l.drop (i + 1))) := Go.Lib.hid (by rw [HG.out, HDe.out]; rfl)
                  go_wp2_with fail
                  go_roundw
                  case rel => exact ⟨i + 1, ⟨_, by (repeat (first | with_reducible exact Ext.refl _ _ | assumption | with_reducible refine Ext.upN ?_ | with_reducible refine Ext.alloc ?_ _ | with_reducible refine Ext.upA (by assumption) ?_ | with_reducible refine Ext.upW ?_ | with_reducible refine Ext.drew ?_ | with_reducible refine Ext.drewN ?_ _ | with_reducible refine Ext.upF ?_ | with_reducible refine Ext.upFF (by first | omega | simp) ?_ | with_reducible refine Ext.setCellsF _ _ _ (by first | omega | simp) ?_ | with_reducible refine Ext.setCellF _ _ _ (by first | omega | simp) ?_ | with_reducible refine Ext.upFN (by first | omega | simp) ?_ | with_reducible refine Ext.up1F (by first | omega | simp) ?_ | with_reducible refine Ext.up1N (by first | omega | simp) ?_ | with_reducible refine Ext.setCell ?_ (.inr (by first | omega | simp)) _ | refine Ext.alloc ?_ _ | refine Ext.setCellF _ _ _ (by first | omega | simp) ?_ | refine Ext.setCell ?_ (.inr (by first | omega | simp)) _))⟩, hlt, by go_num, rfl, HG'⟩
                  case measure => simp [intOf]; omega
                · as_aux_lemma =>
                  have HN := Go.Lib.hid h0
                  have hbe : (re != 0) = true := by rw [bne_iff_ne]; exact h0
                  clear h0
                  go_wp2
                  go_returns
                  have e : checkE ep xs view l = re := by rw [DG.out, HG.out, HDe.out, if_neg (show ¬ re = 0 from HN.out), if_neg (show ¬ re = 0 from HN.out)]
                  exact ⟨.slice none 0 0, by rw [e]; rfl, by rw [DP.out (by rw [e]; exact HN.out)]; exact World.ownsRow_nil _ _ _ _, by (repeat (first | with_reducible exact Ext.refl _ _ | assumption | with_reducible refine Ext.upN ?_ | with_reducible refine Ext.alloc ?_ _ | with_reducible refine Ext.upA (by assumption) ?_ | with_reducible refine Ext.upW ?_ | with_reducible refine Ext.drew ?_ | with_reducible refine Ext.drewN ?_ _ | with_reducible refine Ext.upF ?_ | with_reducible refine Ext.upFF (by first | omega | simp) ?_ | with_reducible refine Ext.setCellsF _ _ _ (by first | omega | simp) ?_ | with_reducible refine Ext.setCellF _ _ _ (by first | omega | simp) ?_ | with_reducible refine Ext.upFN (by first | omega | simp) ?_ | with_reducible refine Ext.up1F (by first | omega | simp) ?_ | with_reducible refine Ext.up1N (by first | omega | simp) ?_ | with_reducible refine Ext.setCell ?_ (.inr (by first | omega | simp)) _ | refine Ext.alloc ?_ _ | refine Ext.setCellF _ _ _ (by first | omega | simp) ?_ | refine Ext.setCell ?_ (.inr (by first | omega | simp)) _))⟩
              · have HR0 : Hid (rightsE ep xs l = 0) := Go.Lib.hid (by rw [HG.out, List.drop_eq_nil_of_le (by omega)]; rfl)
                have DH : Hid (checkE ep xs view l = if riseB (-1) l = true then (if (l.length : Int) < quorumI xs.length then 15 else 0) else 17) := Go.Lib.hid (by rw [DG.out, HR0.out]; rfl)
                clear HG DG
                go_wp2_with fail
                go_loopw [11] (fun iv wr => ∃ (i : Nat) (z3 : EW Non z2.on), 1 ≤ i ∧ i ≤ l.length + 1 ∧ iv = .int .i64 i ∧ wr = z3.on ∧ Hid (riseB (-1) l = riseB (chAt l (i - 1)).from_ (l.drop i))) (fun iv _ => l.length - (intOf iv).toNat)
                case atStart =>
                  refine ⟨1, ⟨_, by (repeat (first | with_reducible exact Ext.refl _ _ | assumption | with_reducible refine Ext.upN ?_ | with_reducible refine Ext.alloc ?_ _ | with_reducible refine Ext.upA (by assumption) ?_ | with_reducible refine Ext.upW ?_ | with_reducible refine Ext.drew ?_ | with_reducible refine Ext.drewN ?_ _ | with_reducible refine Ext.upF ?_ | with_reducible refine Ext.upFF (by first | omega | simp) ?_ | with_reducible refine Ext.setCellsF _ _ _ (by first | omega | simp) ?_ | with_reducible refine Ext.setCellF _ _ _ (by first | omega | simp) ?_ | with_reducible refine Ext.upFN (by first | omega | simp) ?_ | with_reducible refine Ext.up1F (by first | omega | simp) ?_ | with_reducible refine Ext.up1N (by first | omega | simp) ?_ | with_reducible refine Ext.setCell ?_ (.inr (by first | omega | simp)) _ | refine Ext.alloc ?_ _ | refine Ext.setCellF _ _ _ (by first | omega | simp) ?_ | refine Ext.setCell ?_ (.inr (by first | omega | simp)) _))⟩, Nat.le_refl _, by omega, rfl, rfl, Go.Lib.hid ?_⟩
                  rcases Nat.eq_zero_or_pos l.length with hz | hz
                  · rw [List.length_eq_zero_iff] at hz; rw [hz]; rfl
                  · exact rise_start HR0.out hz
                case round =>
                  obtain ⟨i, z3, hi1, hi, rfl, rfl, HRs⟩ := hrel
                  by_cases hlt : i < l.length
                  · obtain ⟨k, rfl⟩ : ∃ k, i = k + 1 := ⟨i - 1, by omega⟩
                    obtain ⟨lb, lo, ca, ccap, hla, hlb, hrow, -⟩ := HH.out.at_ (k + 1) hlt
                    obtain ⟨lb2, lo2, ca2, ccap2, hla2, hlb2, hrow2, -⟩ := HH.out.at_ k (by omega)
                    rw [hla] at hla2
                    injection hla2 with e2; injection e2 with e3 e4; subst e3; subst e4
                    subst hla
                    have HDr := Go.Lib.hid (riseB_drop (chAt l (k + 1 - 1)).from_ l (k + 1) hlt)
                    have HK1 : Hid (chAt l (k + 1 - 1) = chAt l k) := Go.Lib.hid rfl
                    rw [HK1.out] at HDr HRs
                    have r0 : w.cell? ⟨lb, lo + (k + 1) * 5, none⟩ = some (.int .i64 (chAt l (k + 1)).from_) := hrow 0 _ rfl
                    have s0 : w.cell? ⟨lb, lo + k * 5, none⟩ = some (.int .i64 (chAt l k).from_) := hrow2 0 _ rfl
                    have hw1 : IntKind.i64.wrap (((k + 1 : Nat) : Int) - 1) = ((k : Nat) : Int) := by rw [show ((k + 1 : Nat) : Int) - 1 = (k : Int) by omega]; exact IntWalk.i64_in _ (by omega)
                    clear hrow hrow2
                    generalize hp : (chAt l k).from_ = pf at *
                    generalize hq : (chAt l (k + 1)).from_ = cf at *
                    have HQ := Go.Lib.hid hq
                    clear hp hq
                    by_cases hv : cf ≤ pf
                    · as_aux_lemma =>
                      have HW : Hid (riseB (-1) l = false) := Go.Lib.hid (by rw [HRs.out, HDr.out, decide_eq_false (by omega)]; rfl)
                      go_upto_region 19 with fail
                      (refine wp_region_ext_lit (by kernel_rfl) (by kernel_rfl) ?_; (repeat (go_big_quiet_step (fail))); refine wpQuiet_nil ?_; intro _ hw'; obtain ⟨xq, hw''⟩ := hw'; subst hw'')
                      go_wp2
                      go_returns
                      have e : checkE ep xs view l = 17 := by rw [DH.out, HW.out]; rfl
                      exact ⟨.slice none 0 0, by rw [e]; rfl, by rw [DP.out (by rw [e]; omega)]; exact World.ownsRow_nil _ _ _ _, by (repeat (first | with_reducible exact Ext.refl _ _ | assumption | with_reducible refine Ext.upN ?_ | with_reducible refine Ext.alloc ?_ _ | with_reducible refine Ext.upA (by assumption) ?_ | with_reducible refine Ext.upW ?_ | with_reducible refine Ext.drew ?_ | with_reducible refine Ext.drewN ?_ _ | with_reducible refine Ext.upF ?_ | with_reducible refine Ext.upFF (by first | omega | simp) ?_ | with_reducible refine Ext.setCellsF _ _ _ (by first | omega | simp) ?_ | with_reducible refine Ext.setCellF _ _ _ (by first | omega | simp) ?_ | with_reducible refine Ext.upFN (by first | omega | simp) ?_ | with_reducible refine Ext.up1F (by first | omega | simp) ?_ | with_reducible refine Ext.up1N (by first | omega | simp) ?_ | with_reducible refine Ext.setCell ?_ (.inr (by first | omega | simp)) _ | refine Ext.alloc ?_ _ | refine Ext.setCellF _ _ _ (by first | omega | simp) ?_ | refine Ext.setCell ?_ (.inr (by first | omega | simp)) _))⟩
                    · have HW : Hid (riseB (-1) l = riseB (chAt l (k + 1 + 1 - 1)).from_ (l.drop (k + 1 + 1))) := Go.Lib.hid (by rw [HRs.out, HDr.out, decide_eq_true (by omega), show k + 1 + 1 - 1 = k + 1 from rfl, HQ.out]; rfl)
                      have hvb : decide (cf ≤ pf) = false := decide_eq_false hv
                      go_upto_region 19 with fail
                      (refine wp_region_ext_lit (by kernel_rfl) (by kernel_rfl) ?_; (repeat (go_big_quiet_step (fail))); refine wpQuiet_nil ?_; intro _ hw'; obtain ⟨xq, hw''⟩ := hw'; subst hw'')
                      go_wp2_with fail
                      go_roundw
                      case rel => exact ⟨k + 1 + 1, ⟨_, by (repeat (first | with_reducible exact Ext.refl _ _ | assumption | with_reducible refine Ext.upN ?_ | with_reducible refine Ext.alloc ?_ _ | with_reducible refine Ext.upA (by assumption) ?_ | with_reducible refine Ext.upW ?_ | with_reducible refine Ext.drew ?_ | with_reducible refine Ext.drewN ?_ _ | with_reducible refine Ext.upF ?_ | with_reducible refine Ext.upFF (by first | omega | simp) ?_ | with_reducible refine Ext.setCellsF _ _ _ (by first | omega | simp) ?_ | with_reducible refine Ext.setCellF _ _ _ (by first | omega | simp) ?_ | with_reducible refine Ext.upFN (by first | omega | simp) ?_ | with_reducible refine Ext.up1F (by first | omega | simp) ?_ | with_reducible refine Ext.up1N (by first | omega | simp) ?_ | with_reducible refine Ext.setCell ?_ (.inr (by first | omega | simp)) _ | refine Ext.alloc ?_ _ | refine Ext.setCellF _ _ _ (by first | omega | simp) ?_ | refine Ext.setCell ?_ (.inr (by first | omega | simp)) _))⟩, by omega, by omega, by go_num, rfl, HW⟩
                      case measure => simp [intOf]; omega
                  · have HR1 : Hid (riseB (-1) l = true) := Go.Lib.hid (by rw [HRs.out, List.drop_eq_nil_of_le (by omega)]; rfl)
                    have DI : Hid (checkE ep xs view l = if (l.length : Int) < quorumI xs.length then 15 else 0) := Go.Lib.hid (by rw [DH.out, HR1.out]; rfl)
                    clear HRs DH
                    go_wp2_with fail
                    refine (ref_Quorum xs.length (by omega) (by have := HL.out; omega) _).mono ?_
                    rintro e _ ⟨rfl, rfl⟩
                    by_cases hq : (l.length : Int) < quorumI xs.length
                    · as_aux_lemma =>
                      have HQ := Go.Lib.hid hq
                      have DJ : Hid (checkE ep xs view l = 15) := Go.Lib.hid (by rw [DI.out, if_pos hq])
                      generalize quorumI xs.length = q at *
                      have hbe : decide ((l.length : Int) < q) = true := decide_eq_true hq
                      go_wp2
                      go_returns
                      have e : checkE ep xs view l = 15 := by exact DJ.out
                      exact ⟨.slice none 0 0, by rw [e]; rfl, by rw [DP.out (by rw [e]; omega)]; exact World.ownsRow_nil _ _ _ _, by (repeat (first | with_reducible exact Ext.refl _ _ | assumption | with_reducible refine Ext.upN ?_ | with_reducible refine Ext.alloc ?_ _ | with_reducible refine Ext.upA (by assumption) ?_ | with_reducible refine Ext.upW ?_ | with_reducible refine Ext.drew ?_ | with_reducible refine Ext.drewN ?_ _ | with_reducible refine Ext.upF ?_ | with_reducible refine Ext.upFF (by first | omega | simp) ?_ | with_reducible refine Ext.setCellsF _ _ _ (by first | omega | simp) ?_ | with_reducible refine Ext.setCellF _ _ _ (by first | omega | simp) ?_ | with_reducible refine Ext.upFN (by first | omega | simp) ?_ | with_reducible refine Ext.up1F (by first | omega | simp) ?_ | with_reducible refine Ext.up1N (by first | omega | simp) ?_ | with_reducible refine Ext.setCell ?_ (.inr (by first | omega | simp)) _ | refine Ext.alloc ?_ _ | refine Ext.setCellF _ _ _ (by first | omega | simp) ?_ | refine Ext.setCell ?_ (.inr (by first | omega | simp)) _))⟩
                    · have DJ : Hid (checkE ep xs view l = 0) := Go.Lib.hid (by rw [DI.out, if_neg hq])
                      generalize quorumI xs.length = q at *
                      have hbe : decide ((l.length : Int) < q) = false := decide_eq_false hq
                      clear DI
                      have HPk : Hid (pickL ep xs view l = pickR ep l) := Go.Lib.hid (DQ.out DJ.out)
                      have HTk := Go.Lib.hid (fun k => pickR_take ep l k)
                      have HLn := Go.Lib.hid (pickR_length ep l)
                      have HBL : Hid (∀ n : Nat, bestL (4 * ep + (n + 1)) l = bestC (slotN ep n) (l.flatMap (·.certs))) := Go.Lib.hid (fun n => by unfold bestL slotN; rw [show 4 * ep + ((n : Int) + 1) = 4 * ep + 1 + n by omega])
                      have HF4 := Go.Lib.hid (lastTo_four ep (l.flatMap (·.certs)))
                      have HLe := Go.Lib.hid (lastTo_le ep (l.flatMap (·.certs)))
                      have HS1 : Hid (∀ n, lastTo ep (l.flatMap (·.certs)) (n + 1) = if (bestC (slotN ep n) (l.flatMap (·.certs))).isSome then n + 1 else lastTo ep (l.flatMap (·.certs)) n) := Go.Lib.hid (fun n => rfl)
                      generalize hP : l.flatMap (·.certs) = P at *
                      clear hP
                      have hw0 : IntKind.i64.wrap (4 * ep) = 4 * ep := IntWalk.i64_in _ (by omega)
                      go_wp2_with fail
                      go_loopw [13, 14] (fun lv iv wr => ∃ (n : Nat) (z4 : EW Non z3.on), n ≤ 4 ∧ lv = .int .i64 (lastTo ep P n) ∧ iv = .int .i64 ((n + 1 : Nat) : Int) ∧ wr = z4.on) (fun _ iv _ => 5 - (intOf iv).toNat)
                      case atStart => exact ⟨0, ⟨_, by (repeat (first | with_reducible exact Ext.refl _ _ | assumption | with_reducible refine Ext.upN ?_ | with_reducible refine Ext.alloc ?_ _ | with_reducible refine Ext.upA (by assumption) ?_ | with_reducible refine Ext.upW ?_ | with_reducible refine Ext.drew ?_ | with_reducible refine Ext.drewN ?_ _ | with_reducible refine Ext.upF ?_ | with_reducible refine Ext.upFF (by first | omega | simp) ?_ | with_reducible refine Ext.setCellsF _ _ _ (by first | omega | simp) ?_ | with_reducible refine Ext.setCellF _ _ _ (by first | omega | simp) ?_ | with_reducible refine Ext.upFN (by first | omega | simp) ?_ | with_reducible refine Ext.up1F (by first | omega | simp) ?_ | with_reducible refine Ext.up1N (by first | omega | simp) ?_ | with_reducible refine Ext.setCell ?_ (.inr (by first | omega | simp)) _ | refine Ext.alloc ?_ _ | refine Ext.setCellF _ _ _ (by first | omega | simp) ?_ | refine Ext.setCell ?_ (.inr (by first | omega | simp)) _))⟩, by omega, rfl, rfl, rfl⟩
                      case round =>
                        obtain ⟨n, z4, hn, rfl, rfl, rfl⟩ := hrel
                        have hle := HLe.out n
                        have HLe4 := HLe.out 4
                        have hw5 : IntKind.i64.wrap (4 * ep + ((n + 1 : Nat) : Int)) = 4 * ep + ((n + 1 : Nat) : Int) := IntWalk.i64_in _ (by omega)
                        by_cases hn4 : n < 4
                        · have hcc : decide (((n + 1 : Nat) : Int) ≤ 4) = true := decide_eq_true (by omega)
                          have HSn := Go.Lib.hid (HS1.out n)
                          have HBn := Go.Lib.hid (HBL.out n)
                          go_wp2_with fail
                          refine (ref16_best (4 * ep + ((n : Int) + 1)) la lcap l _ (HH.out.extN (by (repeat (first | with_reducible exact Ext.refl _ _ | assumption | with_reducible refine Ext.upN ?_ | with_reducible refine Ext.alloc ?_ _ | with_reducible refine Ext.upA (by assumption) ?_ | with_reducible refine Ext.upW ?_ | with_reducible refine Ext.drew ?_ | with_reducible refine Ext.drewN ?_ _ | with_reducible refine Ext.upF ?_ | with_reducible refine Ext.upFF (by first | omega | simp) ?_ | with_reducible refine Ext.setCellsF _ _ _ (by first | omega | simp) ?_ | with_reducible refine Ext.setCellF _ _ _ (by first | omega | simp) ?_ | with_reducible refine Ext.upFN (by first | omega | simp) ?_ | with_reducible refine Ext.up1F (by first | omega | simp) ?_ | with_reducible refine Ext.up1N (by first | omega | simp) ?_ | with_reducible refine Ext.setCell ?_ (.inr (by first | omega | simp)) _ | refine Ext.alloc ?_ _ | refine Ext.setCellF _ _ _ (by first | omega | simp) ?_ | refine Ext.setCell ?_ (.inr (by first | omega | simp)) _))))).mono ?_
                          rintro e _ ⟨sa, scap, rfl, x⟩
                          obtain ⟨z5, rfl⟩ := x.ew
                          rw [HBn.out]
                          generalize hbo : bestC (slotN ep n) P = bo at *
                          clear hbo
                          generalize ctOf bo = oo at *
                          generalize bo.isSome = fb at *
                          obtain ⟨ov, os, ⟨oc, ot, ⟨ok, okey, ox, oid⟩⟩, ol⟩ := oo
                          dsimp only [Ct.cells]
                          cases fb
                          · have HL1 : Hid (lastTo ep P (n + 1) = lastTo ep P n) := Go.Lib.hid (by rw [HSn.out]; simp)
                            go_wp2_with fail
                            go_roundw
                            case rel => exact ⟨n + 1, ⟨_, by (repeat (first | with_reducible exact Ext.refl _ _ | assumption | with_reducible refine Ext.upN ?_ | with_reducible refine Ext.alloc ?_ _ | with_reducible refine Ext.upA (by assumption) ?_ | with_reducible refine Ext.upW ?_ | with_reducible refine Ext.drew ?_ | with_reducible refine Ext.drewN ?_ _ | with_reducible refine Ext.upF ?_ | with_reducible refine Ext.upFF (by first | omega | simp) ?_ | with_reducible refine Ext.setCellsF _ _ _ (by first | omega | simp) ?_ | with_reducible refine Ext.setCellF _ _ _ (by first | omega | simp) ?_ | with_reducible refine Ext.upFN (by first | omega | simp) ?_ | with_reducible refine Ext.up1F (by first | omega | simp) ?_ | with_reducible refine Ext.up1N (by first | omega | simp) ?_ | with_reducible refine Ext.setCell ?_ (.inr (by first | omega | simp)) _ | refine Ext.alloc ?_ _ | refine Ext.setCellF _ _ _ (by first | omega | simp) ?_ | refine Ext.setCell ?_ (.inr (by first | omega | simp)) _))⟩, by omega, by rw [HL1.out], by go_num, rfl⟩
                            case measure => simp [intOf]; omega
                          · have HL1 : Hid (lastTo ep P (n + 1) = n + 1) := Go.Lib.hid (by rw [HSn.out]; simp)
                            go_wp2_with fail
                            go_roundw
                            case rel => exact ⟨n + 1, ⟨_, by (repeat (first | with_reducible exact Ext.refl _ _ | assumption | with_reducible refine Ext.upN ?_ | with_reducible refine Ext.alloc ?_ _ | with_reducible refine Ext.upA (by assumption) ?_ | with_reducible refine Ext.upW ?_ | with_reducible refine Ext.drew ?_ | with_reducible refine Ext.drewN ?_ _ | with_reducible refine Ext.upF ?_ | with_reducible refine Ext.upFF (by first | omega | simp) ?_ | with_reducible refine Ext.setCellsF _ _ _ (by first | omega | simp) ?_ | with_reducible refine Ext.setCellF _ _ _ (by first | omega | simp) ?_ | with_reducible refine Ext.upFN (by first | omega | simp) ?_ | with_reducible refine Ext.up1F (by first | omega | simp) ?_ | with_reducible refine Ext.up1N (by first | omega | simp) ?_ | with_reducible refine Ext.setCell ?_ (.inr (by first | omega | simp)) _ | refine Ext.alloc ?_ _ | refine Ext.setCellF _ _ _ (by first | omega | simp) ?_ | refine Ext.setCell ?_ (.inr (by first | omega | simp)) _))⟩, by omega, by rw [HL1.out], by go_num, rfl⟩
                            case measure => simp [intOf]; omega
                        · have hn5 : n = 4 := by omega
                          subst hn5
                          have HLn' : Hid ((pickR ep l).length = lastC ep P) := HLn
                          have hcc : decide (((4 + 1 : Nat) : Int) ≤ 4) = false := by decide
                          rw [HF4.out] at *
                          generalize hcn : lastC ep P = cnt at *
                          clear hcn
                          have hws : w.heap.size < z4.on.heap.size := by have h1 := x1.ext.size; have h2 := z.ext.size; have h3 := z2.ext.size; have h4 := z3.ext.size; have h5 := z4.ext.size; simp at h1; omega
                          go_wp2_with fail
                          go_loopw [12, 17] (fun ov iv wr => ∃ (k : Nat) (v : Value) (z5 : EW (From z4.on.heap.size) z4.on), k ≤ cnt ∧ v = ov ∧ iv = .int .i64 ((k + 1 : Nat) : Int) ∧ wr = z5.on ∧ Hid (wr.ownsRow z4.on.heap.size 49 6 v k (reqCells ((pickR ep l).take k)))) (fun _ iv _ => cnt + 1 - (intOf iv).toNat)
                          case atStart => exact ⟨0, _, ⟨_, Ext.refl _ _⟩, Nat.zero_le _, rfl, rfl, rfl, Go.Lib.hid (by rw [List.take_zero]; exact World.ownsRow_nil _ _ _ _)⟩
                          case round =>
                            obtain ⟨k, v, z5, hk, rfl, rfl, rfl, HO⟩ := hrel
                            by_cases hkl : k < cnt
                            · have hcc : decide (((k + 1 : Nat) : Int) ≤ (cnt : Int)) = true := decide_eq_true (by omega)
                              have hw5 : IntKind.i64.wrap (4 * ep + ((k + 1 : Nat) : Int)) = 4 * ep + ((k + 1 : Nat) : Int) := IntWalk.i64_in _ (by omega)
                              have HBn := Go.Lib.hid (HBL.out k)
                              have HT := Go.Lib.hid (HTk.out k hkl)
                              have HRq := Go.Lib.hid (ctOf_req (bestC (slotN ep k) P))
                              go_wp2_with fail
                              refine (ref16_best (4 * ep + ((k : Int) + 1)) la lcap l _ (HH.out.extN (by (repeat (first | with_reducible exact Ext.refl _ _ | assumption | with_reducible refine Ext.upN ?_ | with_reducible refine Ext.alloc ?_ _ | with_reducible refine Ext.upA (by assumption) ?_ | with_reducible refine Ext.upW ?_ | with_reducible refine Ext.drew ?_ | with_reducible refine Ext.drewN ?_ _ | with_reducible refine Ext.upF ?_ | with_reducible refine Ext.upFF (by first | omega | simp) ?_ | with_reducible refine Ext.setCellsF _ _ _ (by first | omega | simp) ?_ | with_reducible refine Ext.setCellF _ _ _ (by first | omega | simp) ?_ | with_reducible refine Ext.upFN (by first | omega | simp) ?_ | with_reducible refine Ext.up1F (by first | omega | simp) ?_ | with_reducible refine Ext.up1N (by first | omega | simp) ?_ | with_reducible refine Ext.setCell ?_ (.inr (by first | omega | simp)) _ | refine Ext.alloc ?_ _ | refine Ext.setCellF _ _ _ (by first | omega | simp) ?_ | refine Ext.setCell ?_ (.inr (by first | omega | simp)) _))))).mono ?_
                              rintro e _ ⟨sa, scap, rfl, x⟩
                              obtain ⟨z6, rfl⟩ := x.ew
                              rw [HBn.out]
                              generalize bestC (slotN ep k) P = bo at *
                              generalize ctOf bo = oo at *
                              generalize bo.isSome = fb at *
                              obtain ⟨ov, os, ⟨oc, ot, ⟨ok, okey, ox, oid⟩⟩, ol⟩ := oo
                              dsimp only [Ct.cells]
                              have hz3 : z4.on.heap.size ≤ z6.on.heap.size := Nat.le_trans z5.ext.size z6.ext.size
                              go_wp2_with (at_builtin; refine wpList_append_ew rfl _ _ 38 rfl z4.on.heap.size 49 6 56 _ Try.underlying38 info_req (by rfl) (by omega) (by omega) _ k _ rfl (ownR_extN HO.out (by (repeat (first | with_reducible exact Ext.refl _ _ | assumption | with_reducible refine Ext.upN ?_ | with_reducible refine Ext.alloc ?_ _ | with_reducible refine Ext.upA (by assumption) ?_ | with_reducible refine Ext.upW ?_ | with_reducible refine Ext.drew ?_ | with_reducible refine Ext.drewN ?_ _ | with_reducible refine Ext.upF ?_ | with_reducible refine Ext.upFF (by first | omega | simp) ?_ | with_reducible refine Ext.setCellsF _ _ _ (by first | omega | simp) ?_ | with_reducible refine Ext.setCellF _ _ _ (by first | omega | simp) ?_ | with_reducible refine Ext.upFN (by first | omega | simp) ?_ | with_reducible refine Ext.up1F (by first | omega | simp) ?_ | with_reducible refine Ext.up1N (by first | omega | simp) ?_ | with_reducible refine Ext.setCell ?_ (.inr (by first | omega | simp)) _ | refine Ext.alloc ?_ _ | refine Ext.setCellF _ _ _ (by first | omega | simp) ?_ | refine Ext.setCell ?_ (.inr (by first | omega | simp)) _)))) _ [.int .i64 oc, .int .i64 ot, .int .i64 ok, .string okey, .float .f64 ox, .int .i64 oid] _ rfl (Bx.newAt _ _ _ _ (by simp)) rfl (by simp [Value.oneCell']) (by omega) (by simp <;> omega) (fun v' W2 hO => ?_); have HO2 := Go.Lib.hid hO; clear hO)
                              have HO3 : Hid (W2.on.ownsRow z4.on.heap.size 49 6 v' (k + 1) (reqCells ((pickR ep l).take (k + 1)))) := Go.Lib.hid (by rw [HT.out, reqCells_snoc, ← HRq.out]; exact HO2.out)
                              go_roundw
                              case rel => exact ⟨k + 1, v', ⟨_, by (repeat (first | with_reducible exact Ext.refl _ _ | assumption | with_reducible refine Ext.upN ?_ | with_reducible refine Ext.alloc ?_ _ | with_reducible refine Ext.upA (by assumption) ?_ | with_reducible refine Ext.upW ?_ | with_reducible refine Ext.drew ?_ | with_reducible refine Ext.drewN ?_ _ | with_reducible refine Ext.upF ?_ | with_reducible refine Ext.upFF (by first | omega | simp) ?_ | with_reducible refine Ext.setCellsF _ _ _ (by first | omega | simp) ?_ | with_reducible refine Ext.setCellF _ _ _ (by first | omega | simp) ?_ | with_reducible refine Ext.upFN (by first | omega | simp) ?_ | with_reducible refine Ext.up1F (by first | omega | simp) ?_ | with_reducible refine Ext.up1N (by first | omega | simp) ?_ | with_reducible refine Ext.setCell ?_ (.inr (by first | omega | simp)) _ | refine Ext.alloc ?_ _ | refine Ext.setCellF _ _ _ (by first | omega | simp) ?_ | refine Ext.setCell ?_ (.inr (by first | omega | simp)) _))⟩, hkl, rfl, by go_num, rfl, HO3⟩
                              case measure => simp [intOf]; omega
                            · have HKC : Hid (k = cnt) := Go.Lib.hid (by omega)
                              have hcc : decide (((k + 1 : Nat) : Int) ≤ (cnt : Int)) = false := decide_eq_false (by omega)
                              go_wp2
                              go_returns
                              refine ⟨v, by rw [DJ.out]; rfl, ?_, Ext.trans (by (repeat (first | with_reducible exact Ext.refl _ _ | assumption | with_reducible refine Ext.upN ?_ | with_reducible refine Ext.alloc ?_ _ | with_reducible refine Ext.upA (by assumption) ?_ | with_reducible refine Ext.upW ?_ | with_reducible refine Ext.drew ?_ | with_reducible refine Ext.drewN ?_ _ | with_reducible refine Ext.upF ?_ | with_reducible refine Ext.upFF (by first | omega | simp) ?_ | with_reducible refine Ext.setCellsF _ _ _ (by first | omega | simp) ?_ | with_reducible refine Ext.setCellF _ _ _ (by first | omega | simp) ?_ | with_reducible refine Ext.upFN (by first | omega | simp) ?_ | with_reducible refine Ext.up1F (by first | omega | simp) ?_ | with_reducible refine Ext.up1N (by first | omega | simp) ?_ | with_reducible refine Ext.setCell ?_ (.inr (by first | omega | simp)) _ | refine Ext.alloc ?_ _ | refine Ext.setCellF _ _ _ (by first | omega | simp) ?_ | refine Ext.setCell ?_ (.inr (by first | omega | simp)) _)) : Ext Non w z4.on) (Ext.fromNon (Nat.le_refl _) (by (repeat (first | with_reducible exact Ext.refl _ _ | assumption | with_reducible refine Ext.upN ?_ | with_reducible refine Ext.alloc ?_ _ | with_reducible refine Ext.upA (by assumption) ?_ | with_reducible refine Ext.upW ?_ | with_reducible refine Ext.drew ?_ | with_reducible refine Ext.drewN ?_ _ | with_reducible refine Ext.upF ?_ | with_reducible refine Ext.upFF (by first | omega | simp) ?_ | with_reducible refine Ext.setCellsF _ _ _ (by first | omega | simp) ?_ | with_reducible refine Ext.setCellF _ _ _ (by first | omega | simp) ?_ | with_reducible refine Ext.upFN (by first | omega | simp) ?_ | with_reducible refine Ext.up1F (by first | omega | simp) ?_ | with_reducible refine Ext.up1N (by first | omega | simp) ?_ | with_reducible refine Ext.setCell ?_ (.inr (by first | omega | simp)) _ | refine Ext.alloc ?_ _ | refine Ext.setCellF _ _ _ (by first | omega | simp) ?_ | refine Ext.setCell ?_ (.inr (by first | omega | simp)) _))))⟩
                              rw [HPk.out, HLn'.out]
                              obtain rfl := HKC.out
                              have := HO.out
                              rw [List.take_of_length_le (by rw [HLn'.out]; omega)] at this
                              exact ownR_base this (by omega)
      · have hn : 15 < view := by omega
        have hnb : decide (15 < view) = true := decide_eq_true hn
        have HW : Hid (viewsB view l = false) := Go.Lib.hid (by rw [DV.out, decide_eq_false h2]; simp)
        go_wp2
        go_returns
        have e : checkE ep xs view l = 13 := by rw [DF.out, HC.out, HW.out]; rfl
        exact ⟨.slice none 0 0, by rw [e]; rfl, by rw [DP.out (by rw [e]; omega)]; exact World.ownsRow_nil _ _ _ _, by (repeat (first | with_reducible exact Ext.refl _ _ | assumption | with_reducible refine Ext.upN ?_ | with_reducible refine Ext.alloc ?_ _ | with_reducible refine Ext.upA (by assumption) ?_ | with_reducible refine Ext.upW ?_ | with_reducible refine Ext.drew ?_ | with_reducible refine Ext.drewN ?_ _ | with_reducible refine Ext.upF ?_ | with_reducible refine Ext.upFF (by first | omega | simp) ?_ | with_reducible refine Ext.setCellsF _ _ _ (by first | omega | simp) ?_ | with_reducible refine Ext.setCellF _ _ _ (by first | omega | simp) ?_ | with_reducible refine Ext.upFN (by first | omega | simp) ?_ | with_reducible refine Ext.up1F (by first | omega | simp) ?_ | with_reducible refine Ext.up1N (by first | omega | simp) ?_ | with_reducible refine Ext.setCell ?_ (.inr (by first | omega | simp)) _ | refine Ext.alloc ?_ _ | refine Ext.setCellF _ _ _ (by first | omega | simp) ?_ | refine Ext.setCell ?_ (.inr (by first | omega | simp)) _))⟩
    · have hn : view < 1 := by omega
      have HW : Hid (viewsB view l = false) := Go.Lib.hid (by rw [DV.out, decide_eq_false h1]; simp)
      go_wp2
      go_returns
      have e : checkE ep xs view l = 13 := by rw [DF.out, HC.out, HW.out]; rfl
      exact ⟨.slice none 0 0, by rw [e]; rfl, by rw [DP.out (by rw [e]; omega)]; exact World.ownsRow_nil _ _ _ _, by (repeat (first | with_reducible exact Ext.refl _ _ | assumption | with_reducible refine Ext.upN ?_ | with_reducible refine Ext.alloc ?_ _ | with_reducible refine Ext.upA (by assumption) ?_ | with_reducible refine Ext.upW ?_ | with_reducible refine Ext.drew ?_ | with_reducible refine Ext.drewN ?_ _ | with_reducible refine Ext.upF ?_ | with_reducible refine Ext.upFF (by first | omega | simp) ?_ | with_reducible refine Ext.setCellsF _ _ _ (by first | omega | simp) ?_ | with_reducible refine Ext.setCellF _ _ _ (by first | omega | simp) ?_ | with_reducible refine Ext.upFN (by first | omega | simp) ?_ | with_reducible refine Ext.up1F (by first | omega | simp) ?_ | with_reducible refine Ext.up1N (by first | omega | simp) ?_ | with_reducible refine Ext.setCell ?_ (.inr (by first | omega | simp)) _ | refine Ext.alloc ?_ _ | refine Ext.setCellF _ _ _ (by first | omega | simp) ?_ | refine Ext.setCell ?_ (.inr (by first | omega | simp)) _))⟩
end Go.Proofs.Ytakbkpklfihfiaa

/- Contracts of layer 16: change.Pick. -/
namespace Go.Proofs.Ytakbkpklfihfiaa
open Go.RowKit Go.Lib F64
set_option linter.unusedSimpArgs false
set_option linter.unusedVariables false
attribute [local go_sem] run_store_float
attribute [local go_sem low] EW.cellN EW.frozN alloc_cell_or alloc_froz_or EW.cellF EW.frozF EW.cell1 EW.froz1
theorem max_val (a b : Nat) : Value.int .i64 (if (a : Int) < (b : Int) + 1 then (b : Int) + 1 else (a : Int)) = Value.int .i64 ((max a (b + 1) : Nat) : Int) := by
  congr 1
  split <;> omega
abbrev zero36 : List Value := (default : Ct).cells none 0 ++ ((default : Ct).cells none 0 ++ ((default : Ct).cells none 0 ++ (default : Ct).cells none 0))
theorem zero36_one : ∀ v ∈ zero36, v.oneCell' = true := by simp [zero36, Ct.cells, Value.oneCell']
theorem info_arr : (Try.prog.info? 112).map (·.size) = some 36 := by kernel_rfl
set_option maxHeartbeats 4000000 in
set_option maxRecDepth 100000 in
theorem change_Pick (ep : Int) (a : Option Addr) (cap : Nat) (xs : List Int) (view : Int) (la : Option Addr) (lcap : Nat) (l : List Ch) (hie : I64 ep) (w : World) (hi : Ints w a cap xs) (h : Chs w la lcap l) :
    Calls Try.prog 19 #[.agg #[.int .i64 ep, .slice a xs.length cap], .int .i64 view, .slice la l.length lcap] w fun e w' =>
    ∃ v, e = .returned (.tuple #[v, .int .i64 (checkE ep xs view l)]) ∧ w'.ownsRow w.heap.size 49 6 v (pickL ep xs view l).length (reqCells (pickL ep xs view l)) ∧ Ext Non w w' := by
  have HH := Go.Lib.hid h; have HI := Go.Lib.hid hi
  have HE := Go.Lib.hid hie
  have hsm := h.small; have hsl := h.le
  have DF : Hid (pickL ep xs view l = if checkE ep xs view l = 0 then pickR ep l else []) := Go.Lib.hid rfl
  have CK := Go.Lib.hid (fun h => check_parts (ep := ep) (xs := xs) (view := view) (l := l) h)
  have CS := Go.Lib.hid (fun h => check_slots (ep := ep) (xs := xs) (view := view) (l := l) h)
  clear h hi hie
  go_enter Try.func19, Try.ntmps19
  go_wp2_with fail
  refine Calls.ew (change_check ep a cap xs view la lcap l HE.out _ (HI.out.extN (by (repeat (first | with_reducible exact Ext.refl _ _ | assumption | with_reducible refine Ext.upN ?_ | with_reducible refine Ext.alloc ?_ _ | with_reducible refine Ext.upA (by assumption) ?_ | with_reducible refine Ext.upW ?_ | with_reducible refine Ext.drew ?_ | with_reducible refine Ext.drewN ?_ _ | with_reducible refine Ext.upF ?_ | with_reducible refine Ext.upFF (by first | omega | simp) ?_ | with_reducible refine Ext.setCellsF _ _ _ (by first | omega | simp) ?_ | with_reducible refine Ext.setCellF _ _ _ (by first | omega | simp) ?_ | with_reducible refine Ext.upFN (by first | omega | simp) ?_ | with_reducible refine Ext.up1F (by first | omega | simp) ?_ | with_reducible refine Ext.up1N (by first | omega | simp) ?_ | with_reducible refine Ext.setCell ?_ (.inr (by first | omega | simp)) _ | refine Ext.alloc ?_ _ | refine Ext.setCellF _ _ _ (by first | omega | simp) ?_ | refine Ext.setCell ?_ (.inr (by first | omega | simp)) _)))) (HH.out.extN (by (repeat (first | with_reducible exact Ext.refl _ _ | assumption | with_reducible refine Ext.upN ?_ | with_reducible refine Ext.alloc ?_ _ | with_reducible refine Ext.upA (by assumption) ?_ | with_reducible refine Ext.upW ?_ | with_reducible refine Ext.drew ?_ | with_reducible refine Ext.drewN ?_ _ | with_reducible refine Ext.upF ?_ | with_reducible refine Ext.upFF (by first | omega | simp) ?_ | with_reducible refine Ext.setCellsF _ _ _ (by first | omega | simp) ?_ | with_reducible refine Ext.setCellF _ _ _ (by first | omega | simp) ?_ | with_reducible refine Ext.upFN (by first | omega | simp) ?_ | with_reducible refine Ext.up1F (by first | omega | simp) ?_ | with_reducible refine Ext.up1N (by first | omega | simp) ?_ | with_reducible refine Ext.setCell ?_ (.inr (by first | omega | simp)) _ | refine Ext.alloc ?_ _ | refine Ext.setCellF _ _ _ (by first | omega | simp) ?_ | refine Ext.setCell ?_ (.inr (by first | omega | simp)) _))))) ?_
  rintro e x1 rfl
  generalize hte : checkE ep xs view l = te at *
  have HTe := Go.Lib.hid hte; clear hte
  by_cases h0 : te = 0
  · subst h0
    have CK0 := CK.out rfl
    have hep := conf_ep CK0.1
    have CSr := Go.Lib.hid (CS.out rfl)
    clear CK CS CK0
    have hsz : w.heap.size < x1.on.heap.size := by have := x1.ext.size; simp at this; omega
    go_wp2_with (refine wpList_store_box rfl 112 _ _ rfl x1.on.heap.size zero36 zero36 112 rfl rfl (Bx.newAt _ _ _ _ rfl) rfl info_arr zero36_one (fun W0 hB => ?_); have B0 := Go.Lib.hid hB; clear hB)
    have hkt : x1.on.heap.size < W0.on.heap.size := by have := W0.ext.size; simp at this; omega
    have hkne : W0.on.heap.size ≠ x1.on.heap.size := by omega
    go_loopw [11, 31] (fun cv iv wr => ∃ (i : Nat) (z : EW (From x1.on.heap.size) x1.on), i ≤ l.length ∧ cv = .int .i64 (lastC ep (certsTo l i 0)) ∧ iv = .int .i64 i ∧ wr = z.on ∧ Hid (BestW ep wr x1.on.heap.size W0.on.heap.size (certsTo l i 0))) (fun _ iv _ => l.length - (intOf iv).toNat)
    case atStart => exact ⟨0, ⟨_, by (repeat (first | with_reducible exact Ext.refl _ _ | assumption | with_reducible refine Ext.upN ?_ | with_reducible refine Ext.alloc ?_ _ | with_reducible refine Ext.upA (by assumption) ?_ | with_reducible refine Ext.upW ?_ | with_reducible refine Ext.drew ?_ | with_reducible refine Ext.drewN ?_ _ | with_reducible refine Ext.upF ?_ | with_reducible refine Ext.upFF (by first | omega | simp) ?_ | with_reducible refine Ext.setCellsF _ _ _ (by first | omega | simp) ?_ | with_reducible refine Ext.setCellF _ _ _ (by first | omega | simp) ?_ | with_reducible refine Ext.upFN (by first | omega | simp) ?_ | with_reducible refine Ext.up1F (by first | omega | simp) ?_ | with_reducible refine Ext.up1N (by first | omega | simp) ?_ | with_reducible refine Ext.setCell ?_ (.inr (by first | omega | simp)) _ | refine Ext.alloc ?_ _ | refine Ext.setCellF _ _ _ (by first | omega | simp) ?_ | refine Ext.setCell ?_ (.inr (by first | omega | simp)) _))⟩, Nat.zero_le _, by rw [lastC_zero]; rfl, rfl, rfl, Go.Lib.hid (by rw [certsTo_zero]; exact BestW.init (B0.out.alloc _) (Bx.newAt _ _ _ _ rfl))⟩
    case round =>
      obtain ⟨i, z, hi, rfl, rfl, rfl, HB⟩ := hrel
      have hlc := lastC_le ep (certsTo l i 0)
      by_cases hlt : i < l.length
      · obtain ⟨lb, lo, ca, ccap, rfl, hlb, hrow, hcs, hif, hiv, hiy, hit⟩ := HH.out.at_ i hlt
        have HCs : Hid (Certs w ca ccap (chAt l i).certs) := Go.Lib.hid hcs
        have HCi := Go.Lib.hid (CSr.out (chAt l i) (by rw [chAt_get hlt]; exact List.getElem_mem hlt))
        generalize hcc : chAt l i = cc at *
        obtain ⟨cf, cvw, cts, cy, ct⟩ := cc
        have HCC := Go.Lib.hid hcc; clear hcc
        have r0 : w.cell? ⟨lb, lo + i * 5, none⟩ = some (.int .i64 cf) := hrow 0 _ rfl
        have r1 : w.cell? ⟨lb, lo + i * 5 + 1, none⟩ = some (.int .i64 cvw) := hrow 1 _ rfl
        have r2 : w.cell? ⟨lb, lo + i * 5 + 2, none⟩ = some (.slice ca cts.length ccap) := hrow 2 _ rfl
        have r3 : w.cell? ⟨lb, lo + i * 5 + 3, none⟩ = some (.int .i64 cy) := hrow 3 _ rfl
        have r4 : w.cell? ⟨lb, lo + i * 5 + 4, none⟩ = some (.string ct) := hrow 4 _ rfl
        have hcsm := hcs.small; have hcsl := hcs.le
        have hlb1 : lb < x1.on.heap.size := by omega
        clear hrow hcs hif hiv hiy hit
        go_wp2_with fail
        clear r0 r1 r2 r3 r4
        go_loopw [11, 38] (fun cv jv wr => ∃ (j : Nat) (z2 : EW (From x1.on.heap.size) z.on), j ≤ cts.length ∧ cv = .int .i64 (lastC ep (certsTo l i j)) ∧ jv = .int .i64 j ∧ wr = z2.on ∧ Hid (BestW ep wr x1.on.heap.size W0.on.heap.size (certsTo l i j))) (fun _ jv _ => cts.length - (intOf jv).toNat)
        case atStart => exact ⟨0, ⟨_, by (repeat (first | with_reducible exact Ext.refl _ _ | assumption | with_reducible refine Ext.upN ?_ | with_reducible refine Ext.alloc ?_ _ | with_reducible refine Ext.upA (by assumption) ?_ | with_reducible refine Ext.upW ?_ | with_reducible refine Ext.drew ?_ | with_reducible refine Ext.drewN ?_ _ | with_reducible refine Ext.upF ?_ | with_reducible refine Ext.upFF (by first | omega | simp) ?_ | with_reducible refine Ext.setCellsF _ _ _ (by first | omega | simp) ?_ | with_reducible refine Ext.setCellF _ _ _ (by first | omega | simp) ?_ | with_reducible refine Ext.upFN (by first | omega | simp) ?_ | with_reducible refine Ext.up1F (by first | omega | simp) ?_ | with_reducible refine Ext.up1N (by first | omega | simp) ?_ | with_reducible refine Ext.setCell ?_ (.inr (by first | omega | simp)) _ | refine Ext.alloc ?_ _ | refine Ext.setCellF _ _ _ (by first | omega | simp) ?_ | refine Ext.setCell ?_ (.inr (by first | omega | simp)) _))⟩, Nat.zero_le _, rfl, rfl, rfl, Go.Lib.hid (HB.out.ext ((Ext.refl Non _).alloc _) (fun f => f) (fun f => f))⟩
        case round =>
          clear HB hlc
          obtain ⟨j, z2, hj, rfl, rfl, rfl, HB⟩ := hrel
          have hlc := lastC_le ep (certsTo l i j)
          by_cases hjl : j < cts.length
          · obtain ⟨cb, co, sa, scap, rfl, hcb, hcells, hsg, hro, hvi, hsi⟩ := HCs.out.at_ j hjl
            have HP := Go.Lib.hid (certsTo_succ l i j (by rw [HCC.out]; exact hjl))
            rw [HCC.out] at HP
            obtain ⟨n0, hn0, hsl0⟩ := HCi.out (ctAt cts j) (by rw [ctAt_get hjl]; exact List.getElem_mem hjl)
            generalize hct : ctAt cts j = ct1 at *
            obtain ⟨cv, cs, ⟨rc, rs, ⟨rk, rkey, rx, rid⟩⟩, sl⟩ := ct1
            clear hct
            have HSl : Hid (cs = slotN ep n0) := Go.Lib.hid hsl0
            have hsl1 : cs = 4 * ep + 1 + n0 := hsl0
            have hw1 : IntKind.i64.wrap (ep * 4) = ep * 4 := IntWalk.i64_in _ (by omega)
            have hw2 : IntKind.i64.wrap (cs - ep * 4) = cs - ep * 4 := IntWalk.i64_in _ (by omega)
            have hw3 : IntKind.i64.wrap (cs - ep * 4 - 1) = (n0 : Int) := by rw [show cs - ep * 4 - 1 = (n0 : Int) by omega]; exact IntWalk.i64_in _ (by omega)
            have hn4 : (n0 : Int) < 4 := by omega
            clear hsl0 hsl1
            have m0 : w.cell? ⟨cb, co + j * 9, none⟩ = some (.int .i64 cv) := hcells 0 _ rfl
            have m1 : w.cell? ⟨cb, co + j * 9 + 1, none⟩ = some (.int .i64 cs) := hcells 1 _ rfl
            have m2 : w.cell? ⟨cb, co + j * 9 + 2, none⟩ = some (.int .i64 rc) := hcells 2 _ rfl
            have m3 : w.cell? ⟨cb, co + j * 9 + 3, none⟩ = some (.int .i64 rs) := hcells 3 _ rfl
            have m4 : w.cell? ⟨cb, co + j * 9 + 4, none⟩ = some (.int .i64 rk) := hcells 4 _ rfl
            have m5 : w.cell? ⟨cb, co + j * 9 + 5, none⟩ = some (.string rkey) := hcells 5 _ rfl
            have m6 : w.cell? ⟨cb, co + j * 9 + 6, none⟩ = some (.float .f64 rx) := hcells 6 _ rfl
            have m7 : w.cell? ⟨cb, co + j * 9 + 7, none⟩ = some (.int .i64 rid) := hcells 7 _ rfl
            have m8 : w.cell? ⟨cb, co + j * 9 + 8, none⟩ = some (.slice sa sl.length scap) := hcells 8 _ rfl
            have hcb1 : cb < x1.on.heap.size := by omega
            have HVS : Hid (I64 cv) := Go.Lib.hid hvi
            clear hcells hsg hro hvi hsi
            obtain ⟨sa', scap', hr⟩ := HB.out.rows n0 hn0
            obtain ⟨hfl, hfz⟩ := HB.out.flag n0 hn0
            have q0 : z2.on.cell? ⟨x1.on.heap.size, n0 * 9, none⟩ = some (.int .i64 (ctOf (bestC (slotN ep n0) (certsTo l i j))).view) := hr 0 _ rfl
            clear hr
            have HSP := Go.Lib.hid (show ∀ o, o = bestC (slotN ep n0) (certsTo l i j) → o = bestC (slotN ep n0) (certsTo l i j) from fun _ h => h)
            generalize hbo : bestC (slotN ep n0) (certsTo l i j) = bo at *
            have HBO := Go.Lib.hid hbo; clear hbo
            go_upto_region 14 with fail
            clear m0 m1 m2 m3 m4 m5 m6 m7 m8 hw1 hw2 hw3
            cases bo with
            | none =>
              as_aux_lemma =>
              (refine wp_region_ext_lit (by kernel_rfl) (by kernel_rfl) ?_; (repeat (go_big_quiet_step (fail))); refine wpQuiet_nil ?_; intro _ hw'; obtain ⟨xq, hw''⟩ := hw'; subst hw'')
              have BB := Go.Lib.hid (HB.out.ext (by (repeat (first | with_reducible exact Ext.refl _ _ | assumption | with_reducible refine Ext.upN ?_ | with_reducible refine Ext.alloc ?_ _ | with_reducible refine Ext.upA (by assumption) ?_ | with_reducible refine Ext.upW ?_ | with_reducible refine Ext.drew ?_ | with_reducible refine Ext.drewN ?_ _ | with_reducible refine Ext.upF ?_ | with_reducible refine Ext.upFF (by first | omega | simp) ?_ | with_reducible refine Ext.setCellsF _ _ _ (by first | omega | simp) ?_ | with_reducible refine Ext.setCellF _ _ _ (by first | omega | simp) ?_ | with_reducible refine Ext.upFN (by first | omega | simp) ?_ | with_reducible refine Ext.up1F (by first | omega | simp) ?_ | with_reducible refine Ext.up1N (by first | omega | simp) ?_ | with_reducible refine Ext.setCell ?_ (.inr (by first | omega | simp)) _ | refine Ext.alloc ?_ _ | refine Ext.setCellF _ _ _ (by first | omega | simp) ?_ | refine Ext.setCell ?_ (.inr (by first | omega | simp)) _)) : Ext Non z2.on xq.on) (fun f => f) (fun f => f))
              go_wp2_with (refine wpList_store_at rfl 52 _ _ rfl x1.on.heap.size (n0 * 9) [.int .i64 cv, .int .i64 cs, .int .i64 rc, .int .i64 rs, .int .i64 rk, .string rkey, .float .f64 rx, .int .i64 rid, .slice sa sl.length scap] rfl rfl (there_sub BB.out.there (Nat.zero_le _) (by simp; omega)) info_cert (by simp [Value.oneCell']) (fun W hR hO hT => ?_); have HR := Go.Lib.hid hR; have HO := Go.Lib.hid hO; have HT := Go.Lib.hid hT; clear hR hO hT)
              go_roundw
              case rel => exact ⟨j + 1, ⟨_, by (repeat (first | with_reducible exact Ext.refl _ _ | assumption | with_reducible refine Ext.upN ?_ | with_reducible refine Ext.alloc ?_ _ | with_reducible refine Ext.upA (by assumption) ?_ | with_reducible refine Ext.upW ?_ | with_reducible refine Ext.drew ?_ | with_reducible refine Ext.drewN ?_ _ | with_reducible refine Ext.upF ?_ | with_reducible refine Ext.upFF (by first | omega | simp) ?_ | with_reducible refine Ext.setCellsF _ _ _ (by first | omega | simp) ?_ | with_reducible refine Ext.setCellF _ _ _ (by first | omega | simp) ?_ | with_reducible refine Ext.upFN (by first | omega | simp) ?_ | with_reducible refine Ext.up1F (by first | omega | simp) ?_ | with_reducible refine Ext.up1N (by first | omega | simp) ?_ | with_reducible refine Ext.setCell ?_ (.inr (by first | omega | simp)) _ | refine Ext.alloc ?_ _ | refine Ext.setCellF _ _ _ (by first | omega | simp) ?_ | refine Ext.setCell ?_ (.inr (by first | omega | simp)) _))⟩, hjl, by rw [HP.out, lastC_snoc ep _ (⟨cv, cs, ⟨rc, rs, ⟨rk, rkey, rx, rid⟩⟩, sl⟩ : Ct) n0 hn0 HSl.out]; exact max_val _ _, by go_num, rfl, Go.Lib.hid (by rw [HP.out]; exact BB.out.put (⟨cv, cs, ⟨rc, rs, ⟨rk, rkey, rx, rid⟩⟩, sl⟩ : Ct) n0 hn0 HSl.out (by rw [HBO.out]; unfold stepB; rw [if_pos HSl.out]) sa scap HR.out HO.out HT.out W.ext (Ne.symm hkne) rfl)⟩
              case measure => simp [intOf]; omega
            | some y =>
              obtain ⟨ov, os, oq, ol⟩ := y
              have q0' : z2.on.cell? ⟨x1.on.heap.size, n0 * 9, none⟩ = some (.int .i64 ov) := q0
              clear q0
              by_cases hv : ov < cv
              · as_aux_lemma =>
                have hbv : decide (ov < cv) = true := decide_eq_true hv
                (refine wp_region_ext_lit (by kernel_rfl) (by kernel_rfl) ?_; (repeat (go_big_quiet_step (fail))); refine wpQuiet_nil ?_; intro _ hw'; obtain ⟨xq, hw''⟩ := hw'; subst hw'')
                have BB := Go.Lib.hid (HB.out.ext (by (repeat (first | with_reducible exact Ext.refl _ _ | assumption | with_reducible refine Ext.upN ?_ | with_reducible refine Ext.alloc ?_ _ | with_reducible refine Ext.upA (by assumption) ?_ | with_reducible refine Ext.upW ?_ | with_reducible refine Ext.drew ?_ | with_reducible refine Ext.drewN ?_ _ | with_reducible refine Ext.upF ?_ | with_reducible refine Ext.upFF (by first | omega | simp) ?_ | with_reducible refine Ext.setCellsF _ _ _ (by first | omega | simp) ?_ | with_reducible refine Ext.setCellF _ _ _ (by first | omega | simp) ?_ | with_reducible refine Ext.upFN (by first | omega | simp) ?_ | with_reducible refine Ext.up1F (by first | omega | simp) ?_ | with_reducible refine Ext.up1N (by first | omega | simp) ?_ | with_reducible refine Ext.setCell ?_ (.inr (by first | omega | simp)) _ | refine Ext.alloc ?_ _ | refine Ext.setCellF _ _ _ (by first | omega | simp) ?_ | refine Ext.setCell ?_ (.inr (by first | omega | simp)) _)) : Ext Non z2.on xq.on) (fun f => f) (fun f => f))
                go_wp2_with (refine wpList_store_at rfl 52 _ _ rfl x1.on.heap.size (n0 * 9) [.int .i64 cv, .int .i64 cs, .int .i64 rc, .int .i64 rs, .int .i64 rk, .string rkey, .float .f64 rx, .int .i64 rid, .slice sa sl.length scap] rfl rfl (there_sub BB.out.there (Nat.zero_le _) (by simp; omega)) info_cert (by simp [Value.oneCell']) (fun W hR hO hT => ?_); have HR := Go.Lib.hid hR; have HO := Go.Lib.hid hO; have HT := Go.Lib.hid hT; clear hR hO hT)
                go_roundw
                case rel => exact ⟨j + 1, ⟨_, by (repeat (first | with_reducible exact Ext.refl _ _ | assumption | with_reducible refine Ext.upN ?_ | with_reducible refine Ext.alloc ?_ _ | with_reducible refine Ext.upA (by assumption) ?_ | with_reducible refine Ext.upW ?_ | with_reducible refine Ext.drew ?_ | with_reducible refine Ext.drewN ?_ _ | with_reducible refine Ext.upF ?_ | with_reducible refine Ext.upFF (by first | omega | simp) ?_ | with_reducible refine Ext.setCellsF _ _ _ (by first | omega | simp) ?_ | with_reducible refine Ext.setCellF _ _ _ (by first | omega | simp) ?_ | with_reducible refine Ext.upFN (by first | omega | simp) ?_ | with_reducible refine Ext.up1F (by first | omega | simp) ?_ | with_reducible refine Ext.up1N (by first | omega | simp) ?_ | with_reducible refine Ext.setCell ?_ (.inr (by first | omega | simp)) _ | refine Ext.alloc ?_ _ | refine Ext.setCellF _ _ _ (by first | omega | simp) ?_ | refine Ext.setCell ?_ (.inr (by first | omega | simp)) _))⟩, hjl, by rw [HP.out, lastC_snoc ep _ (⟨cv, cs, ⟨rc, rs, ⟨rk, rkey, rx, rid⟩⟩, sl⟩ : Ct) n0 hn0 HSl.out]; exact max_val _ _, by go_num, rfl, Go.Lib.hid (by rw [HP.out]; exact BB.out.put (⟨cv, cs, ⟨rc, rs, ⟨rk, rkey, rx, rid⟩⟩, sl⟩ : Ct) n0 hn0 HSl.out (by rw [HBO.out]; unfold stepB; rw [if_pos HSl.out]; dsimp only; rw [if_pos hv]) sa scap HR.out HO.out HT.out W.ext (Ne.symm hkne) rfl)⟩
                case measure => simp [intOf]; omega
              · as_aux_lemma =>
                have hbv : decide (ov < cv) = false := decide_eq_false hv
                have HZ : Hid (BestW ep z2.on x1.on.heap.size W0.on.heap.size (certsTo l i (j + 1))) := Go.Lib.hid (by rw [HP.out]; exact HB.out.same (⟨cv, cs, ⟨rc, rs, ⟨rk, rkey, rx, rid⟩⟩, sl⟩ : Ct) n0 HSl.out (by rw [HBO.out]; unfold stepB; rw [if_pos HSl.out]; dsimp only; rw [if_neg (by omega)]))
                (refine wp_region_ext_lit (by kernel_rfl) (by kernel_rfl) ?_; (repeat (go_big_quiet_step (fail))); refine wpQuiet_nil ?_; intro _ hw'; obtain ⟨xq, hw''⟩ := hw'; subst hw'')
                go_wp2_with fail
                go_roundw
                case rel => exact ⟨j + 1, ⟨_, by (repeat (first | with_reducible exact Ext.refl _ _ | assumption | with_reducible refine Ext.upN ?_ | with_reducible refine Ext.alloc ?_ _ | with_reducible refine Ext.upA (by assumption) ?_ | with_reducible refine Ext.upW ?_ | with_reducible refine Ext.drew ?_ | with_reducible refine Ext.drewN ?_ _ | with_reducible refine Ext.upF ?_ | with_reducible refine Ext.upFF (by first | omega | simp) ?_ | with_reducible refine Ext.setCellsF _ _ _ (by first | omega | simp) ?_ | with_reducible refine Ext.setCellF _ _ _ (by first | omega | simp) ?_ | with_reducible refine Ext.upFN (by first | omega | simp) ?_ | with_reducible refine Ext.up1F (by first | omega | simp) ?_ | with_reducible refine Ext.up1N (by first | omega | simp) ?_ | with_reducible refine Ext.setCell ?_ (.inr (by first | omega | simp)) _ | refine Ext.alloc ?_ _ | refine Ext.setCellF _ _ _ (by first | omega | simp) ?_ | refine Ext.setCell ?_ (.inr (by first | omega | simp)) _))⟩, hjl, by rw [HP.out, lastC_snoc ep _ (⟨cv, cs, ⟨rc, rs, ⟨rk, rkey, rx, rid⟩⟩, sl⟩ : Ct) n0 hn0 HSl.out]; exact max_val _ _, by go_num, rfl, Go.Lib.hid (HZ.out.ext (by (repeat (first | with_reducible exact Ext.refl _ _ | assumption | with_reducible refine Ext.upN ?_ | with_reducible refine Ext.alloc ?_ _ | with_reducible refine Ext.upA (by assumption) ?_ | with_reducible refine Ext.upW ?_ | with_reducible refine Ext.drew ?_ | with_reducible refine Ext.drewN ?_ _ | with_reducible refine Ext.upF ?_ | with_reducible refine Ext.upFF (by first | omega | simp) ?_ | with_reducible refine Ext.setCellsF _ _ _ (by first | omega | simp) ?_ | with_reducible refine Ext.setCellF _ _ _ (by first | omega | simp) ?_ | with_reducible refine Ext.upFN (by first | omega | simp) ?_ | with_reducible refine Ext.up1F (by first | omega | simp) ?_ | with_reducible refine Ext.up1N (by first | omega | simp) ?_ | with_reducible refine Ext.setCell ?_ (.inr (by first | omega | simp)) _ | refine Ext.alloc ?_ _ | refine Ext.setCellF _ _ _ (by first | omega | simp) ?_ | refine Ext.setCell ?_ (.inr (by first | omega | simp)) _)) : Ext Non _ _) (fun f => f) (fun f => f))⟩
                case measure => simp [intOf]; omega
          · have e : certsTo l i j = certsTo l (i + 1) 0 := certsTo_next l i j hlt (by rw [HCC.out]; simp; omega)
            have HB' : Hid (BestW ep z2.on x1.on.heap.size W0.on.heap.size (certsTo l (i + 1) 0)) := Go.Lib.hid (by rw [← e]; exact HB.out)
            have E := Go.Lib.hid e; clear e
            go_wp2_with fail
            go_roundw
            case rel => exact ⟨i + 1, ⟨_, by (repeat (first | with_reducible exact Ext.refl _ _ | assumption | with_reducible refine Ext.upN ?_ | with_reducible refine Ext.alloc ?_ _ | with_reducible refine Ext.upA (by assumption) ?_ | with_reducible refine Ext.upW ?_ | with_reducible refine Ext.drew ?_ | with_reducible refine Ext.drewN ?_ _ | with_reducible refine Ext.upF ?_ | with_reducible refine Ext.upFF (by first | omega | simp) ?_ | with_reducible refine Ext.setCellsF _ _ _ (by first | omega | simp) ?_ | with_reducible refine Ext.setCellF _ _ _ (by first | omega | simp) ?_ | with_reducible refine Ext.upFN (by first | omega | simp) ?_ | with_reducible refine Ext.up1F (by first | omega | simp) ?_ | with_reducible refine Ext.up1N (by first | omega | simp) ?_ | with_reducible refine Ext.setCell ?_ (.inr (by first | omega | simp)) _ | refine Ext.alloc ?_ _ | refine Ext.setCellF _ _ _ (by first | omega | simp) ?_ | refine Ext.setCell ?_ (.inr (by first | omega | simp)) _))⟩, hlt, by rw [E.out], by go_num, rfl, HB'⟩
            case measure => simp [intOf]; omega
      · skip
        have e : certsTo l i 0 = l.flatMap (·.certs) := certsTo_end l i (by omega)
        rw [e] at HB hlc
        have HLn := Go.Lib.hid (pickR_length ep l)
        have HTk := Go.Lib.hid (fun k => pickR_take ep l k)
        have HPk : Hid (pickL ep xs view l = pickR ep l) := Go.Lib.hid (by rw [DF.out]; simp)
        have HRw : Hid (∀ n, n < 4 → ∃ sa scap, z.on.rangeAt x1.on.heap.size (n * 9) ((ctOf (bestC (slotN ep n) (l.flatMap (·.certs)))).cells sa scap)) := Go.Lib.hid HB.out.rows
        have hzs : x1.on.heap.size < z.on.heap.size := by have := HB.out.there 0 (by omega); obtain ⟨u, hu⟩ := Option.isSome_iff_exists.1 this.1; exact lt_of_cell hu
        have hws : w.heap.size < z.on.heap.size := by omega
        rw [e]
        clear e HB
        generalize lastC ep (l.flatMap (·.certs)) = cnt at *
        have hc4 : (cnt : Int) ≤ 4 := by omega
        go_wp2_with (refine wpList_make_ew rfl _ _ 38 rfl 49 6 56 _ Try.underlying38 info_req (by omega) cnt rfl rfl (by omega) (fun W1 hO => ?_); have HO1 := Go.Lib.hid hO; clear hO)
        go_loopw [17, 78] (fun ov iv wr => ∃ (k : Nat) (v : Value) (z3 : EW (From z.on.heap.size) W1.on), k ≤ cnt ∧ v = ov ∧ iv = .int .i64 k ∧ wr = z3.on ∧ Hid (wr.ownsRow z.on.heap.size 49 6 v k (reqCells ((pickR ep l).take k)))) (fun _ iv _ => cnt - (intOf iv).toNat)
        case atStart => exact ⟨0, _, ⟨_, Ext.refl _ _⟩, Nat.zero_le _, rfl, rfl, rfl, Go.Lib.hid (by rw [List.take_zero]; exact HO1.out)⟩
        case round =>
          clear HO1
          obtain ⟨k, v, z3, hk, rfl, rfl, rfl, HO⟩ := hrel
          by_cases hkl : k < cnt
          · obtain ⟨sa, scap, hr⟩ := HRw.out k (by omega)
            have hr' := range_ext (range_ext hr W1.ext (fun f => f)) z3.ext (by unfold From; omega)
            have HT := Go.Lib.hid (HTk.out k hkl)
            have HRq := Go.Lib.hid (ctOf_req (bestC (slotN ep k) (l.flatMap (·.certs))))
            generalize ctOf (bestC (slotN ep k) (l.flatMap (·.certs))) = oo at *
            obtain ⟨ov, os, ⟨oc, ot, ⟨ok, okey, ox, oid⟩⟩, ol⟩ := oo
            have q0 : z3.on.cell? ⟨x1.on.heap.size, k * 9, none⟩ = some (.int .i64 ov) := hr' 0 _ rfl
            have q1 : z3.on.cell? ⟨x1.on.heap.size, k * 9 + 1, none⟩ = some (.int .i64 os) := hr' 1 _ rfl
            have q2 : z3.on.cell? ⟨x1.on.heap.size, k * 9 + 2, none⟩ = some (.int .i64 oc) := hr' 2 _ rfl
            have q3 : z3.on.cell? ⟨x1.on.heap.size, k * 9 + 3, none⟩ = some (.int .i64 ot) := hr' 3 _ rfl
            have q4 : z3.on.cell? ⟨x1.on.heap.size, k * 9 + 4, none⟩ = some (.int .i64 ok) := hr' 4 _ rfl
            have q5 : z3.on.cell? ⟨x1.on.heap.size, k * 9 + 5, none⟩ = some (.string okey) := hr' 5 _ rfl
            have q6 : z3.on.cell? ⟨x1.on.heap.size, k * 9 + 6, none⟩ = some (.float .f64 ox) := hr' 6 _ rfl
            have q7 : z3.on.cell? ⟨x1.on.heap.size, k * 9 + 7, none⟩ = some (.int .i64 oid) := hr' 7 _ rfl
            have q8 : z3.on.cell? ⟨x1.on.heap.size, k * 9 + 8, none⟩ = some (.slice sa ol.length scap) := hr' 8 _ rfl
            have hki : (k : Int) < (cnt : Int) := by omega
            have hz3 : z.on.heap.size ≤ z3.on.heap.size := Nat.le_trans W1.ext.size z3.ext.size
            clear hr hr'
            go_wp2_with (at_builtin; refine wpList_append_ew rfl _ _ 38 rfl z.on.heap.size 49 6 56 _ Try.underlying38 info_req (by rfl) (by omega) (by omega) _ k _ rfl (ownR_extN HO.out (by (repeat (first | with_reducible exact Ext.refl _ _ | assumption | with_reducible refine Ext.upN ?_ | with_reducible refine Ext.alloc ?_ _ | with_reducible refine Ext.upA (by assumption) ?_ | with_reducible refine Ext.upW ?_ | with_reducible refine Ext.drew ?_ | with_reducible refine Ext.drewN ?_ _ | with_reducible refine Ext.upF ?_ | with_reducible refine Ext.upFF (by first | omega | simp) ?_ | with_reducible refine Ext.setCellsF _ _ _ (by first | omega | simp) ?_ | with_reducible refine Ext.setCellF _ _ _ (by first | omega | simp) ?_ | with_reducible refine Ext.upFN (by first | omega | simp) ?_ | with_reducible refine Ext.up1F (by first | omega | simp) ?_ | with_reducible refine Ext.up1N (by first | omega | simp) ?_ | with_reducible refine Ext.setCell ?_ (.inr (by first | omega | simp)) _ | refine Ext.alloc ?_ _ | refine Ext.setCellF _ _ _ (by first | omega | simp) ?_ | refine Ext.setCell ?_ (.inr (by first | omega | simp)) _)))) _ [.int .i64 oc, .int .i64 ot, .int .i64 ok, .string okey, .float .f64 ox, .int .i64 oid] _ rfl (Bx.newAt _ _ _ _ (by simp)) rfl (by simp [Value.oneCell']) (by omega) (by simp; omega) (fun v' W2 hO => ?_); have HO2 := Go.Lib.hid hO; clear hO)
            have HO3 : Hid (W2.on.ownsRow z.on.heap.size 49 6 v' (k + 1) (reqCells ((pickR ep l).take (k + 1)))) := Go.Lib.hid (by rw [HT.out, reqCells_snoc, ← HRq.out]; exact HO2.out)
            go_roundw
            case rel => exact ⟨k + 1, v', ⟨_, by (repeat (first | with_reducible exact Ext.refl _ _ | assumption | with_reducible refine Ext.upN ?_ | with_reducible refine Ext.alloc ?_ _ | with_reducible refine Ext.upA (by assumption) ?_ | with_reducible refine Ext.upW ?_ | with_reducible refine Ext.drew ?_ | with_reducible refine Ext.drewN ?_ _ | with_reducible refine Ext.upF ?_ | with_reducible refine Ext.upFF (by first | omega | simp) ?_ | with_reducible refine Ext.setCellsF _ _ _ (by first | omega | simp) ?_ | with_reducible refine Ext.setCellF _ _ _ (by first | omega | simp) ?_ | with_reducible refine Ext.upFN (by first | omega | simp) ?_ | with_reducible refine Ext.up1F (by first | omega | simp) ?_ | with_reducible refine Ext.up1N (by first | omega | simp) ?_ | with_reducible refine Ext.setCell ?_ (.inr (by first | omega | simp)) _ | refine Ext.alloc ?_ _ | refine Ext.setCellF _ _ _ (by first | omega | simp) ?_ | refine Ext.setCell ?_ (.inr (by first | omega | simp)) _))⟩, hkl, rfl, by go_num, rfl, HO3⟩
            case measure => simp [intOf]; omega
          · have HKC : Hid (k = cnt) := Go.Lib.hid (by omega)
            go_wp2
            go_returns
            refine ⟨v, by rw [HTe.out]; rfl, ?_, Ext.trans (by (repeat (first | with_reducible exact Ext.refl _ _ | assumption | with_reducible refine Ext.upN ?_ | with_reducible refine Ext.alloc ?_ _ | with_reducible refine Ext.upA (by assumption) ?_ | with_reducible refine Ext.upW ?_ | with_reducible refine Ext.drew ?_ | with_reducible refine Ext.drewN ?_ _ | with_reducible refine Ext.upF ?_ | with_reducible refine Ext.upFF (by first | omega | simp) ?_ | with_reducible refine Ext.setCellsF _ _ _ (by first | omega | simp) ?_ | with_reducible refine Ext.setCellF _ _ _ (by first | omega | simp) ?_ | with_reducible refine Ext.upFN (by first | omega | simp) ?_ | with_reducible refine Ext.up1F (by first | omega | simp) ?_ | with_reducible refine Ext.up1N (by first | omega | simp) ?_ | with_reducible refine Ext.setCell ?_ (.inr (by first | omega | simp)) _ | refine Ext.alloc ?_ _ | refine Ext.setCellF _ _ _ (by first | omega | simp) ?_ | refine Ext.setCell ?_ (.inr (by first | omega | simp)) _)) : Ext Non w z.on) (Ext.fromNon (Nat.le_refl _) (by (repeat (first | with_reducible exact Ext.refl _ _ | assumption | with_reducible refine Ext.upN ?_ | with_reducible refine Ext.alloc ?_ _ | with_reducible refine Ext.upA (by assumption) ?_ | with_reducible refine Ext.upW ?_ | with_reducible refine Ext.drew ?_ | with_reducible refine Ext.drewN ?_ _ | with_reducible refine Ext.upF ?_ | with_reducible refine Ext.upFF (by first | omega | simp) ?_ | with_reducible refine Ext.setCellsF _ _ _ (by first | omega | simp) ?_ | with_reducible refine Ext.setCellF _ _ _ (by first | omega | simp) ?_ | with_reducible refine Ext.upFN (by first | omega | simp) ?_ | with_reducible refine Ext.up1F (by first | omega | simp) ?_ | with_reducible refine Ext.up1N (by first | omega | simp) ?_ | with_reducible refine Ext.setCell ?_ (.inr (by first | omega | simp)) _ | refine Ext.alloc ?_ _ | refine Ext.setCellF _ _ _ (by first | omega | simp) ?_ | refine Ext.setCell ?_ (.inr (by first | omega | simp)) _))))⟩
            rw [HPk.out, HLn.out]
            obtain rfl := HKC.out
            have := HO.out
            rw [List.take_of_length_le (by rw [HLn.out]; omega)] at this
            exact ownR_base this (by omega)
  · as_aux_lemma =>
    have HN := Go.Lib.hid h0
    have hbe : (te != 0) = true := by rw [bne_iff_ne]; exact h0
    clear h0
    go_wp2
    go_returns
    have e : pickL ep xs view l = [] := by rw [DF.out, if_neg (show ¬ te = 0 from HN.out)]
    exact ⟨.slice none 0 0, by rw [HTe.out]; rfl, by rw [e]; exact World.ownsRow_nil _ _ _ _, by (repeat (first | with_reducible exact Ext.refl _ _ | assumption | with_reducible refine Ext.upN ?_ | with_reducible refine Ext.alloc ?_ _ | with_reducible refine Ext.upA (by assumption) ?_ | with_reducible refine Ext.upW ?_ | with_reducible refine Ext.drew ?_ | with_reducible refine Ext.drewN ?_ _ | with_reducible refine Ext.upF ?_ | with_reducible refine Ext.upFF (by first | omega | simp) ?_ | with_reducible refine Ext.setCellsF _ _ _ (by first | omega | simp) ?_ | with_reducible refine Ext.setCellF _ _ _ (by first | omega | simp) ?_ | with_reducible refine Ext.upFN (by first | omega | simp) ?_ | with_reducible refine Ext.up1F (by first | omega | simp) ?_ | with_reducible refine Ext.up1N (by first | omega | simp) ?_ | with_reducible refine Ext.setCell ?_ (.inr (by first | omega | simp)) _ | refine Ext.alloc ?_ _ | refine Ext.setCellF _ _ _ (by first | omega | simp) ?_ | refine Ext.setCell ?_ (.inr (by first | omega | simp)) _))⟩
end Go.Proofs.Ytakbkpklfihfiaa
