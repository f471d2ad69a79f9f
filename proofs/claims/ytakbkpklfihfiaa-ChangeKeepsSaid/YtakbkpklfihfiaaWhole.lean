/- Contracts of the reference of layer 11 and 16: wholly the same requests. -/
import Derived.Test.YtakbkpklfihfiaaPickW
namespace Go.Proofs.Ytakbkpklfihfiaa
open Go.RowKit Go.Lib F64
set_option linter.unusedSimpArgs false
set_option linter.unusedVariables false
attribute [local go_sem] run_store_float
attribute [local go_sem low] EW.cellN EW.frozN alloc_cell_or alloc_froz_or
def wholeB (a b : Req) : Bool := (a.client == b.client) && (a.stamp == b.stamp) && (a.op.kind == b.op.kind) && (a.op.key.toList == b.op.key.toList) && (a.op.id == b.op.id) && (canonN a.op.real == canonN b.op.real)
theorem wholeB_self (a : Req) : wholeB a a = true := by unfold wholeB; simp
set_option maxHeartbeats 4000000 in
set_option maxRecDepth 100000 in
theorem ref_Whole (c1 s1 k1 : Int) (key1 : ByteArray) (x1 : Nat) (id1 : Int) (c2 s2 k2 : Int) (key2 : ByteArray) (x2 : Nat) (id2 : Int) (w : World) :
    Calls Try.prog 22 #[.agg #[.int .i64 c1, .int .i64 s1, .int .i64 k1, .string key1, .float .f64 x1, .int .i64 id1], .agg #[.int .i64 c2, .int .i64 s2, .int .i64 k2, .string key2, .float .f64 x2, .int .i64 id2]] w fun e w' =>
    e = .returned (.bool (wholeB ⟨c1, s1, ⟨k1, key1, x1, id1⟩⟩ ⟨c2, s2, ⟨k2, key2, x2, id2⟩⟩)) ∧ Ext Non w w' := by
  have DW : Hid (wholeB ⟨c1, s1, ⟨k1, key1, x1, id1⟩⟩ ⟨c2, s2, ⟨k2, key2, x2, id2⟩⟩ = ((c1 == c2) && (s1 == s2) && (k1 == k2) && (key1.toList == key2.toList) && (id1 == id2) && (canonN x1 == canonN x2))) := Go.Lib.hid rfl
  go_enter Try.func22, Try.ntmps22
  go_wp2_with fail
  (refine wp_region_ext_lit (by kernel_rfl) (by kernel_rfl) ?_)
  ((try simp only [Bool.not_true, Bool.not_false, Bool.or_false, Bool.or_true, Bool.false_or, Bool.true_or, Bool.and_true, Bool.true_and, Bool.and_false, Bool.false_and]); (repeat (go_big_quiet_step ((go_at_call 76; exact Calls.ext_eq (ref_Bits _ _))))))
  cases hb0 : (c1 == c2)
  · as_aux_lemma =>
    have G0 := Go.Lib.hid hb0; clear hb0
    ((try simp only [Bool.not_true, Bool.not_false, Bool.or_false, Bool.or_true, Bool.false_or, Bool.true_or, Bool.and_true, Bool.true_and, Bool.and_false, Bool.false_and]); (repeat (go_big_quiet_step ((go_at_call 76; exact Calls.ext_eq (ref_Bits _ _))))))
    (refine wpQuiet_nil ?_; intro _ hw'; obtain ⟨xq, hw''⟩ := hw'; subst hw'')
    go_wp2
    go_ret
    exact ⟨ret_bool (by rw [DW.out, G0.out]; simp), by (repeat (first | with_reducible exact Ext.refl _ _ | assumption | with_reducible refine Ext.upN ?_ | with_reducible refine Ext.alloc ?_ _ | with_reducible refine Ext.upA (by assumption) ?_ | with_reducible refine Ext.upW ?_ | with_reducible refine Ext.drew ?_ | with_reducible refine Ext.drewN ?_ _ | with_reducible refine Ext.upF ?_ | with_reducible refine Ext.upFF (by first | omega | simp) ?_ | with_reducible refine Ext.setCellsF _ _ _ (by first | omega | simp) ?_ | with_reducible refine Ext.setCellF _ _ _ (by first | omega | simp) ?_ | with_reducible refine Ext.upFN (by first | omega | simp) ?_ | with_reducible refine Ext.up1F (by first | omega | simp) ?_ | with_reducible refine Ext.up1N (by first | omega | simp) ?_ | with_reducible refine Ext.setCell ?_ (.inr (by first | omega | simp)) _ | refine Ext.alloc ?_ _ | refine Ext.setCellF _ _ _ (by first | omega | simp) ?_ | refine Ext.setCell ?_ (.inr (by first | omega | simp)) _))⟩
  · have G0 := Go.Lib.hid hb0; clear hb0
    ((try simp only [Bool.not_true, Bool.not_false, Bool.or_false, Bool.or_true, Bool.false_or, Bool.true_or, Bool.and_true, Bool.true_and, Bool.and_false, Bool.false_and]); (repeat (go_big_quiet_step ((go_at_call 76; exact Calls.ext_eq (ref_Bits _ _))))))
    cases hb1 : (s1 == s2)
    · as_aux_lemma =>
      have G1 := Go.Lib.hid hb1; clear hb1
      ((try simp only [Bool.not_true, Bool.not_false, Bool.or_false, Bool.or_true, Bool.false_or, Bool.true_or, Bool.and_true, Bool.true_and, Bool.and_false, Bool.false_and]); (repeat (go_big_quiet_step ((go_at_call 76; exact Calls.ext_eq (ref_Bits _ _))))))
      (refine wpQuiet_nil ?_; intro _ hw'; obtain ⟨xq, hw''⟩ := hw'; subst hw'')
      go_wp2
      go_ret
      exact ⟨ret_bool (by rw [DW.out, G0.out, G1.out]; simp), by (repeat (first | with_reducible exact Ext.refl _ _ | assumption | with_reducible refine Ext.upN ?_ | with_reducible refine Ext.alloc ?_ _ | with_reducible refine Ext.upA (by assumption) ?_ | with_reducible refine Ext.upW ?_ | with_reducible refine Ext.drew ?_ | with_reducible refine Ext.drewN ?_ _ | with_reducible refine Ext.upF ?_ | with_reducible refine Ext.upFF (by first | omega | simp) ?_ | with_reducible refine Ext.setCellsF _ _ _ (by first | omega | simp) ?_ | with_reducible refine Ext.setCellF _ _ _ (by first | omega | simp) ?_ | with_reducible refine Ext.upFN (by first | omega | simp) ?_ | with_reducible refine Ext.up1F (by first | omega | simp) ?_ | with_reducible refine Ext.up1N (by first | omega | simp) ?_ | with_reducible refine Ext.setCell ?_ (.inr (by first | omega | simp)) _ | refine Ext.alloc ?_ _ | refine Ext.setCellF _ _ _ (by first | omega | simp) ?_ | refine Ext.setCell ?_ (.inr (by first | omega | simp)) _))⟩
    · have G1 := Go.Lib.hid hb1; clear hb1
      ((try simp only [Bool.not_true, Bool.not_false, Bool.or_false, Bool.or_true, Bool.false_or, Bool.true_or, Bool.and_true, Bool.true_and, Bool.and_false, Bool.false_and]); (repeat (go_big_quiet_step ((go_at_call 76; exact Calls.ext_eq (ref_Bits _ _))))))
      cases hb2 : (k1 == k2)
      · as_aux_lemma =>
        have G2 := Go.Lib.hid hb2; clear hb2
        ((try simp only [Bool.not_true, Bool.not_false, Bool.or_false, Bool.or_true, Bool.false_or, Bool.true_or, Bool.and_true, Bool.true_and, Bool.and_false, Bool.false_and]); (repeat (go_big_quiet_step ((go_at_call 76; exact Calls.ext_eq (ref_Bits _ _))))))
        (refine wpQuiet_nil ?_; intro _ hw'; obtain ⟨xq, hw''⟩ := hw'; subst hw'')
        go_wp2
        go_ret
        exact ⟨ret_bool (by rw [DW.out, G0.out, G1.out, G2.out]; simp), by (repeat (first | with_reducible exact Ext.refl _ _ | assumption | with_reducible refine Ext.upN ?_ | with_reducible refine Ext.alloc ?_ _ | with_reducible refine Ext.upA (by assumption) ?_ | with_reducible refine Ext.upW ?_ | with_reducible refine Ext.drew ?_ | with_reducible refine Ext.drewN ?_ _ | with_reducible refine Ext.upF ?_ | with_reducible refine Ext.upFF (by first | omega | simp) ?_ | with_reducible refine Ext.setCellsF _ _ _ (by first | omega | simp) ?_ | with_reducible refine Ext.setCellF _ _ _ (by first | omega | simp) ?_ | with_reducible refine Ext.upFN (by first | omega | simp) ?_ | with_reducible refine Ext.up1F (by first | omega | simp) ?_ | with_reducible refine Ext.up1N (by first | omega | simp) ?_ | with_reducible refine Ext.setCell ?_ (.inr (by first | omega | simp)) _ | refine Ext.alloc ?_ _ | refine Ext.setCellF _ _ _ (by first | omega | simp) ?_ | refine Ext.setCell ?_ (.inr (by first | omega | simp)) _))⟩
      · have G2 := Go.Lib.hid hb2; clear hb2
        ((try simp only [Bool.not_true, Bool.not_false, Bool.or_false, Bool.or_true, Bool.false_or, Bool.true_or, Bool.and_true, Bool.true_and, Bool.and_false, Bool.false_and]); (repeat (go_big_quiet_step ((go_at_call 76; exact Calls.ext_eq (ref_Bits _ _))))))
        cases hb3 : (key1.toList == key2.toList)
        · as_aux_lemma =>
          have G3 := Go.Lib.hid hb3; clear hb3
          ((try simp only [Bool.not_true, Bool.not_false, Bool.or_false, Bool.or_true, Bool.false_or, Bool.true_or, Bool.and_true, Bool.true_and, Bool.and_false, Bool.false_and]); (repeat (go_big_quiet_step ((go_at_call 76; exact Calls.ext_eq (ref_Bits _ _))))))
          (refine wpQuiet_nil ?_; intro _ hw'; obtain ⟨xq, hw''⟩ := hw'; subst hw'')
          go_wp2
          go_ret
          exact ⟨ret_bool (by rw [DW.out, G0.out, G1.out, G2.out, G3.out]; simp), by (repeat (first | with_reducible exact Ext.refl _ _ | assumption | with_reducible refine Ext.upN ?_ | with_reducible refine Ext.alloc ?_ _ | with_reducible refine Ext.upA (by assumption) ?_ | with_reducible refine Ext.upW ?_ | with_reducible refine Ext.drew ?_ | with_reducible refine Ext.drewN ?_ _ | with_reducible refine Ext.upF ?_ | with_reducible refine Ext.upFF (by first | omega | simp) ?_ | with_reducible refine Ext.setCellsF _ _ _ (by first | omega | simp) ?_ | with_reducible refine Ext.setCellF _ _ _ (by first | omega | simp) ?_ | with_reducible refine Ext.upFN (by first | omega | simp) ?_ | with_reducible refine Ext.up1F (by first | omega | simp) ?_ | with_reducible refine Ext.up1N (by first | omega | simp) ?_ | with_reducible refine Ext.setCell ?_ (.inr (by first | omega | simp)) _ | refine Ext.alloc ?_ _ | refine Ext.setCellF _ _ _ (by first | omega | simp) ?_ | refine Ext.setCell ?_ (.inr (by first | omega | simp)) _))⟩
        · have G3 := Go.Lib.hid hb3; clear hb3
          ((try simp only [Bool.not_true, Bool.not_false, Bool.or_false, Bool.or_true, Bool.false_or, Bool.true_or, Bool.and_true, Bool.true_and, Bool.and_false, Bool.false_and]); (repeat (go_big_quiet_step ((go_at_call 76; exact Calls.ext_eq (ref_Bits _ _))))))
          cases hb4 : (id1 == id2)
          · as_aux_lemma =>
            have G4 := Go.Lib.hid hb4; clear hb4
            ((try simp only [Bool.not_true, Bool.not_false, Bool.or_false, Bool.or_true, Bool.false_or, Bool.true_or, Bool.and_true, Bool.true_and, Bool.and_false, Bool.false_and]); (repeat (go_big_quiet_step ((go_at_call 76; exact Calls.ext_eq (ref_Bits _ _))))))
            (refine wpQuiet_nil ?_; intro _ hw'; obtain ⟨xq, hw''⟩ := hw'; subst hw'')
            go_wp2
            go_ret
            exact ⟨ret_bool (by rw [DW.out, G0.out, G1.out, G2.out, G3.out, G4.out]; simp), by (repeat (first | with_reducible exact Ext.refl _ _ | assumption | with_reducible refine Ext.upN ?_ | with_reducible refine Ext.alloc ?_ _ | with_reducible refine Ext.upA (by assumption) ?_ | with_reducible refine Ext.upW ?_ | with_reducible refine Ext.drew ?_ | with_reducible refine Ext.drewN ?_ _ | with_reducible refine Ext.upF ?_ | with_reducible refine Ext.upFF (by first | omega | simp) ?_ | with_reducible refine Ext.setCellsF _ _ _ (by first | omega | simp) ?_ | with_reducible refine Ext.setCellF _ _ _ (by first | omega | simp) ?_ | with_reducible refine Ext.upFN (by first | omega | simp) ?_ | with_reducible refine Ext.up1F (by first | omega | simp) ?_ | with_reducible refine Ext.up1N (by first | omega | simp) ?_ | with_reducible refine Ext.setCell ?_ (.inr (by first | omega | simp)) _ | refine Ext.alloc ?_ _ | refine Ext.setCellF _ _ _ (by first | omega | simp) ?_ | refine Ext.setCell ?_ (.inr (by first | omega | simp)) _))⟩
          · have G4 := Go.Lib.hid hb4; clear hb4
            ((try simp only [Bool.not_true, Bool.not_false, Bool.or_false, Bool.or_true, Bool.false_or, Bool.true_or, Bool.and_true, Bool.true_and, Bool.and_false, Bool.false_and]); (repeat (go_big_quiet_step ((go_at_call 76; exact Calls.ext_eq (ref_Bits _ _))))))
            (refine wpQuiet_nil ?_; intro _ hw'; obtain ⟨xq, hw''⟩ := hw'; subst hw'')
            go_wp2
            go_ret
            exact ⟨ret_bool (by rw [DW.out, G0.out, G1.out, G2.out, G3.out, G4.out]; rw [Bool.eq_iff_iff]; simp [Int.natCast_inj]), by (repeat (first | with_reducible exact Ext.refl _ _ | assumption | with_reducible refine Ext.upN ?_ | with_reducible refine Ext.alloc ?_ _ | with_reducible refine Ext.upA (by assumption) ?_ | with_reducible refine Ext.upW ?_ | with_reducible refine Ext.drew ?_ | with_reducible refine Ext.drewN ?_ _ | with_reducible refine Ext.upF ?_ | with_reducible refine Ext.upFF (by first | omega | simp) ?_ | with_reducible refine Ext.setCellsF _ _ _ (by first | omega | simp) ?_ | with_reducible refine Ext.setCellF _ _ _ (by first | omega | simp) ?_ | with_reducible refine Ext.upFN (by first | omega | simp) ?_ | with_reducible refine Ext.up1F (by first | omega | simp) ?_ | with_reducible refine Ext.up1N (by first | omega | simp) ?_ | with_reducible refine Ext.setCell ?_ (.inr (by first | omega | simp)) _ | refine Ext.alloc ?_ _ | refine Ext.setCellF _ _ _ (by first | omega | simp) ?_ | refine Ext.setCell ?_ (.inr (by first | omega | simp)) _))⟩
/-- A row of requests that can be read behind an address. -/
structure Reqs (w : World) (a : Option Addr) (cap : Nat) (l : List Req) : Prop where
  le : l.length ≤ cap
  small : cap ≤ 9223372036854775807
  at_ : ∀ j (h : j < l.length), ∃ b o, a = some ⟨b, o, none⟩ ∧ b < w.heap.size ∧ (∀ i v, (l[j].cells)[i]? = some v → w.cell? ⟨b, o + j * 6 + i, none⟩ = some v)
theorem Reqs.ext {S : Nat → Prop} {w w' : World} {a : Option Addr} {cap : Nat} {l : List Req} (h : Reqs w a cap l) (x : Ext S w w') (hs : ∀ b o, a = some ⟨b, o, none⟩ → ¬ S b) : Reqs w' a cap l :=
  ⟨h.le, h.small, fun j hj => by
    obtain ⟨b, o, e, hb, c⟩ := h.at_ j hj
    exact ⟨b, o, e, Nat.lt_of_lt_of_le hb x.size, fun i v hv => (x.cell (p := ⟨b, o + j * 6 + i, none⟩) hb (hs b o e)).trans (c i v hv)⟩⟩
theorem Reqs.extN {w w' : World} {a : Option Addr} {cap : Nat} {l : List Req} (h : Reqs w a cap l) (x : Ext Non w w') : Reqs w' a cap l := h.ext x fun _ _ _ f => f
theorem reqCells_get : ∀ (l : List Req) (j i : Nat) (h : j < l.length), i < 6 → (reqCells l)[j * 6 + i]? = (l[j].cells)[i]?
  | r :: t, 0, i, _, hi => by
    show (r.cells ++ reqCells t)[0 * 6 + i]? = _
    rw [List.getElem?_append_left (by show 0 * 6 + i < 6; omega), Nat.zero_mul, Nat.zero_add]; rfl
  | r :: t, j + 1, i, h, hi => by
    show (r.cells ++ reqCells t)[(j + 1) * 6 + i]? = _
    rw [List.getElem?_append_right (by show 6 ≤ _; omega), show (j + 1) * 6 + i - r.cells.length = j * 6 + i by show (j + 1) * 6 + i - 6 = _; omega]
    exact reqCells_get t j i (by simpa using h) hi
theorem reqs_of_own {w : World} {base : Nat} {e : TypeId} {v : Value} {l : List Req} (h : w.ownsRow base e 6 v l.length (reqCells l)) : ∃ a cap, v = .slice a l.length cap ∧ Reqs w a cap l := by
  rcases h.2 with ⟨rfl, hn⟩ | ⟨g, cap, cur, rfl, hb, hg, hc, hm, hs, ht⟩
  · exact ⟨none, 0, by rw [hn], by omega, by omega, fun j hj => by omega⟩
  · refine ⟨_, cap, rfl, hc, by unfold maxLen at hm; omega, fun j hj => ⟨g, 0, rfl, (Array.getElem?_eq_some_iff.1 hg).1, fun i v hv => ?_⟩⟩
    have hi : i < 6 := (List.getElem?_eq_some_iff.1 hv).1
    have e := reqCells_get l j i hj hi
    rw [hv, ← ht, List.getElem?_take, if_pos (by omega), Array.getElem?_toList] at e
    have hgc : w.cell? ⟨g, j * 6 + i, none⟩ = cur[j * 6 + i]? := by simp [World.cell?, hg]
    rw [Nat.zero_add, hgc]
    exact e
def allW : List Req → List Req → Bool
  | [], [] => true
  | x :: xs, y :: ys => wholeB x y && allW xs ys
  | _, _ => false
theorem allW_self : ∀ l, allW l l = true
  | [] => rfl
  | x :: xs => by unfold allW; rw [wholeB_self, allW_self xs]; rfl
theorem allW_drop (a b : List Req) (i : Nat) (h : i < a.length) (h' : i < b.length) : allW (a.drop i) (b.drop i) = (wholeB a[i] b[i] && allW (a.drop (i + 1)) (b.drop (i + 1))) := by
  rw [List.drop_eq_getElem_cons h, List.drop_eq_getElem_cons h']; rfl
theorem allW_len : ∀ a b, a.length ≠ b.length → allW a b = false
  | [], [], h => absurd rfl h
  | [], _ :: _, _ => rfl
  | _ :: _, [], _ => rfl
  | x :: xs, y :: ys, h => by unfold allW; rw [allW_len xs ys (by simpa using h)]; simp
set_option maxHeartbeats 4000000 in
set_option maxRecDepth 100000 in
theorem ref16_Same (a1 : Option Addr) (c1 : Nat) (l1 : List Req) (a2 : Option Addr) (c2 : Nat) (l2 : List Req) (w : World) (h1 : Reqs w a1 c1 l1) (h2 : Reqs w a2 c2 l2) :
    Calls Try.prog 21 #[.slice a1 l1.length c1, .slice a2 l2.length c2] w fun e w' => e = .returned (.bool (allW l1 l2)) ∧ Ext Non w w' := by
  have H1 := Go.Lib.hid h1; have H2 := Go.Lib.hid h2
  have s1 := h1.small; have e1 := h1.le; have s2 := h2.small; have e2 := h2.le
  clear h1 h2
  by_cases hl : l1.length = l2.length
  · have HL := Go.Lib.hid hl
    have hlb : (l1.length != l2.length) = false := by rw [bne_eq_false_iff_eq]; exact hl
    have hlb2 : ((l1.length : Int) != (l2.length : Int)) = false := by rw [bne_eq_false_iff_eq]; omega
    clear hl
    go_enter Try.func21, Try.ntmps21
    go_wp2_with fail
    go_loopw [5] (fun iv wr => ∃ (i : Nat) (z : EW Non w), i ≤ l1.length ∧ iv = .int .i64 i ∧ wr = z.on ∧ Hid (allW l1 l2 = allW (l1.drop i) (l2.drop i))) (fun iv _ => l1.length - (intOf iv).toNat)
    case atStart => exact ⟨0, ⟨_, by (repeat (first | with_reducible exact Ext.refl _ _ | assumption | with_reducible refine Ext.upN ?_ | with_reducible refine Ext.alloc ?_ _ | with_reducible refine Ext.upA (by assumption) ?_ | with_reducible refine Ext.upW ?_ | with_reducible refine Ext.drew ?_ | with_reducible refine Ext.drewN ?_ _ | with_reducible refine Ext.upF ?_ | with_reducible refine Ext.upFF (by first | omega | simp) ?_ | with_reducible refine Ext.setCellsF _ _ _ (by first | omega | simp) ?_ | with_reducible refine Ext.setCellF _ _ _ (by first | omega | simp) ?_ | with_reducible refine Ext.upFN (by first | omega | simp) ?_ | with_reducible refine Ext.up1F (by first | omega | simp) ?_ | with_reducible refine Ext.up1N (by first | omega | simp) ?_ | with_reducible refine Ext.setCell ?_ (.inr (by first | omega | simp)) _ | refine Ext.alloc ?_ _ | refine Ext.setCellF _ _ _ (by first | omega | simp) ?_ | refine Ext.setCell ?_ (.inr (by first | omega | simp)) _))⟩, Nat.zero_le _, rfl, rfl, Go.Lib.hid rfl⟩
    case round =>
      obtain ⟨i, z, hi, rfl, rfl, HA⟩ := hrel
      by_cases hlt : i < l1.length
      · have hlt2 : i < l2.length := by have := HL.out; omega
        obtain ⟨b1, o1, rfl, hb1, k1⟩ := H1.out.at_ i hlt
        obtain ⟨b2, o2, rfl, hb2, k2⟩ := H2.out.at_ i hlt2
        have HD := Go.Lib.hid (allW_drop l1 l2 i hlt hlt2)
        generalize l1[i] = q1 at *
        generalize l2[i] = q2 at *
        obtain ⟨rc, rs, ⟨rk, rkey, rx, rid⟩⟩ := q1
        obtain ⟨tc, ts, ⟨tk, tkey, tx, tid⟩⟩ := q2
        have p0 : w.cell? ⟨b1, o1 + i * 6, none⟩ = some (.int .i64 rc) := k1 0 _ rfl
        have p1 : w.cell? ⟨b1, o1 + i * 6 + 1, none⟩ = some (.int .i64 rs) := k1 1 _ rfl
        have p2 : w.cell? ⟨b1, o1 + i * 6 + 2, none⟩ = some (.int .i64 rk) := k1 2 _ rfl
        have p3 : w.cell? ⟨b1, o1 + i * 6 + 3, none⟩ = some (.string rkey) := k1 3 _ rfl
        have p4 : w.cell? ⟨b1, o1 + i * 6 + 4, none⟩ = some (.float .f64 rx) := k1 4 _ rfl
        have p5 : w.cell? ⟨b1, o1 + i * 6 + 5, none⟩ = some (.int .i64 rid) := k1 5 _ rfl
        have t0 : w.cell? ⟨b2, o2 + i * 6, none⟩ = some (.int .i64 tc) := k2 0 _ rfl
        have t1 : w.cell? ⟨b2, o2 + i * 6 + 1, none⟩ = some (.int .i64 ts) := k2 1 _ rfl
        have t2 : w.cell? ⟨b2, o2 + i * 6 + 2, none⟩ = some (.int .i64 tk) := k2 2 _ rfl
        have t3 : w.cell? ⟨b2, o2 + i * 6 + 3, none⟩ = some (.string tkey) := k2 3 _ rfl
        have t4 : w.cell? ⟨b2, o2 + i * 6 + 4, none⟩ = some (.float .f64 tx) := k2 4 _ rfl
        have t5 : w.cell? ⟨b2, o2 + i * 6 + 5, none⟩ = some (.int .i64 tid) := k2 5 _ rfl
        have hi2 : (i : Int) < (l2.length : Int) := by omega
        clear k1 k2
        go_upto_region 6 with fail
        (refine wp_region_ext_lit (by kernel_rfl) (by kernel_rfl) ?_)
        ((try simp only [Bool.not_true, Bool.not_false, Bool.or_false, Bool.or_true, Bool.false_or, Bool.true_or, Bool.and_true, Bool.true_and, Bool.and_false, Bool.false_and]); (repeat (go_big_quiet_step ((go_at_call 22; exact Calls.ext_of (ref_Whole rc rs rk rkey rx rid tc ts tk tkey tx tid _))))))
        cases hw : wholeB ⟨rc, rs, ⟨rk, rkey, rx, rid⟩⟩ ⟨tc, ts, ⟨tk, tkey, tx, tid⟩⟩
        · as_aux_lemma =>
          have HW := Go.Lib.hid hw; clear hw
          ((try simp only [Bool.not_true, Bool.not_false, Bool.or_false, Bool.or_true, Bool.false_or, Bool.true_or, Bool.and_true, Bool.true_and, Bool.and_false, Bool.false_and]); (repeat (go_big_quiet_step (fail))))
          (refine wpQuiet_nil ?_; intro _ hw'; obtain ⟨xq, hw''⟩ := hw'; subst hw'')
          go_wp2
          go_ret
          exact ⟨ret_bool (by rw [HA.out, HD.out, HW.out]; rfl), by (repeat (first | with_reducible exact Ext.refl _ _ | assumption | with_reducible refine Ext.upN ?_ | with_reducible refine Ext.alloc ?_ _ | with_reducible refine Ext.upA (by assumption) ?_ | with_reducible refine Ext.upW ?_ | with_reducible refine Ext.drew ?_ | with_reducible refine Ext.drewN ?_ _ | with_reducible refine Ext.upF ?_ | with_reducible refine Ext.upFF (by first | omega | simp) ?_ | with_reducible refine Ext.setCellsF _ _ _ (by first | omega | simp) ?_ | with_reducible refine Ext.setCellF _ _ _ (by first | omega | simp) ?_ | with_reducible refine Ext.upFN (by first | omega | simp) ?_ | with_reducible refine Ext.up1F (by first | omega | simp) ?_ | with_reducible refine Ext.up1N (by first | omega | simp) ?_ | with_reducible refine Ext.setCell ?_ (.inr (by first | omega | simp)) _ | refine Ext.alloc ?_ _ | refine Ext.setCellF _ _ _ (by first | omega | simp) ?_ | refine Ext.setCell ?_ (.inr (by first | omega | simp)) _))⟩
        · have HW := Go.Lib.hid hw; clear hw
          ((try simp only [Bool.not_true, Bool.not_false, Bool.or_false, Bool.or_true, Bool.false_or, Bool.true_or, Bool.and_true, Bool.true_and, Bool.and_false, Bool.false_and]); (repeat (go_big_quiet_step (fail))))
          (refine wpQuiet_nil ?_; intro _ hw'; obtain ⟨xq, hw''⟩ := hw'; subst hw'')
          have HA' : Hid (allW l1 l2 = allW (l1.drop (i + 1)) (l2.drop (i + 1))) := Go.Lib.hid (by rw [HA.out, HD.out, HW.out]; rfl)
          go_wp2_with fail
          go_roundw
          case rel => exact ⟨i + 1, ⟨_, by (repeat (first | with_reducible exact Ext.refl _ _ | assumption | with_reducible refine Ext.upN ?_ | with_reducible refine Ext.alloc ?_ _ | with_reducible refine Ext.upA (by assumption) ?_ | with_reducible refine Ext.upW ?_ | with_reducible refine Ext.drew ?_ | with_reducible refine Ext.drewN ?_ _ | with_reducible refine Ext.upF ?_ | with_reducible refine Ext.upFF (by first | omega | simp) ?_ | with_reducible refine Ext.setCellsF _ _ _ (by first | omega | simp) ?_ | with_reducible refine Ext.setCellF _ _ _ (by first | omega | simp) ?_ | with_reducible refine Ext.upFN (by first | omega | simp) ?_ | with_reducible refine Ext.up1F (by first | omega | simp) ?_ | with_reducible refine Ext.up1N (by first | omega | simp) ?_ | with_reducible refine Ext.setCell ?_ (.inr (by first | omega | simp)) _ | refine Ext.alloc ?_ _ | refine Ext.setCellF _ _ _ (by first | omega | simp) ?_ | refine Ext.setCell ?_ (.inr (by first | omega | simp)) _))⟩, hlt, by go_num, rfl, HA'⟩
          case measure => simp [intOf]; omega
      · have HA' : Hid (allW l1 l2 = true) := Go.Lib.hid (by rw [HA.out, List.drop_eq_nil_of_le (by omega), List.drop_eq_nil_of_le (by have := HL.out; omega)]; rfl)
        go_wp2
        go_ret
        exact ⟨ret_bool HA'.out.symm, by (repeat (first | with_reducible exact Ext.refl _ _ | assumption | with_reducible refine Ext.upN ?_ | with_reducible refine Ext.alloc ?_ _ | with_reducible refine Ext.upA (by assumption) ?_ | with_reducible refine Ext.upW ?_ | with_reducible refine Ext.drew ?_ | with_reducible refine Ext.drewN ?_ _ | with_reducible refine Ext.upF ?_ | with_reducible refine Ext.upFF (by first | omega | simp) ?_ | with_reducible refine Ext.setCellsF _ _ _ (by first | omega | simp) ?_ | with_reducible refine Ext.setCellF _ _ _ (by first | omega | simp) ?_ | with_reducible refine Ext.upFN (by first | omega | simp) ?_ | with_reducible refine Ext.up1F (by first | omega | simp) ?_ | with_reducible refine Ext.up1N (by first | omega | simp) ?_ | with_reducible refine Ext.setCell ?_ (.inr (by first | omega | simp)) _ | refine Ext.alloc ?_ _ | refine Ext.setCellF _ _ _ (by first | omega | simp) ?_ | refine Ext.setCell ?_ (.inr (by first | omega | simp)) _))⟩
  · have HA := Go.Lib.hid (allW_len l1 l2 hl)
    have hlb : (l1.length != l2.length) = true := by rw [bne_iff_ne]; exact hl
    have hlb2 : ((l1.length : Int) != (l2.length : Int)) = true := by rw [bne_iff_ne]; omega
    go_enter Try.func21, Try.ntmps21
    go_wp2
    go_ret
    exact ⟨ret_bool HA.out.symm, by (repeat (first | with_reducible exact Ext.refl _ _ | assumption | with_reducible refine Ext.upN ?_ | with_reducible refine Ext.alloc ?_ _ | with_reducible refine Ext.upA (by assumption) ?_ | with_reducible refine Ext.upW ?_ | with_reducible refine Ext.drew ?_ | with_reducible refine Ext.drewN ?_ _ | with_reducible refine Ext.upF ?_ | with_reducible refine Ext.upFF (by first | omega | simp) ?_ | with_reducible refine Ext.setCellsF _ _ _ (by first | omega | simp) ?_ | with_reducible refine Ext.setCellF _ _ _ (by first | omega | simp) ?_ | with_reducible refine Ext.upFN (by first | omega | simp) ?_ | with_reducible refine Ext.up1F (by first | omega | simp) ?_ | with_reducible refine Ext.up1N (by first | omega | simp) ?_ | with_reducible refine Ext.setCell ?_ (.inr (by first | omega | simp)) _ | refine Ext.alloc ?_ _ | refine Ext.setCellF _ _ _ (by first | omega | simp) ?_ | refine Ext.setCell ?_ (.inr (by first | omega | simp)) _))⟩
end Go.Proofs.Ytakbkpklfihfiaa
