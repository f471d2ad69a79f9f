/- Joined texts: Rd01, Wire1, Wire4, Wire9, Wire10, WireQ. What each proves stands at its head; no conditions beside those in its theorems. -/
import Derived.Test.YtflpkoafebjfdaaGreatPjAR
/- The reference of layer 1 (pack): its reader. -/
namespace Go.Proofs.YtflpkoafebjfdaaGreat
open Go.RowKit Go.Lib
set_option linter.unusedSimpArgs false
set_option linter.unusedVariables false
attribute [local go_sem] run_store_float
attribute [local go_sem low] EW.cellN EW.frozN alloc_cell_or alloc_froz_or EW.cellF EW.frozF EW.cell1 EW.froz1
/-- A reader of the reference, in its box. -/
structure RdW (w : World) (b : Nat) (r : Rd) : Prop where
  box : Bx w b [.string (sB r.s), .bool r.bad] 361
  small : r.s.length ≤ 4611686018427387904
theorem RdW.extN {w w' : World} {b : Nat} {r : Rd} (h : RdW w b r) (x : Ext Non w w') : RdW w' b r := ⟨h.box.extN x, h.small⟩
theorem RdW.ext {S : Nat → Prop} {w w' : World} {b : Nat} {r : Rd} (h : RdW w b r) (x : Ext S w w') (hs : ¬ S b) : RdW w' b r := ⟨h.box.ext x hs, h.small⟩
end Go.Proofs.YtflpkoafebjfdaaGreat

/- Contracts of layer 13 (wire): slots, requests, signatures that fit. -/
namespace Go.Proofs.YtflpkoafebjfdaaGreat
open Go.RowKit Go.Lib F64
set_option linter.unusedSimpArgs false
set_option linter.unusedVariables false
attribute [local go_sem] run_store_float
attribute [local go_sem low] EW.cellN EW.frozN alloc_cell_or alloc_froz_or
set_option maxHeartbeats 4000000 in
set_option maxRecDepth 100000 in
theorem wire_signed0 (sa : Option Addr) (scap : Nat) (l : List Sg) (w : World) (hs : Sigs w sa scap l) : Calls Tryz.prog 184 #[.slice sa l.length scap] w fun e w' => e = .returned (.bool (nodesB l && decide (l.length ≤ 16))) ∧ Ext Non w w' := by
  have HS := Go.Lib.hid hs
  have hsm := hs.small; have hsl := hs.le
  clear hs
  go_enter Tryz.func184, Tryz.ntmps184
  go_wp2_with fail
  go_loopw [7] (fun iv wr => ∃ (i : Nat) (z : EW Non w), i ≤ l.length ∧ iv = .int .i64 i ∧ wr = z.on ∧ Hid (nodesB l = nodesB (l.drop i))) (fun iv _ => l.length - (intOf iv).toNat)
  case atStart => exact ⟨0, ⟨_, by (repeat (first | with_reducible (first | exact Ext.refl _ _ | assumption | refine Ext.upN ?_ | refine Ext.alloc ?_ _ | refine Ext.drew ?_ | refine Ext.drewN ?_ _ | refine Ext.up1N (by first | omega | simp) ?_) | refine Ext.alloc ?_ _ | refine Ext.setCell ?_ (.inr (by first | omega | simp)) _))⟩, Nat.zero_le _, rfl, rfl, Go.Lib.hid rfl⟩
  case round =>
    obtain ⟨i, z, hi, rfl, rfl, HN⟩ := hrel
    by_cases hlt : i < l.length
    · obtain ⟨sb, so, rfl, hsb, c0, c1, hI, hT⟩ := HS.out.at_ i hlt
      have HD := Go.Lib.hid (nodes_drop l i hlt)
      generalize hsg : sgAt l i = sg at *
      obtain ⟨by_, tx⟩ := sg
      clear hsg
      have d0 : w.cell? ⟨sb, so + i * 2, none⟩ = some (.int .i64 by_) := c0
      have d1 : w.cell? ⟨sb, so + i * 2 + 1, none⟩ = some (.string tx) := c1
      clear c0 c1
      by_cases g0 : 0 ≤ by_
      · by_cases g1 : by_ < 200
        · have HQ := Go.Lib.hid (show nodesB l = nodesB (l.drop (i + 1)) by rw [HN.out, HD.out, decide_eq_true g0, decide_eq_true g1]; rfl)
          have g1' : by_ ≤ 199 := by omega
          go_wp2_with fail
          go_roundw
          case rel => exact ⟨i + 1, ⟨_, by (repeat (first | with_reducible (first | exact Ext.refl _ _ | assumption | refine Ext.upN ?_ | refine Ext.alloc ?_ _ | refine Ext.drew ?_ | refine Ext.drewN ?_ _ | refine Ext.up1N (by first | omega | simp) ?_) | refine Ext.alloc ?_ _ | refine Ext.setCell ?_ (.inr (by first | omega | simp)) _))⟩, hlt, by go_num, rfl, HQ⟩
          case measure => simp [intOf]; omega
        · have HQ := Go.Lib.hid (show nodesB l = false by rw [HN.out, HD.out, decide_eq_false g1]; simp)
          have g1' : 199 < by_ := by omega
          go_wp2
          go_ret
          exact ⟨ret_bool (by rw [HQ.out]; rfl), by (repeat (first | with_reducible (first | exact Ext.refl _ _ | assumption | refine Ext.upN ?_ | refine Ext.alloc ?_ _ | refine Ext.drew ?_ | refine Ext.drewN ?_ _ | refine Ext.up1N (by first | omega | simp) ?_) | refine Ext.alloc ?_ _ | refine Ext.setCell ?_ (.inr (by first | omega | simp)) _))⟩
      · have HQ := Go.Lib.hid (show nodesB l = false by rw [HN.out, HD.out, decide_eq_false g0]; simp)
        go_wp2
        go_ret
        exact ⟨ret_bool (by rw [HQ.out]; rfl), by (repeat (first | with_reducible (first | exact Ext.refl _ _ | assumption | refine Ext.upN ?_ | refine Ext.alloc ?_ _ | refine Ext.drew ?_ | refine Ext.drewN ?_ _ | refine Ext.up1N (by first | omega | simp) ?_) | refine Ext.alloc ?_ _ | refine Ext.setCell ?_ (.inr (by first | omega | simp)) _))⟩
    · have HQ := Go.Lib.hid (show nodesB l = true by rw [HN.out, List.drop_eq_nil_of_le (by omega)]; rfl)
      go_wp2
      go_ret
      exact ⟨ret_bool (by rw [HQ.out, Bool.eq_iff_iff]; simp; try omega), by (repeat (first | with_reducible (first | exact Ext.refl _ _ | assumption | refine Ext.upN ?_ | refine Ext.alloc ?_ _ | refine Ext.drew ?_ | refine Ext.drewN ?_ _ | refine Ext.up1N (by first | omega | simp) ?_) | refine Ext.alloc ?_ _ | refine Ext.setCell ?_ (.inr (by first | omega | simp)) _))⟩
theorem wire_signed (sa : Option Addr) (scap : Nat) (l : List Sg) (w : World) (hs : Sigs w sa scap l) : Calls Tryz.prog 184 #[.slice sa l.length scap] w fun e w' => e = .returned (.bool (sigsB l)) ∧ Ext Non w w' := wire_signed0 sa scap l w hs
end Go.Proofs.YtflpkoafebjfdaaGreat

/- Contracts of layer 13 (wire): a chain of links; is the rest of a message zero. -/
namespace Go.Proofs.YtflpkoafebjfdaaGreat
open Go.RowKit Go.Lib F64
set_option linter.unusedSimpArgs false
set_option linter.unusedVariables false
attribute [local go_sem] run_store_float
attribute [local go_sem low] EW.cellN EW.frozN alloc_cell_or alloc_froz_or
theorem i64_wrap (n : Int) : I64 (IntKind.i64.wrap n) := by rw [IntKind.wrap_i64]; unfold I64; omega
set_option maxHeartbeats 4000000 in
set_option maxRecDepth 100000 in
theorem wire_empty (m : Ms) (A : MA) (w : World) (h : MsOk m) (hn : m.next.length ≤ 9223372036854775807 ∧ m.sigs.length ≤ 9223372036854775807 ∧ m.chs.length ≤ 9223372036854775807 ∧ m.lks.length ≤ 9223372036854775807) : Calls Tryz.prog 189 #[.agg (m.cells A).toArray] w fun e w' =>
    e = .returned (.bool (emptyB m.ep m.view m.slot m.next.length m.sigs.length m.chs.length m.lks.length m.text m.req m.res)) ∧ Ext Non w w' := by
  have HO := Go.Lib.hid h
  clear h
  obtain ⟨kind, ep, view, slot, ⟨rc, rs, ⟨rk, rkey, rx, rid⟩⟩, ⟨cd, rr⟩, text, next, sigs, chs, lks⟩ := m; obtain ⟨na, nc, sa, sc, ca, cc, la, lc⟩ := A
  have DF : Hid (emptyB ep view slot next.length sigs.length chs.length lks.length text ⟨rc, rs, ⟨rk, rkey, rx, rid⟩⟩ ⟨cd, rr⟩ = (decide (ep = 0) && decide (view = 0) && decide (slot = 0) && decide (listsI next.length sigs.length chs.length lks.length = 0) && decide (text.size = 0) && nullB ⟨rc, rs, ⟨rk, rkey, rx, rid⟩⟩ && decide (cd = 0) && decide (canonN rr = 0))) := Go.Lib.hid rfl
  have DL : Hid (listsI next.length sigs.length chs.length lks.length = wrap64 (wrap64 (wrap64 ((next.length : Int) + sigs.length) + chs.length) + lks.length)) := Go.Lib.hid (by unfold listsI; simp only [IntWalk.i64_left])
  have h1 := or_i64 ep view HO.out.e HO.out.v
  have h2 := or_i64 (bits .or .i64 ep view) slot h1.2 HO.out.s
  have h3 := or_i64 (bits .or .i64 (bits .or .i64 ep view) slot) (listsI next.length sigs.length chs.length lks.length) h2.2 (i64_wrap _)
  have hor : bits .or .i64 (bits .or .i64 (bits .or .i64 ep view) slot) (listsI next.length sigs.length chs.length lks.length) = 0 ↔ ep = 0 ∧ view = 0 ∧ slot = 0 ∧ listsI next.length sigs.length chs.length lks.length = 0 := by
    rw [h3.1, h2.1, h1.1]
    simp only [and_assoc]
  have t1 : (((canonN rr : Nat) : Int) == 0) = decide (canonN rr = 0) := by rw [Bool.eq_iff_iff]; simp
  clear h1 h2 h3
  unfold Ms.cells
  dsimp only at hn ⊢
  obtain ⟨hn1, hn2, hn3, hn4⟩ := hn
  generalize hB : bits .or .i64 (bits .or .i64 (bits .or .i64 ep view) slot) (listsI next.length sigs.length chs.length lks.length) = B at hor
  by_cases hB0 : B = 0
  · have h0 := Go.Lib.hid (hor.1 hB0)
    subst hB0; clear hor
    by_cases hke : text.toList = []
    · have hs0 := Go.Lib.hid ((toList_nil text).1 hke)
      go_enter Tryz.func189, Tryz.ntmps189
      go_upto_region 2 with fail
      rw [← DL.out]
      go_wp2_with fail
      refine Calls.ew (deeds_Null rc rs rk rkey rx rid HO.out.r.c HO.out.r.s HO.out.r.k HO.out.r.id _) ?_
      rintro e x3 rfl
      cases hnu : nullB ⟨rc, rs, ⟨rk, rkey, rx, rid⟩⟩
      · as_aux_lemma =>
        have H := Go.Lib.hid hnu; clear hnu
        go_wp2
        go_ret
        exact ⟨ret_bool (by rw [DF.out, H.out]; simp), by (repeat (first | with_reducible (first | exact Ext.refl _ _ | assumption | refine Ext.upN ?_ | refine Ext.alloc ?_ _ | refine Ext.drew ?_ | refine Ext.drewN ?_ _ | refine Ext.up1N (by first | omega | simp) ?_) | refine Ext.alloc ?_ _ | refine Ext.setCell ?_ (.inr (by first | omega | simp)) _))⟩
      have HN := Go.Lib.hid hnu; clear hnu
      by_cases hcd : cd = 0
      · have HC := Go.Lib.hid hcd
        subst hcd
        go_wp2_with fail
        refine (reals_Bits rr _).mono ?_
        rintro e w' ⟨rfl, rfl⟩
        go_wp2
        go_ret
        exact ⟨ret_bool (by rw [DF.out, HN.out]; obtain ⟨q1, q2, q3, q4⟩ := h0.out; have q5 := hs0.out; rw [decide_eq_true q1, decide_eq_true q2, decide_eq_true q3, decide_eq_true q4, decide_eq_true q5]; simp), by (repeat (first | with_reducible (first | exact Ext.refl _ _ | assumption | refine Ext.upN ?_ | refine Ext.alloc ?_ _ | refine Ext.drew ?_ | refine Ext.drewN ?_ _ | refine Ext.up1N (by first | omega | simp) ?_) | refine Ext.alloc ?_ _ | refine Ext.setCell ?_ (.inr (by first | omega | simp)) _))⟩
      · as_aux_lemma =>
        have hcb : (cd == 0) = false := by simpa using hcd
        have HC := Go.Lib.hid hcd; clear hcd
        go_wp2
        go_ret
        exact ⟨ret_bool (by rw [DF.out, decide_eq_false HC.out]; simp), by (repeat (first | with_reducible (first | exact Ext.refl _ _ | assumption | refine Ext.upN ?_ | refine Ext.alloc ?_ _ | refine Ext.drew ?_ | refine Ext.drewN ?_ _ | refine Ext.up1N (by first | omega | simp) ?_) | refine Ext.alloc ?_ _ | refine Ext.setCell ?_ (.inr (by first | omega | simp)) _))⟩
    · as_aux_lemma =>
      have hs0 := Go.Lib.hid (fun h => hke ((toList_nil text).2 h))
      go_enter Tryz.func189, Tryz.ntmps189
      go_upto_region 2 with fail
      rw [← DL.out]
      go_wp2
      go_ret
      exact ⟨ret_bool (by rw [DF.out, decide_eq_false hs0.out]; simp), by (repeat (first | with_reducible (first | exact Ext.refl _ _ | assumption | refine Ext.upN ?_ | refine Ext.alloc ?_ _ | refine Ext.drew ?_ | refine Ext.drewN ?_ _ | refine Ext.up1N (by first | omega | simp) ?_) | refine Ext.alloc ?_ _ | refine Ext.setCell ?_ (.inr (by first | omega | simp)) _))⟩
  · as_aux_lemma =>
    have h0 := Go.Lib.hid (fun h => hB0 (hor.2 h))
    have hb0 : (B == 0) = false := by rw [beq_eq_false_iff_ne]; exact hB0
    clear hor hB0
    go_enter Tryz.func189, Tryz.ntmps189
    go_upto_region 2 with fail
    rw [← DL.out]
    go_wp2
    go_ret
    refine ⟨ret_bool ?_, by (repeat (first | with_reducible (first | exact Ext.refl _ _ | assumption | refine Ext.upN ?_ | refine Ext.alloc ?_ _ | refine Ext.drew ?_ | refine Ext.drewN ?_ _ | refine Ext.up1N (by first | omega | simp) ?_) | refine Ext.alloc ?_ _ | refine Ext.setCell ?_ (.inr (by first | omega | simp)) _))⟩
    rw [DF.out]
    have q := h0.out
    by_cases q1 : ep = 0
    · by_cases q2 : view = 0
      · by_cases q3 : slot = 0
        · by_cases q4 : listsI next.length sigs.length chs.length lks.length = 0
          · exact absurd ⟨q1, q2, q3, q4⟩ q
          · rw [decide_eq_false q4]; simp
        · rw [decide_eq_false q3]; simp
      · rw [decide_eq_false q2]; simp
    · rw [decide_eq_false q1]; simp
end Go.Proofs.YtflpkoafebjfdaaGreat

/- Contracts of layer 13 (wire): signatures, requests and changes are written. -/
namespace Go.Proofs.YtflpkoafebjfdaaGreat
open Go.RowKit Go.Lib F64
set_option linter.unusedSimpArgs false
set_option linter.unusedVariables false
attribute [local go_sem] run_store_float
/-- What is new since a writer came is hidden. -/
def cNw (n0 : Nat) : Nat → Nat := fun k => if n0 ≤ k then 1 else 0
theorem cNw_lt {n0 k : Nat} (h : k < n0) : cNw n0 k = 0 := if_neg (by omega)
theorem cNw_ge {n0 k : Nat} (h : n0 ≤ k) : cNw n0 k ≠ 0 := by unfold cNw; rw [if_pos h]; decide
theorem wrote_hide {w w' : World} {n0 b : Nat} {W W' : Wr} (p : PW w n0 b W) (h : Wrote w w' n0 b W') : Ext Non (hide (cNw n0) w) (hide (cNw n0) w') :=
  hide_ext (h.x.mono fun k hk s => cNw_ge (p.base k s)) (ColX.refl _ _)
theorem hide_all (w : World) : Ext Non w (hide (cNw w.heap.size) w) :=
  ⟨rfl, rfl, rfl, by rw [hide_size]; exact Nat.le_refl _, fun k hk _ => hide_at (cNw_lt hk)⟩
theorem Bx.wr {w w' : World} {n0 b k : Nat} {W' : Wr} {vs : List Value} {t : TypeId} (a : Bx w k vs t) (y : Wrote w w' n0 b W') (hb : k ≠ b) (ht : t ≠ 5) : Bx w' k vs t := a.ext y.x (WB.other a.h hb ht)
theorem Bx.wrOld {w w' : World} {n0 b k : Nat} {W W' : Wr} {vs : List Value} {t : TypeId} (a : Bx w k vs t) (p : PW w n0 b W) (y : Wrote w w' n0 b W') (hk : k < n0) : Bx w' k vs t := a.ext y.x (fun s => by have := p.base k s; omega)
set_option maxHeartbeats 4000000 in
set_option maxRecDepth 100000 in
theorem wire_wsig (n0 b : Nat) (W : Wr) (by_ : Int) (text : ByteArray) (hb : I64 by_) (ht : text.size ≤ 9223372036854775807) (w : World) (h : PW w n0 b W) : Calls Tryz.prog 191 #[.agg #[.pointer (some ⟨b, 0, none⟩)], .agg #[.int .i64 by_, .string text]] w fun e w' =>
    e = .returned (.tuple #[]) ∧ Wrote w w' n0 b (wSig W ⟨by_, text⟩) := by
  have HB := Go.Lib.hid hb; have HT := Go.Lib.hid ht
  have x0 : Ext Non w ((w.alloc (.cells #[.pointer (some ⟨b, 0, none⟩)] 207)).alloc (.cells #[.int .i64 by_, .string text] 48)) := ((Ext.refl _ _).alloc _).alloc _
  have B2 := Go.Lib.hid ((Bx.new w [.pointer (some ⟨b, 0, none⟩)] 207).alloc (.cells #[.int .i64 by_, .string text] 48))
  have B3 := Go.Lib.hid (Bx.newAt (w.alloc (.cells #[.pointer (some ⟨b, 0, none⟩)] 207)) [.int .i64 by_, .string text] 48 (w.heap.size + 1) (by simp))
  have HL := Go.Lib.hid (show b < w.heap.size from h.lt)
  have P0 := Go.Lib.hid (Wrote.extN h x0)
  clear h hb ht x0
  go_enter Tryz.func191, Tryz.ntmps191
  go_upto_region 1 with fail
  generalize World.alloc _ _ = W1 at *
  obtain ⟨q0, q1⟩ := And.intro (B2.out.cell (j := 0) rfl) (B3.out.cell (j := 0) rfl)
  go_wp2_with fail
  refine (pack_Byte n0 b _ by_ HB.out _ P0.out.p P0.out.p.base_le').mono ?_
  rintro e w2 ⟨rfl, y⟩
  have P1 := Go.Lib.hid (P0.out.trans y)
  have B2' := Go.Lib.hid (B2.out.wr y (by have := HL.out; omega) (by decide)); have B3' := Go.Lib.hid (B3.out.wr y (by have := HL.out; omega) (by decide))
  clear q0 q1 y B2 B3 P0
  obtain ⟨q0, q1⟩ := And.intro (B2'.out.cell (j := 0) rfl) (B3'.out.cell (j := 1) rfl)
  go_wp2_with fail
  refine (pack_Text n0 b _ text HT.out _ P1.out.p P1.out.p.base_le').mono ?_
  rintro e w3 ⟨rfl, y⟩
  have P2 := Go.Lib.hid (P1.out.trans y)
  clear y
  go_wp2
  go_returns
  exact ⟨rfl, P2.out⟩
set_option maxHeartbeats 4000000 in
set_option maxRecDepth 100000 in
theorem wire_wsigs (n0 b : Nat) (W : Wr) (sa : Option Addr) (scap : Nat) (l : List Sg) (w : World) (h : PW w n0 b W) (hs : Sigs (hide (cNw n0) w) sa scap l) : Calls Tryz.prog 118 #[.agg #[.pointer (some ⟨b, 0, none⟩)], .slice sa l.length scap] w fun e w' =>
    e = .returned (.tuple #[]) ∧ Wrote w w' n0 b (wSigs (byteW W l.length) l) := by
  have HS := Go.Lib.hid hs
  have hsm := hs.small; have hsl := hs.le
  have x0 : Ext Non w (w.alloc (.cells #[.pointer (some ⟨b, 0, none⟩)] 207)) := (Ext.refl _ _).alloc _
  have B2 := Go.Lib.hid (Bx.new w [.pointer (some ⟨b, 0, none⟩)] 207)
  have HL := Go.Lib.hid (show b < w.heap.size from h.lt)
  have HP := Go.Lib.hid h
  have P0 := Go.Lib.hid (Wrote.extN h x0)
  clear h x0 hs
  go_enter Tryz.func118, Tryz.ntmps118
  go_upto_region 1 with fail
  generalize World.alloc _ _ = W1 at *
  have q0 := B2.out.cell (j := 0) rfl
  go_wp2_with fail
  refine (pack_Byte n0 b _ l.length (by unfold I64; omega) _ P0.out.p P0.out.p.base_le').mono ?_
  rintro e w2 ⟨rfl, y⟩
  have P1 := Go.Lib.hid (P0.out.trans y)
  have B2' := Go.Lib.hid (B2.out.wr y (by have := HL.out; omega) (by decide))
  clear q0 y B2 P0
  go_wp2_with fail
  go_loopw [13] (fun iv wr => ∃ (i : Nat), i ≤ l.length ∧ iv = .int .i64 i ∧ Hid (Wrote w wr n0 b (wSigs (byteW W l.length) (l.take i))) ∧ Hid (Bx wr w.heap.size [.pointer (some ⟨b, 0, none⟩)] 207)) (fun iv _ => l.length - (intOf iv).toNat)
  case atStart => exact ⟨0, Nat.zero_le _, rfl, P1, B2'⟩
  case round =>
    clear P1 B2'
    obtain ⟨i, hi, rfl, PI, BI⟩ := hrel
    by_cases hlt : i < l.length
    · obtain ⟨sb, so, rfl, hsb, c0, c1, hI, hT⟩ := (HS.out.extN (wrote_hide HP.out PI.out)).at_ i hlt
      have HTk := Go.Lib.hid (wSigs_take (byteW W l.length) l i hlt)
      generalize hsg : sgAt l i = sg at *
      obtain ⟨by_, tx⟩ := sg
      clear hsg
      have d0 : wr.cell? ⟨sb, so + i * 2, none⟩ = some (.int .i64 by_) := (hide_cell c0).1
      have d1 : wr.cell? ⟨sb, so + i * 2 + 1, none⟩ = some (.string tx) := (hide_cell c1).1
      have HI := Go.Lib.hid (And.intro hI hT)
      clear c0 c1 hsb hI hT
      have x1 : Ext Non wr (wr.alloc (.cells #[.int .i64 by_, .string tx] 48)) := (Ext.refl _ _).alloc _
      have PA := Go.Lib.hid (PI.out.trans (Wrote.extN PI.out.p x1))
      have BA := Go.Lib.hid (BI.out.alloc (.cells #[.int .i64 by_, .string tx] 48))
      have BS := Go.Lib.hid (Bx.new wr [.int .i64 by_, .string tx] 48)
      go_upto_region 5 with fail
      clear d0 d1 PI BI x1
      generalize World.alloc _ _ = W2 at *
      have q0 := BA.out.cell (j := 0) rfl
      obtain ⟨q1, q2⟩ := And.intro (BS.out.cell (j := 0) rfl) (BS.out.cell (j := 1) rfl)
      go_wp2_with fail
      refine (wire_wsig n0 b _ by_ tx HI.out.1 HI.out.2 _ PA.out.p).mono ?_
      rintro e w4 ⟨rfl, y⟩
      have PB := Go.Lib.hid (show Wrote w w4 n0 b (wSigs (byteW W l.length) (l.take (i + 1))) by rw [HTk.out]; exact PA.out.trans y)
      have BB := Go.Lib.hid (BA.out.wr y (by have := HL.out; omega) (by decide))
      clear y q0 q1 q2 BA BS PA
      go_wp2_with fail
      go_roundw
      case rel => exact ⟨i + 1, hlt, by go_num, PB, BB⟩
      case measure => simp [intOf]; omega
    · have hil : l.take i = l := List.take_of_length_le (by omega)
      have PE := Go.Lib.hid (show Wrote w wr n0 b (wSigs (byteW W l.length) l) by have := PI.out; rw [hil] at this; exact this)
      clear hil PI
      go_wp2
      go_returns
      exact ⟨rfl, PE.out⟩
end Go.Proofs.YtflpkoafebjfdaaGreat

/- Contracts of layer 13 (wire): requests and changes are written. -/
namespace Go.Proofs.YtflpkoafebjfdaaGreat
open Go.RowKit Go.Lib F64
set_option linter.unusedSimpArgs false
set_option linter.unusedVariables false
attribute [local go_sem] run_store_float
set_option maxHeartbeats 4000000 in
set_option maxRecDepth 100000 in
theorem wire_wreq (n0 b : Nat) (W : Wr) (rc rs rk : Int) (rkey : ByteArray) (rx : Nat) (rid : Int) (hr : ReqOk ⟨rc, rs, ⟨rk, rkey, rx, rid⟩⟩) (w : World) (h : PW w n0 b W) : Calls Tryz.prog 117 #[.agg #[.pointer (some ⟨b, 0, none⟩)], .agg #[.int .i64 rc, .int .i64 rs, .int .i64 rk, .string rkey, .float .f64 rx, .int .i64 rid]] w fun e w' =>
    e = .returned (.tuple #[]) ∧ Wrote w w' n0 b (textW W (reqL ⟨rc, rs, ⟨rk, rkey, rx, rid⟩⟩)) := by
  have HR := Go.Lib.hid hr
  have x0 : Ext Non w ((w.alloc (.cells #[.pointer (some ⟨b, 0, none⟩)] 207)).alloc (.cells #[.int .i64 rc, .int .i64 rs, .int .i64 rk, .string rkey, .float .f64 rx, .int .i64 rid] 37)) := ((Ext.refl _ _).alloc _).alloc _
  have B2 := Go.Lib.hid ((Bx.new w [.pointer (some ⟨b, 0, none⟩)] 207).alloc (.cells #[.int .i64 rc, .int .i64 rs, .int .i64 rk, .string rkey, .float .f64 rx, .int .i64 rid] 37))
  have B3 := Go.Lib.hid (Bx.newAt (w.alloc (.cells #[.pointer (some ⟨b, 0, none⟩)] 207)) [.int .i64 rc, .int .i64 rs, .int .i64 rk, .string rkey, .float .f64 rx, .int .i64 rid] 37 (w.heap.size + 1) (by simp))
  have P0 := Go.Lib.hid (Wrote.extN h x0)
  have HS := Go.Lib.hid (And.intro (reqS_list ⟨rc, rs, ⟨rk, rkey, rx, rid⟩⟩) (reqS_size ⟨rc, rs, ⟨rk, rkey, rx, rid⟩⟩))
  clear h hr x0
  go_enter Tryz.func117, Tryz.ntmps117
  go_upto_region 1 with fail
  generalize World.alloc _ _ = W1 at *
  obtain ⟨q0, q1, q2, q3, q4, q5⟩ := B3.out.six
  go_wp2_with fail
  refine (deeds_Text rc rs rk rkey rx rid HR.out.c HR.out.s HR.out.k HR.out.id HR.out.x HR.out.key _).mono ?_
  rintro e w2 ⟨rfl, x⟩
  have P1 := Go.Lib.hid (P0.out.trans (Wrote.extN P0.out.p x))
  have B2' := Go.Lib.hid (B2.out.extN x)
  clear q0 q1 q2 q3 q4 q5 B2 B3 P0 x
  generalize reqS ⟨rc, rs, ⟨rk, rkey, rx, rid⟩⟩ = t at *
  have q0 := B2'.out.cell (j := 0) rfl
  go_wp2_with fail
  refine (pack_Text n0 b _ t (by have := HS.out.2; omega) _ P1.out.p P1.out.p.base_le').mono ?_
  rintro e w3 ⟨rfl, y⟩
  have P2 := Go.Lib.hid (P1.out.trans y)
  clear y P1
  go_wp2
  go_returns
  exact ⟨rfl, by rw [← HS.out.1]; exact P2.out⟩
set_option maxHeartbeats 4000000 in
set_option maxRecDepth 100000 in
theorem wire_wchange (n0 b : Nat) (W : Wr) (from_ view by_ : Int) (text : ByteArray) (ca : Option Addr) (ccap : Nat) (certs : List Ct) (hf : I64 from_) (hv : I64 view) (hb : I64 by_) (ht : text.size ≤ 9223372036854775807) (w : World) (h : PW w n0 b W) (hs : Certs (hide (cNw n0) w) ca ccap certs) :
    Calls Tryz.prog 119 #[.agg #[.pointer (some ⟨b, 0, none⟩)], .agg #[.int .i64 from_, .int .i64 view, .slice ca certs.length ccap, .int .i64 by_, .string text]] w fun e w' =>
    e = .returned (.tuple #[]) ∧ Wrote w w' n0 b (wChange W ⟨from_, view, certs, by_, text⟩) := by
  have HS := Go.Lib.hid hs
  have HI := Go.Lib.hid (And.intro hf (And.intro hv (And.intro hb ht)))
  have hsm := hs.small; have hsl := hs.le
  have DW : Hid (wChange W ⟨from_, view, certs, by_, text⟩ = wSig (wCerts (byteW (byteW (byteW W from_) view) certs.length) certs) ⟨by_, text⟩) := Go.Lib.hid rfl
  have x0 : Ext Non w ((w.alloc (.cells #[.pointer (some ⟨b, 0, none⟩)] 207)).alloc (.cells #[.int .i64 from_, .int .i64 view, .slice ca certs.length ccap, .int .i64 by_, .string text] 111)) := ((Ext.refl _ _).alloc _).alloc _
  have B2 := Go.Lib.hid ((Bx.new w [.pointer (some ⟨b, 0, none⟩)] 207).alloc (.cells #[.int .i64 from_, .int .i64 view, .slice ca certs.length ccap, .int .i64 by_, .string text] 111))
  have B3 := Go.Lib.hid (Bx.newAt (w.alloc (.cells #[.pointer (some ⟨b, 0, none⟩)] 207)) [.int .i64 from_, .int .i64 view, .slice ca certs.length ccap, .int .i64 by_, .string text] 111 (w.heap.size + 1) (by simp))
  have HL := Go.Lib.hid (show b < w.heap.size from h.lt)
  have HP := Go.Lib.hid h
  have P0 := Go.Lib.hid (Wrote.extN h x0)
  clear h x0 hs hf hv hb ht
  go_enter Tryz.func119, Tryz.ntmps119
  go_upto_region 1 with fail
  generalize World.alloc _ _ = W1 at *
  obtain ⟨q0, q1⟩ := And.intro (B2.out.cell (j := 0) rfl) (B3.out.cell (j := 0) rfl)
  go_wp2_with fail
  refine (pack_Byte n0 b _ from_ HI.out.1 _ P0.out.p P0.out.p.base_le').mono ?_
  rintro e w2 ⟨rfl, y⟩
  have P1 := Go.Lib.hid (P0.out.trans y)
  have B4 := Go.Lib.hid (B2.out.wr y (by have := HL.out; omega) (by decide)); have B5 := Go.Lib.hid (B3.out.wr y (by have := HL.out; omega) (by decide))
  clear q0 q1 y B2 B3 P0
  obtain ⟨q0, q1⟩ := And.intro (B4.out.cell (j := 0) rfl) (B5.out.cell (j := 1) rfl)
  go_wp2_with fail
  refine (pack_Byte n0 b _ view HI.out.2.1 _ P1.out.p P1.out.p.base_le').mono ?_
  rintro e w3 ⟨rfl, y⟩
  have P2 := Go.Lib.hid (P1.out.trans y)
  have B2 := Go.Lib.hid (B4.out.wr y (by have := HL.out; omega) (by decide)); have B3 := Go.Lib.hid (B5.out.wr y (by have := HL.out; omega) (by decide))
  clear q0 q1 y B4 B5 P1
  obtain ⟨q0, q1⟩ := And.intro (B2.out.cell (j := 0) rfl) (B3.out.cell (j := 2) rfl)
  go_wp2_with fail
  refine (pack_Byte n0 b _ certs.length (by unfold I64; omega) _ P2.out.p P2.out.p.base_le').mono ?_
  rintro e w4 ⟨rfl, y⟩
  have P3 := Go.Lib.hid (P2.out.trans y)
  have B4 := Go.Lib.hid (B2.out.wr y (by have := HL.out; omega) (by decide)); have B5 := Go.Lib.hid (B3.out.wr y (by have := HL.out; omega) (by decide))
  clear q0 q1 y B2 B3 P2
  obtain ⟨q0, q1⟩ := And.intro (B4.out.cell (j := 0) rfl) (B5.out.cell (j := 2) rfl)
  go_wp2_with fail
  generalize hW0 : byteW (byteW (byteW W from_) view) certs.length = W0 at *
  clear hW0 q0 q1
  go_loopw [25] (fun iv wr => ∃ (i : Nat), i ≤ certs.length ∧ iv = .int .i64 i ∧ Hid (Wrote w wr n0 b (wCerts W0 (certs.take i))) ∧ Hid (Bx wr w.heap.size [.pointer (some ⟨b, 0, none⟩)] 207) ∧ Hid (Bx wr (w.heap.size + 1) [.int .i64 from_, .int .i64 view, .slice ca certs.length ccap, .int .i64 by_, .string text] 111)) (fun iv _ => certs.length - (intOf iv).toNat)
  case atStart => exact ⟨0, Nat.zero_le _, rfl, P3, B4, B5⟩
  case round =>
    clear P3 B4 B5
    obtain ⟨i, hi, rfl, PI, BI, BJ⟩ := hrel
    by_cases hlt : i < certs.length
    · obtain ⟨cb, co, sa, scap, rfl, hcb, hcells, hsg, hro, hvi, hsi⟩ := (HS.out.extN (wrote_hide HP.out PI.out)).at_ i hlt
      have HTk := Go.Lib.hid (wCerts_take W0 certs i hlt)
      generalize hct : ctAt certs i = ct at *
      obtain ⟨cv, cs, ⟨rc, rs, ⟨rk, rkey, rx, rid⟩⟩, sl⟩ := ct
      clear hct
      have DC : Hid (wCert (wCerts W0 (certs.take i)) ⟨cv, cs, ⟨rc, rs, ⟨rk, rkey, rx, rid⟩⟩, sl⟩ = wSigs (byteW (textW (wordW (byteW (wCerts W0 (certs.take i)) cv) cs) (reqL ⟨rc, rs, ⟨rk, rkey, rx, rid⟩⟩)) sl.length) sl) := Go.Lib.hid rfl
      have z0 : wr.cell? ⟨cb, co + i * 9, none⟩ = some (.int .i64 cv) := (hide_cell (hcells 0 _ rfl)).1
      have z1 : wr.cell? ⟨cb, co + i * 9 + 1, none⟩ = some (.int .i64 cs) := (hide_cell (hcells 1 _ rfl)).1
      have z2 : wr.cell? ⟨cb, co + i * 9 + 2, none⟩ = some (.int .i64 rc) := (hide_cell (hcells 2 _ rfl)).1
      have z3 : wr.cell? ⟨cb, co + i * 9 + 3, none⟩ = some (.int .i64 rs) := (hide_cell (hcells 3 _ rfl)).1
      have z4 : wr.cell? ⟨cb, co + i * 9 + 4, none⟩ = some (.int .i64 rk) := (hide_cell (hcells 4 _ rfl)).1
      have z5 : wr.cell? ⟨cb, co + i * 9 + 5, none⟩ = some (.string rkey) := (hide_cell (hcells 5 _ rfl)).1
      have z6 : wr.cell? ⟨cb, co + i * 9 + 6, none⟩ = some (.float .f64 rx) := (hide_cell (hcells 6 _ rfl)).1
      have z7 : wr.cell? ⟨cb, co + i * 9 + 7, none⟩ = some (.int .i64 rid) := (hide_cell (hcells 7 _ rfl)).1
      have z8 : wr.cell? ⟨cb, co + i * 9 + 8, none⟩ = some (.slice sa sl.length scap) := (hide_cell (hcells 8 _ rfl)).1
      have HC := Go.Lib.hid (And.intro hsg (And.intro hro (And.intro hvi hsi)))
      clear hcells hsg hro hvi hsi hcb
      have x1 : Ext Non wr (wr.alloc (.cells #[.int .i64 cv, .int .i64 cs, .int .i64 rc, .int .i64 rs, .int .i64 rk, .string rkey, .float .f64 rx, .int .i64 rid, .slice sa sl.length scap] 113)) := (Ext.refl _ _).alloc _
      have PA := Go.Lib.hid (PI.out.trans (Wrote.extN PI.out.p x1))
      have HG := Go.Lib.hid (HC.out.1.extN (hide_extN (col := cNw n0) x1))
      have BA := Go.Lib.hid (BI.out.extN x1); have BB := Go.Lib.hid (BJ.out.extN x1)
      have BC := Go.Lib.hid (Bx.new wr [.int .i64 cv, .int .i64 cs, .int .i64 rc, .int .i64 rs, .int .i64 rk, .string rkey, .float .f64 rx, .int .i64 rid, .slice sa sl.length scap] 113)
      have HW := Go.Lib.hid (show b < wr.heap.size from PI.out.p.lt)
      go_upto_region 7 with fail
      clear z0 z1 z2 z3 z4 z5 z6 z7 z8 x1 BI BJ PI
      generalize World.alloc _ _ = W2 at *
      obtain ⟨kc, hkc⟩ : ∃ kc, kc = wr.heap.size := ⟨_, rfl⟩
      rw [← hkc] at BC HW ⊢
      clear hkc
      obtain ⟨q0, q1⟩ := And.intro (BA.out.cell (j := 0) rfl) (BC.out.cell (j := 0) rfl)
      go_wp2_with fail
      refine (pack_Byte n0 b _ cv HC.out.2.2.1 _ PA.out.p PA.out.p.base_le').mono ?_
      rintro e u1 ⟨rfl, y⟩
      have PB := Go.Lib.hid (PA.out.trans y)
      have A1 := Go.Lib.hid (BA.out.wr y (by have := HL.out; omega) (by decide)); have A2 := Go.Lib.hid (BB.out.wr y (by have := HL.out; omega) (by decide)); have A3 := Go.Lib.hid (BC.out.wr y (by have := HW.out; omega) (by decide))
      have HG1 := Go.Lib.hid (HG.out.extN (wrote_hide PA.out.p y))
      clear y q0 q1 BA BB BC PA HG
      obtain ⟨q0, q1⟩ := And.intro (A1.out.cell (j := 0) rfl) (A3.out.cell (j := 1) rfl)
      go_wp2_with fail
      refine (pack_Word n0 b _ cs HC.out.2.2.2 _ PB.out.p PB.out.p.base_le').mono ?_
      rintro e u2 ⟨rfl, y⟩
      have PC := Go.Lib.hid (PB.out.trans y)
      have BA := Go.Lib.hid (A1.out.wr y (by have := HL.out; omega) (by decide)); have BB := Go.Lib.hid (A2.out.wr y (by have := HL.out; omega) (by decide)); have BC := Go.Lib.hid (A3.out.wr y (by have := HW.out; omega) (by decide))
      have HG2 := Go.Lib.hid (HG1.out.extN (wrote_hide PB.out.p y))
      clear y q0 q1 A1 A2 A3 PB HG1
      obtain ⟨q0, q2, q3, q4, q5, q6, q7⟩ : _ ∧ _ ∧ _ ∧ _ ∧ _ ∧ _ ∧ _ := ⟨BA.out.cell (j := 0) rfl, BC.out.cell (j := 2) rfl, BC.out.cell (j := 3) rfl, BC.out.cell (j := 4) rfl, BC.out.cell (j := 5) rfl, BC.out.cell (j := 6) rfl, BC.out.cell (j := 7) rfl⟩
      go_wp2_with fail
      refine (wire_wreq n0 b _ rc rs rk rkey rx rid HC.out.2.1 _ PC.out.p).mono ?_
      rintro e u3 ⟨rfl, y⟩
      have PD := Go.Lib.hid (PC.out.trans y)
      have A1 := Go.Lib.hid (BA.out.wr y (by have := HL.out; omega) (by decide)); have A2 := Go.Lib.hid (BB.out.wr y (by have := HL.out; omega) (by decide)); have A3 := Go.Lib.hid (BC.out.wr y (by have := HW.out; omega) (by decide))
      have HG3 := Go.Lib.hid (HG2.out.extN (wrote_hide PC.out.p y))
      clear y q0 q2 q3 q4 q5 q6 q7 BA BB BC PC HG2
      obtain ⟨q0, q1⟩ := And.intro (A1.out.cell (j := 0) rfl) (A3.out.cell (j := 8) rfl)
      go_wp2_with fail
      refine (wire_wsigs n0 b _ sa scap sl _ PD.out.p HG3.out).mono ?_
      rintro e u4 ⟨rfl, y⟩
      have PE := Go.Lib.hid (show Wrote w u4 n0 b (wCerts W0 (certs.take (i + 1))) by rw [HTk.out, DC.out]; exact PD.out.trans y)
      have BA := Go.Lib.hid (A1.out.wr y (by have := HL.out; omega) (by decide)); have BB := Go.Lib.hid (A2.out.wr y (by have := HL.out; omega) (by decide))
      clear y q0 q1 A1 A2 A3 PD HG3
      go_wp2_with fail
      go_roundw
      case rel => exact ⟨i + 1, hlt, by go_num, PE, BA, BB⟩
      case measure => simp [intOf]; omega
    · have hil : certs.take i = certs := List.take_of_length_le (by omega)
      have PE := Go.Lib.hid (show Wrote w wr n0 b (wCerts W0 certs) by have := PI.out; rw [hil] at this; exact this)
      clear hil PI
      obtain ⟨q0, q3, q4⟩ : _ ∧ _ ∧ _ := ⟨BI.out.cell (j := 0) rfl, BJ.out.cell (j := 3) rfl, BJ.out.cell (j := 4) rfl⟩
      go_wp2_with fail
      refine (wire_wsig n0 b _ by_ text HI.out.2.2.1 HI.out.2.2.2 _ PE.out.p).mono ?_
      rintro e u5 ⟨rfl, y⟩
      have PF := Go.Lib.hid (show Wrote w u5 n0 b (wChange W ⟨from_, view, certs, by_, text⟩) by rw [DW.out]; exact PE.out.trans y)
      clear y
      go_wp2
      go_returns
      exact ⟨rfl, PF.out⟩
end Go.Proofs.YtflpkoafebjfdaaGreat

/- Layer 13 (wire) in plain words: what a message that has bytes is like; the reference's word. No program in sight. -/
namespace Go.Proofs.YtflpkoafebjfdaaGreat
open F64 Go.Lib
set_option linter.unusedVariables false
set_option linter.unusedSimpArgs false

theorem put_err {W : Wr} {ok : Bool} {c : List UInt8} (h : (putW W ok c).err = 0) : W.err = 0 ∧ ok = true := by
  by_cases h0 : W.err = 0
  · refine ⟨h0, ?_⟩
    unfold putW at h
    rw [if_pos h0] at h
    cases ok
    · simp [failW] at h
    · rfl
  · unfold putW at h
    rw [if_neg h0] at h
    exact absurd h h0
theorem byte_err {W : Wr} {n : Int} (h : (byteW W n).err = 0) : W.err = 0 ∧ 0 ≤ n ∧ n ≤ 255 := by
  obtain ⟨h1, h2⟩ := put_err h
  unfold okN at h2
  simp at h2
  exact ⟨h1, h2⟩
theorem foldl_err {α : Type} (f : Wr → α → Wr) (hf : ∀ W x, (f W x).err = 0 → W.err = 0) : ∀ (l : List α) (W : Wr), (l.foldl f W).err = 0 → W.err = 0
  | [], _, h => h
  | x :: t, W, h => hf W x (foldl_err f hf t (f W x) h)
theorem wSig_err {W : Wr} {s : Sg} (h : (wSig W s).err = 0) : W.err = 0 := (byte_err (put_err h).1).1
theorem wSigs_err {W : Wr} {l : List Sg} (h : (wSigs W l).err = 0) : W.err = 0 := foldl_err wSig (fun _ _ => wSig_err) l W h
theorem wCert_err {W : Wr} {x : Ct} (h : (wCert W x).err = 0) : W.err = 0 := (byte_err (put_err (put_err (byte_err (wSigs_err h)).1).1).1).1
theorem wCerts_err {W : Wr} {l : List Ct} (h : (wCerts W l).err = 0) : W.err = 0 := foldl_err wCert (fun _ _ => wCert_err) l W h
theorem wChange_err {W : Wr} {c : Ch} (h : (wChange W c).err = 0) : W.err = 0 := (byte_err (byte_err (byte_err (wCerts_err (wSig_err h))).1).1).1
theorem wLink_err {W : Wr} {l : Lk} (h : (wLink W l).err = 0) : W.err = 0 := (put_err (byte_err (wSigs_err h)).1).1
/-- A message that has bytes: its kind, that it fits, how much lies in its lists. -/
structure Good (m : Ms) : Prop where
  k : 1 ≤ m.kind ∧ m.kind ≤ 10
  f : fitsM m = true
  n : m.next.length ≤ 255
  s : m.sigs.length ≤ 16
  c : m.chs.length ≤ 255
  l : m.lks.length ≤ 255
  t : m.text.size ≤ 65535
theorem good_of {m : Ms} (h : bytesE m = 0) : Good m := by
  unfold bytesE at h
  split at h
  · rename_i hk
    split at h
    · rename_i hf
      split at h
      · rename_i he
        have e1 := foldl_err wLink (fun _ _ => wLink_err) _ _ he
        obtain ⟨e2, l1, l2⟩ := byte_err e1
        have e3 := foldl_err wChange (fun _ _ => wChange_err) _ _ e2
        obtain ⟨e4, c1, c2⟩ := byte_err e3
        obtain ⟨e5, s1, s2⟩ := byte_err (wSigs_err e4)
        have e6 := foldl_err byteW (fun _ _ h => (byte_err h).1) _ _ e5
        obtain ⟨e7, n1, n2⟩ := byte_err e6
        have e8 := (put_err e7).2
        unfold kindOk at hk
        simp only [Bool.and_eq_true, decide_eq_true_eq] at hk
        have hs : sigsB m.sigs = true := by
          unfold fitsM at hf
          simp only [Bool.and_eq_true] at hf
          exact hf.1.2
        unfold sigsB at hs
        simp only [Bool.and_eq_true, decide_eq_true_eq] at hs e8
        exact ⟨hk, hf, by omega, hs.2, by omega, by omega, e8⟩
      · cases h
    · cases h
  · cases h
end Go.Proofs.YtflpkoafebjfdaaGreat
