/- Contracts: the same request, by its text (deeds and the reference). -/
import Derived.Test.YtekbonciafbjiaaReqP
import Derived.Test.YtekbonciafbjiaaDeedsT
import Derived.Test.YtekbonciafbjiaaPrep
import Derived.Test.YtekbonciafbjiaaEw5
namespace Go.Proofs.Ytekbonciafbjiaa
open Go.RowKit Go.Lib F64
set_option linter.unusedSimpArgs false
set_option linter.unusedVariables false
attribute [local go_sem] run_store_float
attribute [local go_sem low] EW.cellN EW.frozN alloc_cell_or alloc_froz_or EW.cellF EW.frozF EW.cell1 EW.froz1
set_option maxHeartbeats 1000000 in
set_option maxRecDepth 100000 in
theorem ref11_Same (c1 s1 k1 : Int) (key1 : ByteArray) (x1 : Nat) (id1 : Int) (c2 s2 k2 : Int) (key2 : ByteArray) (x2 : Nat) (id2 : Int) (h1 : ReqOk ⟨c1, s1, ⟨k1, key1, x1, id1⟩⟩) (h2 : ReqOk ⟨c2, s2, ⟨k2, key2, x2, id2⟩⟩) (w : World) :
    Calls Try.prog 15 #[.agg #[.int .i64 c1, .int .i64 s1, .int .i64 k1, .string key1, .float .f64 x1, .int .i64 id1], .agg #[.int .i64 c2, .int .i64 s2, .int .i64 k2, .string key2, .float .f64 x2, .int .i64 id2]] w fun e w' =>
    e = .returned (.bool (sameT ⟨c1, s1, ⟨k1, key1, x1, id1⟩⟩ ⟨c2, s2, ⟨k2, key2, x2, id2⟩⟩)) ∧ Ext Non w w' := by
  have H1 := Go.Lib.hid h1; have H2 := Go.Lib.hid h2
  have DS : Hid (sameT ⟨c1, s1, ⟨k1, key1, x1, id1⟩⟩ ⟨c2, s2, ⟨k2, key2, x2, id2⟩⟩ = ((reqE ⟨c1, s1, ⟨k1, key1, x1, id1⟩⟩ == 0) && (reqE ⟨c2, s2, ⟨k2, key2, x2, id2⟩⟩ == 0) && ((reqS ⟨c1, s1, ⟨k1, key1, x1, id1⟩⟩).toList == (reqS ⟨c2, s2, ⟨k2, key2, x2, id2⟩⟩).toList))) := Go.Lib.hid rfl
  clear h1 h2
  go_enter Try.func15, Try.ntmps15
  go_wp2_with fail
  refine Calls.ew (ref_Text c1 s1 k1 key1 x1 id1 H1.out.c H1.out.s H1.out.k H1.out.id H1.out.x H1.out.key _) ?_
  rintro e y1 rfl
  go_wp2_with fail
  refine Calls.ew (ref_Text c2 s2 k2 key2 x2 id2 H2.out.c H2.out.s H2.out.k H2.out.id H2.out.x H2.out.key _) ?_
  rintro e y2 rfl
  generalize hs1 : reqS ⟨c1, s1, ⟨k1, key1, x1, id1⟩⟩ = t1 at *
  generalize hs2 : reqS ⟨c2, s2, ⟨k2, key2, x2, id2⟩⟩ = t2 at *
  generalize he1 : reqE ⟨c1, s1, ⟨k1, key1, x1, id1⟩⟩ = e1 at *
  generalize he2 : reqE ⟨c2, s2, ⟨k2, key2, x2, id2⟩⟩ = e2 at *
  clear hs1 hs2 he1 he2
  cases hb1 : (e1 == 0)
  · as_aux_lemma =>
    have B1 := Go.Lib.hid hb1
    go_wp2
    go_ret
    exact ⟨ret_bool (by rw [DS.out, B1.out]; rfl), by (repeat (first | with_reducible exact Ext.refl _ _ | assumption | with_reducible refine Ext.upN ?_ | with_reducible refine Ext.alloc ?_ _ | with_reducible refine Ext.upA (by assumption) ?_ | with_reducible refine Ext.upW ?_ | with_reducible refine Ext.drew ?_ | with_reducible refine Ext.drewN ?_ _ | with_reducible refine Ext.upF ?_ | with_reducible refine Ext.upFF (by first | omega | simp) ?_ | with_reducible refine Ext.setCellsF _ _ _ (by first | omega | simp) ?_ | with_reducible refine Ext.setCellF _ _ _ (by first | omega | simp) ?_ | with_reducible refine Ext.upFN (by first | omega | simp) ?_ | with_reducible refine Ext.up1F (by first | omega | simp) ?_ | with_reducible refine Ext.up1N (by first | omega | simp) ?_ | with_reducible refine Ext.setCell ?_ (.inr (by first | omega | simp)) _ | refine Ext.alloc ?_ _ | refine Ext.setCellF _ _ _ (by first | omega | simp) ?_ | refine Ext.setCell ?_ (.inr (by first | omega | simp)) _))⟩
  · cases hb2 : (e2 == 0)
    · as_aux_lemma =>
      have B1 := Go.Lib.hid hb1; have B2 := Go.Lib.hid hb2
      go_wp2
      go_ret
      exact ⟨ret_bool (by rw [DS.out, B1.out, B2.out]; rfl), by (repeat (first | with_reducible exact Ext.refl _ _ | assumption | with_reducible refine Ext.upN ?_ | with_reducible refine Ext.alloc ?_ _ | with_reducible refine Ext.upA (by assumption) ?_ | with_reducible refine Ext.upW ?_ | with_reducible refine Ext.drew ?_ | with_reducible refine Ext.drewN ?_ _ | with_reducible refine Ext.upF ?_ | with_reducible refine Ext.upFF (by first | omega | simp) ?_ | with_reducible refine Ext.setCellsF _ _ _ (by first | omega | simp) ?_ | with_reducible refine Ext.setCellF _ _ _ (by first | omega | simp) ?_ | with_reducible refine Ext.upFN (by first | omega | simp) ?_ | with_reducible refine Ext.up1F (by first | omega | simp) ?_ | with_reducible refine Ext.up1N (by first | omega | simp) ?_ | with_reducible refine Ext.setCell ?_ (.inr (by first | omega | simp)) _ | refine Ext.alloc ?_ _ | refine Ext.setCellF _ _ _ (by first | omega | simp) ?_ | refine Ext.setCell ?_ (.inr (by first | omega | simp)) _))⟩
    · cases hb3 : (t1.toList == t2.toList)
      all_goals
        have B1 := Go.Lib.hid hb1; have B2 := Go.Lib.hid hb2; have B3 := Go.Lib.hid hb3
        go_wp2
        go_ret
        exact ⟨ret_bool (by rw [DS.out, B1.out, B2.out, B3.out]; rfl), by (repeat (first | with_reducible exact Ext.refl _ _ | assumption | with_reducible refine Ext.upN ?_ | with_reducible refine Ext.alloc ?_ _ | with_reducible refine Ext.upA (by assumption) ?_ | with_reducible refine Ext.upW ?_ | with_reducible refine Ext.drew ?_ | with_reducible refine Ext.drewN ?_ _ | with_reducible refine Ext.upF ?_ | with_reducible refine Ext.upFF (by first | omega | simp) ?_ | with_reducible refine Ext.setCellsF _ _ _ (by first | omega | simp) ?_ | with_reducible refine Ext.setCellF _ _ _ (by first | omega | simp) ?_ | with_reducible refine Ext.upFN (by first | omega | simp) ?_ | with_reducible refine Ext.up1F (by first | omega | simp) ?_ | with_reducible refine Ext.up1N (by first | omega | simp) ?_ | with_reducible refine Ext.setCell ?_ (.inr (by first | omega | simp)) _ | refine Ext.alloc ?_ _ | refine Ext.setCellF _ _ _ (by first | omega | simp) ?_ | refine Ext.setCell ?_ (.inr (by first | omega | simp)) _))⟩
theorem sameT_comm (a b : Req) : (((reqS a).toList == (reqS b).toList) && (reqE a == 0) && (reqE b == 0)) = sameT a b := by
  unfold sameT
  cases (reqE a == 0) <;> cases (reqE b == 0) <;> cases ((reqS a).toList == (reqS b).toList) <;> rfl
set_option maxHeartbeats 1000000 in
set_option maxRecDepth 100000 in
theorem deeds_Same (c1 s1 k1 : Int) (key1 : ByteArray) (x1 : Nat) (id1 : Int) (c2 s2 k2 : Int) (key2 : ByteArray) (x2 : Nat) (id2 : Int) (h1 : ReqOk ⟨c1, s1, ⟨k1, key1, x1, id1⟩⟩) (h2 : ReqOk ⟨c2, s2, ⟨k2, key2, x2, id2⟩⟩) (w : World) :
    Calls Try.prog 34 #[.agg #[.int .i64 c1, .int .i64 s1, .int .i64 k1, .string key1, .float .f64 x1, .int .i64 id1], .agg #[.int .i64 c2, .int .i64 s2, .int .i64 k2, .string key2, .float .f64 x2, .int .i64 id2]] w fun e w' =>
    e = .returned (.bool (sameT ⟨c1, s1, ⟨k1, key1, x1, id1⟩⟩ ⟨c2, s2, ⟨k2, key2, x2, id2⟩⟩)) ∧ Ext Non w w' := by
  have H1 := Go.Lib.hid h1; have H2 := Go.Lib.hid h2
  have DS := Go.Lib.hid (sameT_comm ⟨c1, s1, ⟨k1, key1, x1, id1⟩⟩ ⟨c2, s2, ⟨k2, key2, x2, id2⟩⟩)
  clear h1 h2
  go_enter Try.func34, Try.ntmps34
  go_wp2_with fail
  refine Calls.ew (deeds_Text c1 s1 k1 key1 x1 id1 H1.out.c H1.out.s H1.out.k H1.out.id H1.out.x H1.out.key _) ?_
  rintro e y1 rfl
  go_wp2_with fail
  refine Calls.ew (deeds_Text c2 s2 k2 key2 x2 id2 H2.out.c H2.out.s H2.out.k H2.out.id H2.out.x H2.out.key _) ?_
  rintro e y2 rfl
  generalize hs1 : reqS ⟨c1, s1, ⟨k1, key1, x1, id1⟩⟩ = t1 at *
  generalize hs2 : reqS ⟨c2, s2, ⟨k2, key2, x2, id2⟩⟩ = t2 at *
  generalize he1 : reqE ⟨c1, s1, ⟨k1, key1, x1, id1⟩⟩ = e1 at *
  generalize he2 : reqE ⟨c2, s2, ⟨k2, key2, x2, id2⟩⟩ = e2 at *
  clear hs1 hs2 he1 he2
  cases hb3 : (t1.toList == t2.toList)
  · as_aux_lemma =>
    have B3 := Go.Lib.hid hb3
    go_wp2
    go_ret
    exact ⟨ret_bool (by rw [← DS.out, B3.out]; rfl), by (repeat (first | with_reducible exact Ext.refl _ _ | assumption | with_reducible refine Ext.upN ?_ | with_reducible refine Ext.alloc ?_ _ | with_reducible refine Ext.upA (by assumption) ?_ | with_reducible refine Ext.upW ?_ | with_reducible refine Ext.drew ?_ | with_reducible refine Ext.drewN ?_ _ | with_reducible refine Ext.upF ?_ | with_reducible refine Ext.upFF (by first | omega | simp) ?_ | with_reducible refine Ext.setCellsF _ _ _ (by first | omega | simp) ?_ | with_reducible refine Ext.setCellF _ _ _ (by first | omega | simp) ?_ | with_reducible refine Ext.upFN (by first | omega | simp) ?_ | with_reducible refine Ext.up1F (by first | omega | simp) ?_ | with_reducible refine Ext.up1N (by first | omega | simp) ?_ | with_reducible refine Ext.setCell ?_ (.inr (by first | omega | simp)) _ | refine Ext.alloc ?_ _ | refine Ext.setCellF _ _ _ (by first | omega | simp) ?_ | refine Ext.setCell ?_ (.inr (by first | omega | simp)) _))⟩
  · cases hb1 : (e1 == 0)
    · as_aux_lemma =>
      have B1 := Go.Lib.hid hb1; have B3 := Go.Lib.hid hb3
      go_wp2
      go_ret
      exact ⟨ret_bool (by rw [← DS.out, B3.out, B1.out]; rfl), by (repeat (first | with_reducible exact Ext.refl _ _ | assumption | with_reducible refine Ext.upN ?_ | with_reducible refine Ext.alloc ?_ _ | with_reducible refine Ext.upA (by assumption) ?_ | with_reducible refine Ext.upW ?_ | with_reducible refine Ext.drew ?_ | with_reducible refine Ext.drewN ?_ _ | with_reducible refine Ext.upF ?_ | with_reducible refine Ext.upFF (by first | omega | simp) ?_ | with_reducible refine Ext.setCellsF _ _ _ (by first | omega | simp) ?_ | with_reducible refine Ext.setCellF _ _ _ (by first | omega | simp) ?_ | with_reducible refine Ext.upFN (by first | omega | simp) ?_ | with_reducible refine Ext.up1F (by first | omega | simp) ?_ | with_reducible refine Ext.up1N (by first | omega | simp) ?_ | with_reducible refine Ext.setCell ?_ (.inr (by first | omega | simp)) _ | refine Ext.alloc ?_ _ | refine Ext.setCellF _ _ _ (by first | omega | simp) ?_ | refine Ext.setCell ?_ (.inr (by first | omega | simp)) _))⟩
    · cases hb2 : (e2 == 0)
      all_goals
        have B1 := Go.Lib.hid hb1; have B2 := Go.Lib.hid hb2; have B3 := Go.Lib.hid hb3
        go_wp2
        go_ret
        exact ⟨ret_bool (by rw [← DS.out, B1.out, B2.out, B3.out]; rfl), by (repeat (first | with_reducible exact Ext.refl _ _ | assumption | with_reducible refine Ext.upN ?_ | with_reducible refine Ext.alloc ?_ _ | with_reducible refine Ext.upA (by assumption) ?_ | with_reducible refine Ext.upW ?_ | with_reducible refine Ext.drew ?_ | with_reducible refine Ext.drewN ?_ _ | with_reducible refine Ext.upF ?_ | with_reducible refine Ext.upFF (by first | omega | simp) ?_ | with_reducible refine Ext.setCellsF _ _ _ (by first | omega | simp) ?_ | with_reducible refine Ext.setCellF _ _ _ (by first | omega | simp) ?_ | with_reducible refine Ext.upFN (by first | omega | simp) ?_ | with_reducible refine Ext.up1F (by first | omega | simp) ?_ | with_reducible refine Ext.up1N (by first | omega | simp) ?_ | with_reducible refine Ext.setCell ?_ (.inr (by first | omega | simp)) _ | refine Ext.alloc ?_ _ | refine Ext.setCellF _ _ _ (by first | omega | simp) ?_ | refine Ext.setCell ?_ (.inr (by first | omega | simp)) _))⟩
end Go.Proofs.Ytekbonciafbjiaa
