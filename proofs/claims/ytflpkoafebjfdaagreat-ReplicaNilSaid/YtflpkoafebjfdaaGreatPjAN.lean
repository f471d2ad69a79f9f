/- Joined texts: DeedsT, Prep, Terms, Proves, Change, Change2, Of13, Ew2, Right16. What each proves stands at its head; no conditions beside those in its theorems. -/
import Derived.Test.YtflpkoafebjfdaaGreatPjAI
import Derived.Test.YtflpkoafebjfdaaGreatPjAM
/- Contracts of layer 11 (deeds): texts; and the reference's. -/
namespace Go.Proofs.YtflpkoafebjfdaaGreat
open Go.RowKit Go.Lib F64
set_option linter.unusedSimpArgs false
set_option linter.unusedVariables false

/-- The cells of a block. -/
structure Bx (w : World) (k : Nat) (vs : List Value) (t : TypeId) : Prop where
  h : w.heap[k]? = some (.cells vs.toArray t (0, 0))
theorem Bx.lt {w : World} {k : Nat} {vs : List Value} {t : TypeId} (a : Bx w k vs t) : k < w.heap.size := (Array.getElem?_eq_some_iff.1 a.h).1
theorem Bx.ext {S : Nat → Prop} {w w' : World} {k : Nat} {vs : List Value} {t : TypeId} (a : Bx w k vs t) (x : Ext S w w') (hk : ¬ S k) : Bx w' k vs t := ⟨(x.block k a.lt hk).trans a.h⟩
theorem Bx.extN {w w' : World} {k : Nat} {vs : List Value} {t : TypeId} (a : Bx w k vs t) (x : Ext Non w w') : Bx w' k vs t := a.ext x (fun f => f)
theorem Bx.cell {w : World} {k : Nat} {vs : List Value} {t : TypeId} (a : Bx w k vs t) {j : Nat} {v : Value} (hv : vs[j]? = some v) : w.cell? ⟨k, j, none⟩ = some v := cell_of_heap a.h hv
theorem Bx.new (w : World) (vs : List Value) (t : TypeId) : Bx (w.alloc (.cells vs.toArray t)) w.heap.size vs t := ⟨heap_alloc_new _ _⟩
theorem Bx.six {w : World} {k : Nat} {v0 v1 v2 v3 v4 v5 : Value} {t : TypeId} (a : Bx w k [v0, v1, v2, v3, v4, v5] t) : w.cell? ⟨k, 0, none⟩ = some v0 ∧ w.cell? ⟨k, 1, none⟩ = some v1 ∧ w.cell? ⟨k, 2, none⟩ = some v2 ∧ w.cell? ⟨k, 3, none⟩ = some v3 ∧ w.cell? ⟨k, 4, none⟩ = some v4 ∧ w.cell? ⟨k, 5, none⟩ = some v5 :=
  ⟨a.cell rfl, a.cell rfl, a.cell rfl, a.cell rfl, a.cell rfl, a.cell rfl⟩
/-- A block that is older than a writer's base is not the writer's. -/
theorem Bx.wrote {w w' : World} {n0 b k : Nat} {vs : List Value} {t : TypeId} (a : Bx w k vs t) (x : Ext (WB n0 b w) w w') (hb : n0 ≤ b) (hk : k < n0) : Bx w' k vs t :=
  a.ext x (by rintro (e | e) <;> omega)

theorem ref_Null (c s k : Int) (key : ByteArray) (x : Nat) (id : Int) (w : World) : Calls Tryz.prog 61 #[.agg #[.int .i64 c, .int .i64 s, .int .i64 k, .string key, .float .f64 x, .int .i64 id]] w fun e w' => e = .returned (.bool (nullB ⟨c, s, ⟨k, key, x, id⟩⟩)) ∧ Ext Non w w' := by
  have B0 : Ext Non w (w.alloc (.cells #[.int .i64 c, .int .i64 s, .int .i64 k, .string key, .float .f64 x, .int .i64 id] 37)) := (Ext.refl _ _).alloc _
  have HE : Hid (nullB ⟨c, s, ⟨k, key, x, id⟩⟩ = (decide (c = 0) && decide (s = 0) && decide (k = 0) && decide (id = 0) && decide (key.size = 0) && noneB x)) := Go.Lib.hid rfl
  by_cases h1 : c = 0
  · by_cases h2 : s = 0
    · by_cases h3 : k = 0
      · by_cases h4 : key.toList = []
        · have HS := Go.Lib.hid ((toList_nil key).1 h4)
          subst h1; subst h2; subst h3
          go_enter Tryz.func61, Tryz.ntmps61
          go_wp2_with fail
          refine (ref_plain _ _ _ _ _).mono ?_
          rintro e w1 ⟨rfl, y⟩
          have c5 : w1.cell? ⟨w.heap.size, 5, none⟩ = some (.int .i64 id) := (y.cell (p := ⟨w.heap.size, 5, none⟩) (by simp) (fun f => f)).trans (cell_new' w _ _ rfl)
          cases hn : noneB x
          all_goals
            have HN := Go.Lib.hid hn
            clear hn
            go_wp2
            go_returns
            exact ⟨ret_bool (by rw [HE.out, HS.out, HN.out, Bool.eq_iff_iff]; simp), B0.trans y⟩
        · have HS := Go.Lib.hid (fun h => h4 ((toList_nil key).2 h))
          subst h1; subst h2; subst h3
          go_enter Tryz.func61, Tryz.ntmps61
          go_wp2
          go_returns
          exact ⟨ret_bool (by rw [HE.out, decide_eq_false HS.out]; simp), B0⟩
      · have HS := Go.Lib.hid (decide_eq_false h3)
        have hb : (k == 0) = false := by rw [beq_eq_false_iff_ne]; exact h3
        subst h1; subst h2; clear h3
        go_enter Tryz.func61, Tryz.ntmps61
        go_wp2
        go_returns
        exact ⟨ret_bool (by rw [HE.out, HS.out]; simp), B0⟩
    · have HS := Go.Lib.hid (decide_eq_false h2)
      have hb : (s == 0) = false := by rw [beq_eq_false_iff_ne]; exact h2
      subst h1; clear h2
      go_enter Tryz.func61, Tryz.ntmps61
      go_wp2
      go_returns
      exact ⟨ret_bool (by rw [HE.out, HS.out]; simp), B0⟩
  · have HS := Go.Lib.hid (decide_eq_false h1)
    have hb : (c == 0) = false := by rw [beq_eq_false_iff_ne]; exact h1
    clear h1
    go_enter Tryz.func61, Tryz.ntmps61
    go_wp2
    go_returns
    exact ⟨ret_bool (by rw [HE.out, HS.out]; simp), B0⟩
set_option maxHeartbeats 2000000 in
set_option maxRecDepth 100000 in
theorem deeds_Text (c s k : Int) (key : ByteArray) (x : Nat) (id : Int) (hc : I64 c) (hs : I64 s) (hk : I64 k) (hid : I64 id) (hx : x < 18446744073709551616) (hks : key.size ≤ 9223372036854775807) (w : World) : Calls Tryz.prog 190 #[.agg #[.int .i64 c, .int .i64 s, .int .i64 k, .string key, .float .f64 x, .int .i64 id]] w fun e w' =>
    e = .returned (.tuple #[.string (reqS ⟨c, s, ⟨k, key, x, id⟩⟩), .int .i64 (reqE ⟨c, s, ⟨k, key, x, id⟩⟩)]) ∧ Ext Non w w' := by
  have HC := Go.Lib.hid (And.intro hc (And.intro hs (And.intro hk (And.intro hid (And.intro hx hks)))))
  clear hc hs hk hid hx hks
  have B0 := Go.Lib.hid (Bx.new w [.int .i64 c, .int .i64 s, .int .i64 k, .string key, .float .f64 x, .int .i64 id] 37)
  have X0 := Go.Lib.hid ((Ext.refl Non w).alloc (.cells #[.int .i64 c, .int .i64 s, .int .i64 k, .string key, .float .f64 x, .int .i64 id] 37))
  go_enter Tryz.func190, Tryz.ntmps190
  go_wp2_with fail
  refine (deeds_Null _ _ _ _ _ _ HC.out.1 HC.out.2.1 HC.out.2.2.1 HC.out.2.2.2.1 _).mono ?_
  rintro e w1 ⟨rfl, x1⟩
  have B1 := Go.Lib.hid (B0.out.extN x1)
  have X1 := Go.Lib.hid (X0.out.trans x1)
  obtain ⟨q0, q1, q2, q3, q4, q5⟩ := B1.out.six
  clear x1
  cases hn : nullB ⟨c, s, ⟨k, key, x, id⟩⟩
  · have HN := Go.Lib.hid hn
    clear hn
    go_wp2_with fail
    refine (deeds_Right _ _ _ _ _ _ _).mono ?_
    rintro e w2 ⟨rfl, x2⟩
    have B2 := Go.Lib.hid (B1.out.extN x2)
    have X2 := Go.Lib.hid (X1.out.trans x2)
    clear x2 q0 q1 q2 q3 q4 q5
    obtain ⟨q0, q1, q2, q3, q4, q5⟩ := B2.out.six
    cases hr : rightB ⟨c, s, ⟨k, key, x, id⟩⟩
    · have HE := Go.Lib.hid (show reqS ⟨c, s, ⟨k, key, x, id⟩⟩ = ⟨#[]⟩ ∧ reqE ⟨c, s, ⟨k, key, x, id⟩⟩ = 1 by unfold reqS reqL reqE; rw [HN.out, hr]; exact ⟨rfl, rfl⟩)
      clear hr
      go_wp2
      go_returns
      exact ⟨by rw [HE.out.1, HE.out.2]; rfl, X2.out⟩
    · have HE := Go.Lib.hid (reqW_ok hr (lim := 64) (by decide))
      clear hr
      go_wp2_with fail
      refine (pack_New 64 (by decide) w2.heap.size _ (Nat.le_refl _)).mono ?_
      rintro e w3 ⟨b, rfl, x3, p3, hb⟩
      have B3 := B2.out.extN x3
      have hkb : w.heap.size < w2.heap.size := B2.out.lt
      have X3 := Go.Lib.hid (X2.out.trans x3)
      have BB := Go.Lib.hid B3; have PP := Go.Lib.hid p3
      have hs0 : w2.heap.size ≤ w3.heap.size := x3.size
      clear x3 p3 B3 q0 q1 q2 q3 q4 q5
      obtain ⟨q0, q1, q2, q3, q4, q5⟩ := BB.out.six
      go_wp2_with fail
      refine (pack_Byte w2.heap.size b _ 1 (by unfold I64; omega) _ PP.out hs0).mono ?_
      rintro e w4 ⟨rfl, y⟩
      have BB' := Go.Lib.hid (BB.out.wrote y.x hb hkb)
      have PP' := Go.Lib.hid y.p
      have hs1 : w2.heap.size ≤ w4.heap.size := Nat.le_trans hs0 y.x.size
      have XX := Go.Lib.hid (X3.out.step y.x (fun i hi s => by rcases s with s | s <;> omega))
      clear y q0 q1 q2 q3 q4 q5 BB PP hs0 X3
      have BB := BB'; have PP := PP'; have hs0 := hs1; have X3 := XX
      clear BB' PP' hs1 XX
      obtain ⟨q0, q1, q2, q3, q4, q5⟩ := BB.out.six
      go_wp2_with fail
      refine (pack_Byte w2.heap.size b _ c HC.out.1 _ PP.out hs0).mono ?_
      rintro e w5 ⟨rfl, y⟩
      have BB' := Go.Lib.hid (BB.out.wrote y.x hb hkb)
      have PP' := Go.Lib.hid y.p
      have hs1 : w2.heap.size ≤ w5.heap.size := Nat.le_trans hs0 y.x.size
      have XX := Go.Lib.hid (X3.out.step y.x (fun i hi s => by rcases s with s | s <;> omega))
      clear y q0 q1 q2 q3 q4 q5 BB PP hs0 X3
      have BB := BB'; have PP := PP'; have hs0 := hs1; have X3 := XX
      clear BB' PP' hs1 XX
      obtain ⟨q0, q1, q2, q3, q4, q5⟩ := BB.out.six
      go_wp2_with fail
      refine (pack_Long w2.heap.size b _ s HC.out.2.1 _ PP.out hs0).mono ?_
      rintro e w6 ⟨rfl, y⟩
      have BB' := Go.Lib.hid (BB.out.wrote y.x hb hkb)
      have PP' := Go.Lib.hid y.p
      have hs1 : w2.heap.size ≤ w6.heap.size := Nat.le_trans hs0 y.x.size
      have XX := Go.Lib.hid (X3.out.step y.x (fun i hi s => by rcases s with s | s <;> omega))
      clear y q0 q1 q2 q3 q4 q5 BB PP hs0 X3
      have BB := BB'; have PP := PP'; have hs0 := hs1; have X3 := XX
      clear BB' PP' hs1 XX
      obtain ⟨q0, q1, q2, q3, q4, q5⟩ := BB.out.six
      go_wp2_with fail
      refine (pack_Byte w2.heap.size b _ k HC.out.2.2.1 _ PP.out hs0).mono ?_
      rintro e w7 ⟨rfl, y⟩
      have BB' := Go.Lib.hid (BB.out.wrote y.x hb hkb)
      have PP' := Go.Lib.hid y.p
      have hs1 : w2.heap.size ≤ w7.heap.size := Nat.le_trans hs0 y.x.size
      have XX := Go.Lib.hid (X3.out.step y.x (fun i hi s => by rcases s with s | s <;> omega))
      clear y q0 q1 q2 q3 q4 q5 BB PP hs0 X3
      have BB := BB'; have PP := PP'; have hs0 := hs1; have X3 := XX
      clear BB' PP' hs1 XX
      obtain ⟨q0, q1, q2, q3, q4, q5⟩ := BB.out.six
      go_wp2_with fail
      refine (pack_Text w2.heap.size b _ key HC.out.2.2.2.2.2 _ PP.out hs0).mono ?_
      rintro e w8 ⟨rfl, y⟩
      have BB' := Go.Lib.hid (BB.out.wrote y.x hb hkb)
      have PP' := Go.Lib.hid y.p
      have hs1 : w2.heap.size ≤ w8.heap.size := Nat.le_trans hs0 y.x.size
      have XX := Go.Lib.hid (X3.out.step y.x (fun i hi s => by rcases s with s | s <;> omega))
      clear y q0 q1 q2 q3 q4 q5 BB PP hs0 X3
      have BB := BB'; have PP := PP'; have hs0 := hs1; have X3 := XX
      clear BB' PP' hs1 XX
      obtain ⟨q0, q1, q2, q3, q4, q5⟩ := BB.out.six
      go_wp2_with fail
      refine (reals_Bits _ _).mono ?_
      rintro e w9x ⟨rfl, rfl⟩
      go_wp2_with fail
      refine (pack_Bits w2.heap.size b _ (canonN x) (canon_lt HC.out.2.2.2.2.1) _ PP.out hs0).mono ?_
      rintro e w9 ⟨rfl, y⟩
      have BB' := Go.Lib.hid (BB.out.wrote y.x hb hkb)
      have PP' := Go.Lib.hid y.p
      have hs1 : w2.heap.size ≤ w9.heap.size := Nat.le_trans hs0 y.x.size
      have XX := Go.Lib.hid (X3.out.step y.x (fun i hi s => by rcases s with s | s <;> omega))
      clear y q0 q1 q2 q3 q4 q5 BB PP hs0 X3
      have BB := BB'; have PP := PP'; have hs0 := hs1; have X3 := XX
      clear BB' PP' hs1 XX
      obtain ⟨q0, q1, q2, q3, q4, q5⟩ := BB.out.six
      go_wp2_with fail
      refine (pack_Byte w2.heap.size b _ id HC.out.2.2.2.1 _ PP.out hs0).mono ?_
      rintro e w10 ⟨rfl, y⟩
      have BB' := Go.Lib.hid (BB.out.wrote y.x hb hkb)
      have PP' := Go.Lib.hid y.p
      have hs1 : w2.heap.size ≤ w10.heap.size := Nat.le_trans hs0 y.x.size
      have XX := Go.Lib.hid (X3.out.step y.x (fun i hi s => by rcases s with s | s <;> omega))
      clear y q0 q1 q2 q3 q4 q5 BB PP hs0 X3
      have BB := BB'; have PP := PP'; have hs0 := hs1; have X3 := XX
      clear BB' PP' hs1 XX
      go_wp2_with fail
      refine (pack_Done _ _ _ _ PP.out).mono ?_
      rintro e wz ⟨rfl, yz⟩
      go_wp2
      go_returns
      refine ⟨?_, X3.out.trans yz⟩
      rw [← HE.out.1, ← HE.out.2]
      rfl
  · have HE := Go.Lib.hid (show reqS ⟨c, s, ⟨k, key, x, id⟩⟩ = ⟨#[0]⟩ ∧ reqE ⟨c, s, ⟨k, key, x, id⟩⟩ = 0 by unfold reqS reqL reqE; rw [hn]; exact ⟨rfl, rfl⟩)
    clear hn
    have hcv : ∀ W : World, (convert 229 9 (.slice (some ⟨W.heap.size, 0, none⟩) 1 1)).run Tryz.prog (W.alloc (.cells #[.int .u8 0] 5)) = .ok (.string ⟨#[0]⟩) (W.alloc (.cells #[.int .u8 0] 5)) := fun W =>
      run_convert_bytes_back _ _ _ 5 ⟨W.heap.size, 0, none⟩ 1 [0] Tryz.underlying229 Tryz.underlying5 Tryz.underlying9 (fun j hj => by
        have : j = 0 := by simp at hj; omega
        subst this
        exact cell_of_heap (cur := [.int .u8 0]) (heap_alloc_new W _) rfl)
    go_wp2
    go_returns
    exact ⟨by rw [HE.out.1, HE.out.2]; rfl, X1.out.trans ((Ext.refl _ _).alloc _)⟩
set_option maxHeartbeats 2000000 in
set_option maxRecDepth 100000 in
theorem ref_Text (c s k : Int) (key : ByteArray) (x : Nat) (id : Int) (hc : I64 c) (hs : I64 s) (hk : I64 k) (hid : I64 id) (hx : x < 18446744073709551616) (hks : key.size ≤ 9223372036854775807) (w : World) : Calls Tryz.prog 46 #[.agg #[.int .i64 c, .int .i64 s, .int .i64 k, .string key, .float .f64 x, .int .i64 id]] w fun e w' =>
    e = .returned (.tuple #[.string (reqS ⟨c, s, ⟨k, key, x, id⟩⟩), .int .i64 (reqE ⟨c, s, ⟨k, key, x, id⟩⟩)]) ∧ Ext Non w w' := by
  have HC := Go.Lib.hid (And.intro hc (And.intro hs (And.intro hk (And.intro hid (And.intro hx hks)))))
  clear hc hs hk hid hx hks
  have B0 := Go.Lib.hid (Bx.new w [.int .i64 c, .int .i64 s, .int .i64 k, .string key, .float .f64 x, .int .i64 id] 37)
  have X0 := Go.Lib.hid ((Ext.refl Non w).alloc (.cells #[.int .i64 c, .int .i64 s, .int .i64 k, .string key, .float .f64 x, .int .i64 id] 37))
  go_enter Tryz.func46, Tryz.ntmps46
  go_wp2_with fail
  refine (ref_Null _ _ _ _ _ _ _).mono ?_
  rintro e w1 ⟨rfl, x1⟩
  have B1 := Go.Lib.hid (B0.out.extN x1)
  have X1 := Go.Lib.hid (X0.out.trans x1)
  obtain ⟨q0, q1, q2, q3, q4, q5⟩ := B1.out.six
  clear x1
  cases hn : nullB ⟨c, s, ⟨k, key, x, id⟩⟩
  · have HN := Go.Lib.hid hn
    clear hn
    go_wp2_with fail
    refine (ref_Right _ _ _ _ _ _ _).mono ?_
    rintro e w2 ⟨rfl, x2⟩
    have B2 := Go.Lib.hid (B1.out.extN x2)
    have X2 := Go.Lib.hid (X1.out.trans x2)
    clear x2 q0 q1 q2 q3 q4 q5
    obtain ⟨q0, q1, q2, q3, q4, q5⟩ := B2.out.six
    cases hr : rightB ⟨c, s, ⟨k, key, x, id⟩⟩
    · have HE := Go.Lib.hid (show reqS ⟨c, s, ⟨k, key, x, id⟩⟩ = ⟨#[]⟩ ∧ reqE ⟨c, s, ⟨k, key, x, id⟩⟩ = 1 by unfold reqS reqL reqE; rw [HN.out, hr]; exact ⟨rfl, rfl⟩)
      clear hr
      go_wp2
      go_returns
      exact ⟨by rw [HE.out.1, HE.out.2]; rfl, X2.out⟩
    · have HE := Go.Lib.hid (reqW_ok hr (lim := 100) (by decide))
      clear hr
      go_wp2_with fail
      refine (refw_New 100 (by decide) w2.heap.size _ (Nat.le_refl _)).mono ?_
      rintro e w3 ⟨b, rfl, x3, p3, hb⟩
      have B3 := B2.out.extN x3
      have hkb : w.heap.size < w2.heap.size := B2.out.lt
      have X3 := Go.Lib.hid (X2.out.trans x3)
      have BB := Go.Lib.hid B3; have PP := Go.Lib.hid p3
      have hs0 : w2.heap.size ≤ w3.heap.size := x3.size
      clear x3 p3 B3 q0 q1 q2 q3 q4 q5
      obtain ⟨q0, q1, q2, q3, q4, q5⟩ := BB.out.six
      go_wp2_with fail
      refine (refw_Num1 w2.heap.size b _ 1 (by unfold I64; omega) _ PP.out hs0).mono ?_
      rintro e w4 ⟨rfl, y⟩
      have BB' := Go.Lib.hid (BB.out.wrote y.x hb hkb)
      have PP' := Go.Lib.hid y.p
      have hs1 : w2.heap.size ≤ w4.heap.size := Nat.le_trans hs0 y.x.size
      have XX := Go.Lib.hid (X3.out.step y.x (fun i hi s => by rcases s with s | s <;> omega))
      clear y q0 q1 q2 q3 q4 q5 BB PP hs0 X3
      have BB := BB'; have PP := PP'; have hs0 := hs1; have X3 := XX
      clear BB' PP' hs1 XX
      obtain ⟨q0, q1, q2, q3, q4, q5⟩ := BB.out.six
      go_wp2_with fail
      refine (refw_Num1 w2.heap.size b _ c HC.out.1 _ PP.out hs0).mono ?_
      rintro e w5 ⟨rfl, y⟩
      have BB' := Go.Lib.hid (BB.out.wrote y.x hb hkb)
      have PP' := Go.Lib.hid y.p
      have hs1 : w2.heap.size ≤ w5.heap.size := Nat.le_trans hs0 y.x.size
      have XX := Go.Lib.hid (X3.out.step y.x (fun i hi s => by rcases s with s | s <;> omega))
      clear y q0 q1 q2 q3 q4 q5 BB PP hs0 X3
      have BB := BB'; have PP := PP'; have hs0 := hs1; have X3 := XX
      clear BB' PP' hs1 XX
      obtain ⟨q0, q1, q2, q3, q4, q5⟩ := BB.out.six
      go_wp2_with fail
      refine (refw_Num4 w2.heap.size b _ s HC.out.2.1 _ PP.out hs0).mono ?_
      rintro e w6 ⟨rfl, y⟩
      have BB' := Go.Lib.hid (BB.out.wrote y.x hb hkb)
      have PP' := Go.Lib.hid y.p
      have hs1 : w2.heap.size ≤ w6.heap.size := Nat.le_trans hs0 y.x.size
      have XX := Go.Lib.hid (X3.out.step y.x (fun i hi s => by rcases s with s | s <;> omega))
      clear y q0 q1 q2 q3 q4 q5 BB PP hs0 X3
      have BB := BB'; have PP := PP'; have hs0 := hs1; have X3 := XX
      clear BB' PP' hs1 XX
      obtain ⟨q0, q1, q2, q3, q4, q5⟩ := BB.out.six
      go_wp2_with fail
      refine (refw_Num1 w2.heap.size b _ k HC.out.2.2.1 _ PP.out hs0).mono ?_
      rintro e w7 ⟨rfl, y⟩
      have BB' := Go.Lib.hid (BB.out.wrote y.x hb hkb)
      have PP' := Go.Lib.hid y.p
      have hs1 : w2.heap.size ≤ w7.heap.size := Nat.le_trans hs0 y.x.size
      have XX := Go.Lib.hid (X3.out.step y.x (fun i hi s => by rcases s with s | s <;> omega))
      clear y q0 q1 q2 q3 q4 q5 BB PP hs0 X3
      have BB := BB'; have PP := PP'; have hs0 := hs1; have X3 := XX
      clear BB' PP' hs1 XX
      obtain ⟨q0, q1, q2, q3, q4, q5⟩ := BB.out.six
      go_wp2_with fail
      refine (refw_Text w2.heap.size b _ key HC.out.2.2.2.2.2 _ PP.out hs0).mono ?_
      rintro e w8 ⟨rfl, y⟩
      have BB' := Go.Lib.hid (BB.out.wrote y.x hb hkb)
      have PP' := Go.Lib.hid y.p
      have hs1 : w2.heap.size ≤ w8.heap.size := Nat.le_trans hs0 y.x.size
      have XX := Go.Lib.hid (X3.out.step y.x (fun i hi s => by rcases s with s | s <;> omega))
      clear y q0 q1 q2 q3 q4 q5 BB PP hs0 X3
      have BB := BB'; have PP := PP'; have hs0 := hs1; have X3 := XX
      clear BB' PP' hs1 XX
      obtain ⟨q0, q1, q2, q3, q4, q5⟩ := BB.out.six
      go_wp2_with fail
      refine (ref_Bits _ _).mono ?_
      rintro e w9x ⟨rfl, rfl⟩
      go_wp2_with fail
      refine (refw_Bits w2.heap.size b _ (canonN x) (canon_lt HC.out.2.2.2.2.1) _ PP.out hs0).mono ?_
      rintro e w9 ⟨rfl, y⟩
      have BB' := Go.Lib.hid (BB.out.wrote y.x hb hkb)
      have PP' := Go.Lib.hid y.p
      have hs1 : w2.heap.size ≤ w9.heap.size := Nat.le_trans hs0 y.x.size
      have XX := Go.Lib.hid (X3.out.step y.x (fun i hi s => by rcases s with s | s <;> omega))
      clear y q0 q1 q2 q3 q4 q5 BB PP hs0 X3
      have BB := BB'; have PP := PP'; have hs0 := hs1; have X3 := XX
      clear BB' PP' hs1 XX
      obtain ⟨q0, q1, q2, q3, q4, q5⟩ := BB.out.six
      go_wp2_with fail
      refine (refw_Num1 w2.heap.size b _ id HC.out.2.2.2.1 _ PP.out hs0).mono ?_
      rintro e w10 ⟨rfl, y⟩
      have BB' := Go.Lib.hid (BB.out.wrote y.x hb hkb)
      have PP' := Go.Lib.hid y.p
      have hs1 : w2.heap.size ≤ w10.heap.size := Nat.le_trans hs0 y.x.size
      have XX := Go.Lib.hid (X3.out.step y.x (fun i hi s => by rcases s with s | s <;> omega))
      clear y q0 q1 q2 q3 q4 q5 BB PP hs0 X3
      have BB := BB'; have PP := PP'; have hs0 := hs1; have X3 := XX
      clear BB' PP' hs1 XX
      go_wp2_with fail
      refine (refw_Done _ _ _ _ PP.out).mono ?_
      rintro e wz ⟨rfl, yz⟩
      go_wp2
      go_returns
      refine ⟨?_, X3.out.trans yz⟩
      rw [← HE.out.1, ← HE.out.2]
      rfl
  · have HE := Go.Lib.hid (show reqS ⟨c, s, ⟨k, key, x, id⟩⟩ = ⟨#[0]⟩ ∧ reqE ⟨c, s, ⟨k, key, x, id⟩⟩ = 0 by unfold reqS reqL reqE; rw [hn]; exact ⟨rfl, rfl⟩)
    clear hn
    go_wp2
    go_returns
    exact ⟨by rw [HE.out.1, HE.out.2]; rfl, X1.out⟩
end Go.Proofs.YtflpkoafebjfdaaGreat

/- Contracts of layer 11: what is prepared; the reference's. -/
namespace Go.Proofs.YtflpkoafebjfdaaGreat
open Go.RowKit Go.Lib F64
set_option linter.unusedSimpArgs false
set_option linter.unusedVariables false

def headS (sg a b c : Int) (t : ByteArray) : ByteArray := if ok32 a b c = true then ⟨(headL sg a b c ++ t.data.toList).toArray⟩ else ⟨#[]⟩
def headE (a b c : Int) : Int := if ok32 a b c = true then 0 else 1
theorem append_bytes (l : List UInt8) (t : ByteArray) : (⟨l.toArray⟩ : ByteArray) ++ t = ⟨(l ++ t.data.toList).toArray⟩ := by
  apply ByteArray.ext
  rw [ByteArray.data_append]
  simp
theorem prep_head (e v s : Int) (r : Req) (h : reqE r = 0) : prepS e v s r = headS 80 e v s (reqS r) ∧ prepE e v s r = headE e v s := by
  unfold prepS prepL prepE prepB headS headE reqS
  rw [decide_eq_true h, Bool.true_and]
  cases ok32 e v s <;> simp
theorem prep_no (e v s : Int) (r : Req) (h : reqE r ≠ 0) : prepS e v s r = ⟨#[]⟩ ∧ prepE e v s r = 1 := by
  unfold prepS prepL prepE prepB
  rw [decide_eq_false h, Bool.false_and]
  exact ⟨rfl, rfl⟩
theorem reqE_01 (r : Req) : reqE r = 0 ∨ reqE r = 1 := by unfold reqE; split; exact .inl rfl; split; exact .inl rfl; exact .inr rfl
set_option maxHeartbeats 2000000 in
set_option maxRecDepth 100000 in
theorem deeds_headed (sg a b c : Int) (hsg : 0 ≤ sg ∧ sg ≤ 255) (ha : I64 a) (hb : I64 b) (hc : I64 c) (t : ByteArray) (ht : t.size ≤ 1000000) (g : Nat) (w : World) (h : Bx w g [.int .i64 a, .int .i64 b, .int .i64 c] 3) :
    Calls Tryz.prog 285 #[.int .i64 sg, .string t, .slice (some ⟨g, 0, none⟩) 3 3] w fun e w' => e = .returned (.tuple #[.string (headS sg a b c t), .int .i64 (headE a b c)]) ∧ Ext Non w w' := by
  have BG := Go.Lib.hid h
  have HI := Go.Lib.hid (And.intro ha (And.intro hb hc))
  have HS := Go.Lib.hid hsg
  have HR := Go.Lib.hid (head_run (lim := 64) (a := a) (b := b) (c := c) (by decide) hsg)
  clear h ha hb hc hsg
  go_enter Tryz.func285, Tryz.ntmps285
  go_wp2_with fail
  refine (pack_New 64 (by decide) w.heap.size _ (Nat.le_refl _)).mono ?_
  rintro e w1 ⟨bw, rfl, x1, p1, hbw⟩
  have hg : g < w.heap.size := BG.out.lt
  have B1 := Go.Lib.hid (BG.out.extN x1)
  have P1 := Go.Lib.hid p1; have X1 := Go.Lib.hid x1
  clear x1 p1
  go_wp2_with fail
  refine (pack_Byte w.heap.size bw _ sg (by have := HS.out; unfold I64; omega) _ P1.out X1.out.size).mono ?_
  rintro e w2 ⟨rfl, y2⟩
  have B2 := Go.Lib.hid (B1.out.wrote y2.x hbw hg)
  have P2 := Go.Lib.hid y2.p
  have X2 := Go.Lib.hid (X1.out.step y2.x (fun i hi s => by rcases s with s | s <;> omega))
  clear y2
  have q0 : w2.cell? ⟨g, 0, none⟩ = some (.int .i64 a) := B2.out.cell rfl
  go_wp2_with fail
  refine wp_loop_rounds 4 ?_
  rw [rounds_succ]
  go_wp2_with fail
  refine (pack_Long w.heap.size bw _ a HI.out.1 _ P2.out X2.out.size).mono ?_
  rintro e w3 ⟨rfl, y3⟩
  have B3 := Go.Lib.hid (B2.out.wrote y3.x hbw hg)
  have P3 := Go.Lib.hid y3.p
  have X3 := Go.Lib.hid (X2.out.step y3.x (fun i hi s => by rcases s with s | s <;> omega))
  clear y3 q0
  have q1 : w3.cell? ⟨g, 1, none⟩ = some (.int .i64 b) := B3.out.cell rfl
  go_wp2_with fail
  rw [rounds_succ]
  go_wp2_with fail
  refine (pack_Long w.heap.size bw _ b HI.out.2.1 _ P3.out X3.out.size).mono ?_
  rintro e w4 ⟨rfl, y4⟩
  have B4 := Go.Lib.hid (B3.out.wrote y4.x hbw hg)
  have P4 := Go.Lib.hid y4.p
  have X4 := Go.Lib.hid (X3.out.step y4.x (fun i hi s => by rcases s with s | s <;> omega))
  clear y4 q1
  have q2 : w4.cell? ⟨g, 2, none⟩ = some (.int .i64 c) := B4.out.cell rfl
  go_wp2_with fail
  rw [rounds_succ]
  go_wp2_with fail
  refine (pack_Long w.heap.size bw _ c HI.out.2.2 _ P4.out X4.out.size).mono ?_
  rintro e w5 ⟨rfl, y5⟩
  have P5 : Hid (PW w5 w.heap.size bw (headW 64 sg a b c)) := Go.Lib.hid y5.p
  have X5 := Go.Lib.hid (X4.out.step y5.x (fun i hi s => by rcases s with s | s <;> omega))
  clear y5 q2
  go_wp2_with fail
  rw [rounds_succ]
  go_wp2_with fail
  refine (pack_Done _ _ _ _ P5.out).mono ?_
  rintro e w6 ⟨rfl, x6⟩
  have X6 := Go.Lib.hid (X5.out.trans x6)
  clear x6
  cases ho : ok32 a b c
  · have he := HR.out.2 ho
    have hbe : ((headW 64 sg a b c).err != 0) = true := by rw [bne_iff_ne]; exact he
    have HF := Go.Lib.hid (show headS sg a b c t = ⟨#[]⟩ ∧ headE a b c = 1 by unfold headS headE; rw [ho]; exact ⟨rfl, rfl⟩)
    generalize (headW 64 sg a b c).err = er at *
    clear ho he
    go_wp2
    go_returns
    exact ⟨by rw [HF.out.1, HF.out.2]; rfl, X6.out⟩
  · have hw := HR.out.1 ho
    have HF := Go.Lib.hid (show headS sg a b c t = (⟨(headL sg a b c).toArray⟩ : ByteArray) ++ t ∧ headE a b c = 0 by unfold headS headE; rw [ho, append_bytes]; exact ⟨rfl, rfl⟩)
    rw [hw]
    rw [show doneS ⟨headL sg a b c, 64 - 13, 0⟩ = ⟨(headL sg a b c).toArray⟩ from rfl]
    have hds : (⟨(headL sg a b c).toArray⟩ : ByteArray).size = 13 := rfl
    generalize (⟨(headL sg a b c).toArray⟩ : ByteArray) = hd at *
    have hsum : ((hd.size : Nat) : Int) + ((t.size : Nat) : Int) ≤ 9223372036854775807 := by rw [hds]; omega
    clear ho hw hds
    go_wp2
    go_returns
    exact ⟨by rw [HF.out.1, HF.out.2]; rfl, X6.out⟩
theorem reqS_size (r : Req) : (reqS r).size ≤ 34 := by
  unfold reqS reqL
  split
  · decide
  · split
    · rename_i h
      obtain ⟨h1, h2, h3, h4, h5⟩ := rightB_facts h
      obtain ⟨o1, o2, o3, o4, o5⟩ := op_bounds h5
      have : (keyL r).length = r.op.key.size := size_data _
      have := reqT_length r
      show (reqT r).toArray.size ≤ 34
      rw [List.size_toArray]; omega
    · decide
set_option maxHeartbeats 2000000 in
set_option maxRecDepth 100000 in
theorem deeds_Prepared (ep vw sl c s k : Int) (key : ByteArray) (x : Nat) (id : Int) (he : I64 ep) (hv : I64 vw) (hsl : I64 sl) (hc : I64 c) (hs : I64 s) (hk : I64 k) (hid : I64 id) (hx : x < 18446744073709551616) (hks : key.size ≤ 9223372036854775807) (w : World) :
    Calls Tryz.prog 273 #[.int .i64 ep, .int .i64 vw, .int .i64 sl, .agg #[.int .i64 c, .int .i64 s, .int .i64 k, .string key, .float .f64 x, .int .i64 id]] w fun e w' =>
    e = .returned (.tuple #[.string (prepS ep vw sl ⟨c, s, ⟨k, key, x, id⟩⟩), .int .i64 (prepE ep vw sl ⟨c, s, ⟨k, key, x, id⟩⟩)]) ∧ Ext Non w w' := by
  have HC := Go.Lib.hid (And.intro hc (And.intro hs (And.intro hk (And.intro hid (And.intro hx (And.intro hks (And.intro he (And.intro hv hsl))))))))
  clear hc hs hk hid hx hks he hv hsl
  have X0 := Go.Lib.hid ((Ext.refl Non w).alloc (.cells #[.int .i64 c, .int .i64 s, .int .i64 k, .string key, .float .f64 x, .int .i64 id] 37))
  go_enter Tryz.func273, Tryz.ntmps273
  go_wp2_with fail
  obtain ⟨a1, a2, a3, a4, a5, a6, a7, a8, a9⟩ := HC.out
  refine (deeds_Text _ _ _ _ _ _ a1 a2 a3 a4 a5 a6 _).mono ?_
  rintro e w1 ⟨rfl, x1⟩
  have X1 := Go.Lib.hid (X0.out.trans x1)
  clear x1 a1 a2 a3 a4 a5 a6
  rcases reqE_01 ⟨c, s, ⟨k, key, x, id⟩⟩ with h | h
  · have HP := Go.Lib.hid (prep_head ep vw sl _ h)
    have HZ := Go.Lib.hid (reqS_size ⟨c, s, ⟨k, key, x, id⟩⟩)
    rw [h]
    generalize reqS ⟨c, s, ⟨k, key, x, id⟩⟩ = t at *
    clear h
    go_wp2_with fail
    have BG := Bx.new w1 [.int .i64 ep, .int .i64 vw, .int .i64 sl] 3
    have XA := Go.Lib.hid (X1.out.alloc (.cells #[.int .i64 ep, .int .i64 vw, .int .i64 sl] 3))
    refine (deeds_headed 80 ep vw sl (by decide) a7 a8 a9 t (by have := HZ.out; omega) w1.heap.size _ BG).mono ?_
    rintro e w2 ⟨rfl, x2⟩
    go_wp2
    go_returns
    exact ⟨by rw [HP.out.1, HP.out.2]; rfl, XA.out.trans x2⟩
  · have HP := Go.Lib.hid (prep_no ep vw sl ⟨c, s, ⟨k, key, x, id⟩⟩ (by rw [h]; decide))
    rw [h]
    clear h
    go_wp2
    go_returns
    exact ⟨by rw [HP.out.1, HP.out.2]; rfl, X1.out⟩
end Go.Proofs.YtflpkoafebjfdaaGreat

/- Contracts of layers 7 and 9 (council, terms); the reference's. -/
namespace Go.Proofs.YtflpkoafebjfdaaGreat
open Go.RowKit Go.Lib F64
set_option linter.unusedSimpArgs false
set_option linter.unusedVariables false

theorem idx_of (xs : List Int) (t : Int) (i : Nat) (hi : i < xs.length) (h0 : ∀ j (h : j < xs.length), j < i → xs[j] ≠ t) (he : xs[i] = t) : hasB xs t = true := by rw [hasB_iff, ← he]; exact List.getElem_mem hi
theorem idx_no (xs : List Int) (t : Int) (h0 : ∀ j (h : j < xs.length), j < xs.length → xs[j] ≠ t) : hasB xs t = false := by
  rw [Bool.eq_false_iff]; intro h
  rw [hasB_iff] at h
  obtain ⟨j, hj, e⟩ := List.getElem_of_mem h
  exact h0 j hj hj e
theorem slices_Index (a : Option Addr) (cap : Nat) (xs : List Int) (t : Int) (w : World) (h : Ints w a cap xs) : Calls Tryz.prog 305 #[.slice a xs.length cap, .int .i64 t] w fun e w' => ∃ n : Int, e = .returned (.int .i64 n) ∧ w = w' ∧ (decide (0 ≤ n) = hasB xs t) := by
  have hm := h.small
  have hm2 := h.le
  have HH := Go.Lib.hid h; clear h
  go_enter Tryz.func305, Tryz.ntmps305
  go_wp2
  go_loop [8] (fun iv => ∃ (i : Nat), i ≤ xs.length ∧ iv = .int .i64 i ∧ (∀ j (h : j < xs.length), j < i → xs[j] ≠ t)) (fun iv => xs.length - (intOf iv).toNat)
  case atStart => exact ⟨0, Nat.zero_le _, rfl, fun j h hj => absurd hj (Nat.not_lt_zero _)⟩
  case round =>
    obtain ⟨i, hi, rfl, hn⟩ := hrel
    have HN := Go.Lib.hid hn; clear hn
    by_cases hlt : i < xs.length
    · obtain ⟨b, o, rfl, hc, hx⟩ := HH.out.at_ i hlt
      generalize hxi : xs[i] = x at *
      have HX := Go.Lib.hid hxi; clear hxi
      by_cases hxt : x = t
      · have hb : (t == x) = true := by rw [hxt]; simp
        have HT := Go.Lib.hid hxt; clear hxt
        go_wp2
        go_ret
        refine ⟨_, rfl, rfl, ?_⟩
        rw [idx_of xs t i hlt HN.out (HX.out.trans HT.out)]
        simp
      · have hb : (t == x) = false := by rw [beq_eq_false_iff_ne]; exact fun e => hxt e.symm
        have HT := Go.Lib.hid hxt; clear hxt
        go_wp2
        go_round
        case rel =>
          refine ⟨i + 1, hlt, by go_num, fun j hj hji => ?_⟩
          rcases Nat.lt_or_eq_of_le (Nat.lt_succ_iff.1 hji) with h | rfl
          · exact HN.out j hj h
          · exact fun e => HT.out (HX.out.symm.trans e)
        case measure => simp [intOf]; omega
    · go_wp2
      go_ret
      refine ⟨_, rfl, rfl, ?_⟩
      rw [idx_no xs t (fun j hj _ => HN.out j hj (by omega))]
      rfl
theorem slices_Contains (a : Option Addr) (cap : Nat) (xs : List Int) (t : Int) (w : World) (h : Ints w a cap xs) : Calls Tryz.prog 252 #[.slice a xs.length cap, .int .i64 t] w fun e w' => e = .returned (.bool (hasB xs t)) ∧ w = w' := by
  have HH := Go.Lib.hid h; clear h
  go_enter Tryz.func252, Tryz.ntmps252
  go_wp2_with fail
  refine (slices_Index _ _ _ _ _ HH.out).mono ?_
  rintro e w1 ⟨n, rfl, rfl, hn⟩
  have HN := Go.Lib.hid hn; clear hn
  go_wp2
  go_ret
  exact ⟨ret_bool HN.out, rfl⟩
theorem council_Has (ep : Int) (a : Option Addr) (cap : Nat) (xs : List Int) (t : Int) (w : World) (h : Ints w a cap xs) : Calls Tryz.prog 159 #[.agg #[.int .i64 ep, .slice a xs.length cap], .int .i64 t] w fun e w' => e = .returned (.bool (hasB xs t)) ∧ Ext Non w w' := by
  have HH := Go.Lib.hid h; clear h
  go_enter Tryz.func159, Tryz.ntmps159
  go_wp2_with fail
  refine (slices_Contains _ _ _ _ _ (HH.out.extN ((Ext.refl _ _).alloc _))).mono ?_
  rintro e w1 ⟨rfl, rfl⟩
  go_wp2
  go_ret
  exact ⟨rfl, (Ext.refl _ _).alloc _⟩
theorem council_Faults (n : Int) (h0 : 0 ≤ n) (h1 : n ≤ 4611686018427387903) (w : World) : Calls Tryz.prog 328 #[.int .i64 n] w fun e w' => e = .returned (.int .i64 (faultsI n)) ∧ w = w' := by
  by_cases hn : n < 1
  · have HF := Go.Lib.hid (show faultsI n = 0 by unfold faultsI; rw [if_pos hn])
    go_enter Tryz.func328, Tryz.ntmps328
    go_wp2
    go_ret
    exact ⟨ret_int HF.out.symm, rfl⟩
  · have HF := Go.Lib.hid (show faultsI n = (n - 1) / 3 by unfold faultsI; rw [if_neg hn])
    have hw : IntKind.i64.wrap (n - 1) = n - 1 := IntWalk.i64_in _ (by omega)
    have hge : 0 ≤ n - 1 := by omega
    go_enter Tryz.func328, Tryz.ntmps328
    go_wp2
    go_ret
    exact ⟨ret_int (by rw [HF.out]; try rw [Int.tdiv_eq_ediv_of_nonneg (by omega)]), rfl⟩
theorem faults_bd (n : Int) (h0 : 0 ≤ n) : 0 ≤ faultsI n ∧ faultsI n ≤ n := by unfold faultsI; split <;> omega
theorem council_Quorum (n : Int) (h0 : 0 ≤ n) (h1 : n ≤ 4611686018427387903) (w : World) : Calls Tryz.prog 288 #[.int .i64 n] w fun e w' => e = .returned (.int .i64 (quorumI n)) ∧ w = w' := by
  by_cases hn : n < 1
  · have HF := Go.Lib.hid (show quorumI n = 0 by unfold quorumI; rw [if_pos hn])
    go_enter Tryz.func288, Tryz.ntmps288
    go_wp2
    go_ret
    exact ⟨ret_int HF.out.symm, rfl⟩
  · have HF := Go.Lib.hid (show quorumI n = faultsI n + (n - faultsI n) / 2 + 1 by unfold quorumI; rw [if_neg hn])
    obtain ⟨f0, f1⟩ := faults_bd n h0
    have HQ := Go.Lib.hid (And.intro h0 h1)
    go_enter Tryz.func288, Tryz.ntmps288
    go_wp2_with fail
    refine (council_Faults n HQ.out.1 HQ.out.2 _).mono ?_
    rintro e w1 ⟨rfl, rfl⟩
    generalize faultsI n = f at *
    have hge : 0 ≤ n - f := by omega
    have hw : IntKind.i64.wrap (n - f) = n - f := IntWalk.i64_in _ (by omega)
    go_wp2
    go_ret
    exact ⟨ret_int (by rw [HF.out]; try rw [Int.tdiv_eq_ediv_of_nonneg (by omega)]), rfl⟩
end Go.Proofs.YtflpkoafebjfdaaGreat

/- Contracts of layer 9 (terms): proofs; the reference's. -/
namespace Go.Proofs.YtflpkoafebjfdaaGreat
open Go.RowKit Go.Lib F64
set_option linter.unusedSimpArgs false
set_option linter.unusedVariables false

/-- A row of signatures that can be read behind an address. -/
structure Sigs (w : World) (a : Option Addr) (cap : Nat) (l : List Sg) : Prop where
  le : l.length ≤ cap
  small : cap ≤ 9223372036854775807
  at_ : ∀ j (h : j < l.length), ∃ b o, a = some ⟨b, o, none⟩ ∧ b < w.heap.size ∧ w.cell? ⟨b, o + j * 2, none⟩ = some (.int .i64 (sgAt l j).by_) ∧ w.cell? ⟨b, o + j * 2 + 1, none⟩ = some (.string (sgAt l j).text) ∧ I64 (sgAt l j).by_ ∧ (sgAt l j).text.size ≤ 9223372036854775807
theorem Sigs.extN {w w' : World} {a : Option Addr} {cap : Nat} {l : List Sg} (h : Sigs w a cap l) (x : Ext Non w w') : Sigs w' a cap l :=
  ⟨h.le, h.small, fun j hj => by
    obtain ⟨b, o, e, hb, c0, c1, i, t⟩ := h.at_ j hj
    exact ⟨b, o, e, Nat.lt_of_lt_of_le hb x.size, (x.cell (p := ⟨b, o + j * 2, none⟩) hb (fun f => f)).trans c0, (x.cell (p := ⟨b, o + j * 2 + 1, none⟩) hb (fun f => f)).trans c1, i, t⟩⟩
end Go.Proofs.YtflpkoafebjfdaaGreat

/- Contracts of layer 16 (change): what fits, and its text. -/
namespace Go.Proofs.YtflpkoafebjfdaaGreat
open Go.RowKit Go.Lib F64
set_option linter.unusedSimpArgs false
set_option linter.unusedVariables false

/-- A request's fields are such as a machine holds. -/
structure ReqOk (r : Req) : Prop where
  c : I64 r.client
  s : I64 r.stamp
  k : I64 r.op.kind
  id : I64 r.op.id
  x : r.op.real < 18446744073709551616
  key : r.op.key.size ≤ 9223372036854775807
def Req.cells (r : Req) : List Value := [.int .i64 r.client, .int .i64 r.stamp, .int .i64 r.op.kind, .string r.op.key, .float .f64 r.op.real, .int .i64 r.op.id]
def Ct.cells (x : Ct) (a : Option Addr) (cap : Nat) : List Value := [.int .i64 x.view, .int .i64 x.slot, .int .i64 x.req.client, .int .i64 x.req.stamp, .int .i64 x.req.op.kind, .string x.req.op.key, .float .f64 x.req.op.real, .int .i64 x.req.op.id, .slice a x.sigs.length cap]
end Go.Proofs.YtflpkoafebjfdaaGreat

/- Contracts of layer 16 (change): the text that a change signs. -/
namespace Go.Proofs.YtflpkoafebjfdaaGreat
open Go.RowKit Go.Lib F64
set_option linter.unusedSimpArgs false
set_option linter.unusedVariables false

attribute [local go_sem] run_store_float
theorem Bx.keep {w w' : World} {n0 b k : Nat} {vs : List Value} {t : TypeId} (a : Bx w k vs t) (x : Ext (WB n0 b w) w w') (hb : k ≠ b) (ht : t ≠ 5) : Bx w' k vs t := a.ext x (WB.other a.h hb ht)
/-- A row of certificates that can be read behind an address. -/
structure Certs (w : World) (a : Option Addr) (cap : Nat) (l : List Ct) : Prop where
  le : l.length ≤ cap
  small : cap ≤ 9223372036854775807
  at_ : ∀ j (h : j < l.length), ∃ b o sa scap, a = some ⟨b, o, none⟩ ∧ b < w.heap.size ∧ (∀ i v, ((ctAt l j).cells sa scap)[i]? = some v → w.cell? ⟨b, o + j * 9 + i, none⟩ = some v) ∧ Sigs w sa scap (ctAt l j).sigs ∧ ReqOk (ctAt l j).req ∧ I64 (ctAt l j).view ∧ I64 (ctAt l j).slot
theorem Certs.extN {w w' : World} {a : Option Addr} {cap : Nat} {l : List Ct} (h : Certs w a cap l) (x : Ext Non w w') : Certs w' a cap l :=
  ⟨h.le, h.small, fun j hj => by
    obtain ⟨b, o, sa, scap, e, hb, c, s, r⟩ := h.at_ j hj
    exact ⟨b, o, sa, scap, e, Nat.lt_of_lt_of_le hb x.size, fun i v hv => (x.cell (p := ⟨b, o + j * 9 + i, none⟩) hb (fun f => f)).trans (c i v hv), s.extN x, r⟩⟩
theorem reqS_list (r : Req) : (reqS r).data.toList = reqL r := by unfold reqS; simp
end Go.Proofs.YtflpkoafebjfdaaGreat

/- Contracts of the reference of layer 13: which changes fit. -/
namespace Go.Proofs.YtflpkoafebjfdaaGreat
open Go.RowKit Go.Lib F64
set_option linter.unusedSimpArgs false
set_option linter.unusedVariables false
attribute [local go_sem] run_store_float
attribute [local go_sem low] EW.cellN EW.frozN alloc_cell_or alloc_froz_or
def sigsB (l : List Sg) : Bool := nodesB l && decide (l.length ≤ 16)
end Go.Proofs.YtflpkoafebjfdaaGreat

/- Worlds that grew behind a writer: 'y : EW (WB n0 b w) w'. A block that the writer does not write is told by NW; simp reads its cells through any number of such worlds. -/
namespace Go.Proofs.YtflpkoafebjfdaaGreat
open Go.RowKit
set_option linter.unusedVariables false

/-- Block k is there, and not the writer's. -/
def NW (n0 b : Nat) (w : World) (k : Nat) : Prop := k < w.heap.size ∧ ¬ WB n0 b w k
theorem NW.old {n0 b : Nat} {w : World} {k : Nat} (hk : k < n0) (hb : n0 ≤ b) (hw : n0 ≤ w.heap.size) : NW n0 b w k :=
  ⟨by omega, fun h => by rcases h with h | h; omega; have := h.1; omega⟩
theorem NW.box {n0 b : Nat} {w : World} {k : Nat} {c : Array Value} {t : TypeId} {fr : Nat × Nat} (h : w.heap[k]? = some (.cells c t fr)) (hk : k ≠ b) (ht : t ≠ 5) : NW n0 b w k :=
  ⟨(Array.getElem?_eq_some_iff.1 h).1, WB.other h hk ht⟩
theorem NW.new {n0 b : Nat} {w : World} {k : Nat} (c : Array Value) (t : TypeId) (hk : k = w.heap.size) (hb : b < w.heap.size) (ht : t ≠ 5) : NW n0 b (w.alloc (.cells c t)) k := by
  subst hk
  exact NW.box (heap_alloc_new _ _) (by omega) ht
theorem NW.ext {S : Nat → Prop} {n0 b : Nat} {w w' : World} {k : Nat} (h : NW n0 b w k) (x : Ext S w w') (hs : ¬ S k) : NW n0 b w' k :=
  ⟨Nat.lt_of_lt_of_le h.1 x.size, fun hb => h.2 (by
    rcases hb with e | ⟨h1, cs, fr, h2⟩
    · exact .inl e
    · exact .inr ⟨h1, cs, fr, (x.block k h.1 hs).symm.trans h2⟩)⟩
/-- What is NW in the later world alone. -/
def restN (n0 b : Nat) (w w' : World) (k : Nat) : Prop := NW n0 b w' k ∧ ¬ NW n0 b w k
theorem NW.or {S : Nat → Prop} {n0 b : Nat} {w w' : World} (x : Ext S w w') (k : Nat) (hs : NW n0 b w k → ¬ S k) : NW n0 b w' k = (NW n0 b w k ∨ restN n0 b w w' k) := by
  apply propext
  constructor
  · intro h
    by_cases g : NW n0 b w k
    · exact .inl g
    · exact .inr ⟨h, g⟩
  · rintro (h | h)
    · exact h.ext x (hs h)
    · exact h.1
theorem NW.alloc {n0 b : Nat} {w : World} (o : Obj) (k : Nat) : NW n0 b (w.alloc o) k = (NW n0 b w k ∨ restN n0 b w (w.alloc o) k) := NW.or ((Ext.refl Non w).alloc o) k (fun _ f => f)
open Classical in
/-- A cell that the writer may have written. -/
noncomputable def restW (n0 b : Nat) (w w' : World) (p : Addr) : Option Value := w'.cell? p
theorem Ext.upW {n0 b : Nat} {a w : World} {x : EW (WB n0 b w) w} (h : Ext (WB n0 b a) a w) : Ext (WB n0 b a) a x.on := h.wtrans x.ext
/-- A writer's world, seen from ahead of the writer. -/
structure Ahead (n0 b : Nat) (a : World) : Prop where
  n : a.heap.size ≤ n0
  b : n0 ≤ b
theorem Ext.upA {n0 b : Nat} {a w : World} {x : EW (WB n0 b w) w} (hb : Ahead n0 b a) (h : Ext Non a w) : Ext Non a x.on :=
  h.step x.ext fun i hi s => by
    have := hb.n; have := hb.b
    rcases s with s | s
    · omega
    · have := s.1; omega
theorem PW.base_le' {w : World} {n0 b : Nat} {W : Wr} (h : PW w n0 b W) : n0 ≤ w.heap.size := Nat.le_trans h.nb (Nat.le_of_lt h.lt)
end Go.Proofs.YtflpkoafebjfdaaGreat

/- Contracts of layer 16: which changes are right. -/
namespace Go.Proofs.YtflpkoafebjfdaaGreat
open Go.RowKit Go.Lib F64
set_option linter.unusedSimpArgs false
set_option linter.unusedVariables false
attribute [local go_sem] run_store_float
attribute [local go_sem low] EW.cellN EW.frozN alloc_cell_or alloc_froz_or
def sigE (ep : Int) (c : Ch) : Int := if c.by_ = c.from_ ∧ c.text = chS ep c then 0 else 16
def certsE (ep : Int) (xs : List Int) (view last : Int) : List Ct → Int
  | [] => last
  | y :: t => if view ≤ y.view then 13 else if provesB ep xs (prepS ep y.view y.slot y.req) y.sigs = true then certsE ep xs view last t else 15
/-- The first error of a change. -/
def rightE (ep : Int) (xs : List Int) (c : Ch) : Int :=
  if confB ep xs = true then (if chE ep c = 0 then (if hasB xs c.from_ = true then certsE ep xs c.view (sigE ep c) c.certs else 8) else chE ep c) else 1
end Go.Proofs.YtflpkoafebjfdaaGreat
