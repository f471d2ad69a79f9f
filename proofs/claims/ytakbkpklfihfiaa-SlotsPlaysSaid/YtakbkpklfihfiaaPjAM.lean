/- Joined texts: DeedsT, Ew2. What each proves stands at its head; no conditions beside those in its theorems. -/
import Derived.Test.YtakbkpklfihfiaaPjAH
import Derived.Test.YtakbkpklfihfiaaPjAI
import Derived.Test.YtakbkpklfihfiaaPjAL
/- Contracts of layer 11 (deeds): texts; and the reference's. -/
namespace Go.Proofs.Ytakbkpklfihfiaa
open Go.RowKit Go.Lib F64
set_option linter.unusedSimpArgs false
set_option linter.unusedVariables false

/-- The cells of a block. -/
structure Bx (w : World) (k : Nat) (vs : List Value) (t : TypeId) : Prop where
  h : w.heap[k]? = some (.cells vs.toArray t (0, 0))
theorem Bx.lt {w : World} {k : Nat} {vs : List Value} {t : TypeId} (a : Bx w k vs t) : k < w.heap.size := (Array.getElem?_eq_some_iff.1 a.h).1
theorem Bx.ext {S : Nat → Prop} {w w' : World} {k : Nat} {vs : List Value} {t : TypeId} (a : Bx w k vs t) (x : Ext S w w') (hk : ¬ S k) : Bx w' k vs t := ⟨(x.block k a.lt hk).trans a.h⟩
theorem Bx.extN {w w' : World} {k : Nat} {vs : List Value} {t : TypeId} (a : Bx w k vs t) (x : Ext Non w w') : Bx w' k vs t := a.ext x (fun f => f)
theorem Bx.cell {w : World} {k : Nat} {vs : List Value} {t : TypeId} (a : Bx w k vs t) {j : Nat} {v : Value} (hv : vs[j]? = some v) : w.cell? ⟨k, j, none⟩ = some v := cell_of_heap a.h hv
theorem Bx.new (w : World) (vs : List Value) (t : TypeId) : Bx (w.alloc (.cells vs.toArray t)) w.heap.size vs t := ⟨heap_alloc_new _ _⟩
theorem Bx.six {w : World} {k : Nat} {v0 v1 v2 v3 v4 v5 : Value} {t : TypeId} (a : Bx w k [v0, v1, v2, v3, v4, v5] t) : w.cell? ⟨k, 0, none⟩ = some v0 ∧ w.cell? ⟨k, 1, none⟩ = some v1 ∧ w.cell? ⟨k, 2, none⟩ = some v2 ∧ w.cell? ⟨k, 3, none⟩ = some v3 ∧ w.cell? ⟨k, 4, none⟩ = some v4 ∧ w.cell? ⟨k, 5, none⟩ = some v5 :=
  ⟨a.cell rfl, a.cell rfl, a.cell rfl, a.cell rfl, a.cell rfl, a.cell rfl⟩
/-- A block that is older than a writer's base is not the writer's. -/
theorem Bx.wrote {w w' : World} {n0 b k : Nat} {vs : List Value} {t : TypeId} (a : Bx w k vs t) (x : Ext (WB n0 b w) w w') (hb : n0 ≤ b) (hk : k < n0) : Bx w' k vs t :=
  a.ext x (by rintro (e | e) <;> omega)

theorem ref_Null (c s k : Int) (key : ByteArray) (x : Nat) (id : Int) (w : World) : Calls Try.prog 31 #[.agg #[.int .i64 c, .int .i64 s, .int .i64 k, .string key, .float .f64 x, .int .i64 id]] w fun e w' => e = .returned (.bool (nullB ⟨c, s, ⟨k, key, x, id⟩⟩)) ∧ Ext Non w w' := by
  have B0 : Ext Non w (w.alloc (.cells #[.int .i64 c, .int .i64 s, .int .i64 k, .string key, .float .f64 x, .int .i64 id] 49)) := (Ext.refl _ _).alloc _
  have HE : Hid (nullB ⟨c, s, ⟨k, key, x, id⟩⟩ = (decide (c = 0) && decide (s = 0) && decide (k = 0) && decide (id = 0) && decide (key.size = 0) && noneB x)) := Go.Lib.hid rfl
  by_cases h1 : c = 0
  · by_cases h2 : s = 0
    · by_cases h3 : k = 0
      · by_cases h4 : key.toList = []
        · have HS := Go.Lib.hid ((toList_nil key).1 h4)
          subst h1; subst h2; subst h3
          go_enter Try.func31, Try.ntmps31
          go_wp2_with fail
          refine (ref_plain _ _ _ _ _).mono ?_
          rintro e w1 ⟨rfl, y⟩
          have c5 : w1.cell? ⟨w.heap.size, 5, none⟩ = some (.int .i64 id) := (y.cell (p := ⟨w.heap.size, 5, none⟩) (by simp) (fun f => f)).trans (cell_new' w _ _ rfl)
          cases hn : noneB x
          all_goals
            have HN := Go.Lib.hid hn
            clear hn
            go_wp2
            go_returns
            exact ⟨ret_bool (by rw [HE.out, HS.out, HN.out, Bool.eq_iff_iff]; simp), B0.trans y⟩
        · have HS := Go.Lib.hid (fun h => h4 ((toList_nil key).2 h))
          subst h1; subst h2; subst h3
          go_enter Try.func31, Try.ntmps31
          go_wp2
          go_returns
          exact ⟨ret_bool (by rw [HE.out, decide_eq_false HS.out]; simp), B0⟩
      · have HS := Go.Lib.hid (decide_eq_false h3)
        have hb : (k == 0) = false := by rw [beq_eq_false_iff_ne]; exact h3
        subst h1; subst h2; clear h3
        go_enter Try.func31, Try.ntmps31
        go_wp2
        go_returns
        exact ⟨ret_bool (by rw [HE.out, HS.out]; simp), B0⟩
    · have HS := Go.Lib.hid (decide_eq_false h2)
      have hb : (s == 0) = false := by rw [beq_eq_false_iff_ne]; exact h2
      subst h1; clear h2
      go_enter Try.func31, Try.ntmps31
      go_wp2
      go_returns
      exact ⟨ret_bool (by rw [HE.out, HS.out]; simp), B0⟩
  · have HS := Go.Lib.hid (decide_eq_false h1)
    have hb : (c == 0) = false := by rw [beq_eq_false_iff_ne]; exact h1
    clear h1
    go_enter Try.func31, Try.ntmps31
    go_wp2
    go_returns
    exact ⟨ret_bool (by rw [HE.out, HS.out]; simp), B0⟩
set_option maxHeartbeats 2000000 in
set_option maxRecDepth 100000 in
theorem deeds_Text (c s k : Int) (key : ByteArray) (x : Nat) (id : Int) (hc : I64 c) (hs : I64 s) (hk : I64 k) (hid : I64 id) (hx : x < 18446744073709551616) (hks : key.size ≤ 9223372036854775807) (w : World) : Calls Try.prog 60 #[.agg #[.int .i64 c, .int .i64 s, .int .i64 k, .string key, .float .f64 x, .int .i64 id]] w fun e w' =>
    e = .returned (.tuple #[.string (reqS ⟨c, s, ⟨k, key, x, id⟩⟩), .int .i64 (reqE ⟨c, s, ⟨k, key, x, id⟩⟩)]) ∧ Ext Non w w' := by
  have HC := Go.Lib.hid (And.intro hc (And.intro hs (And.intro hk (And.intro hid (And.intro hx hks)))))
  clear hc hs hk hid hx hks
  have B0 := Go.Lib.hid (Bx.new w [.int .i64 c, .int .i64 s, .int .i64 k, .string key, .float .f64 x, .int .i64 id] 49)
  have X0 := Go.Lib.hid ((Ext.refl Non w).alloc (.cells #[.int .i64 c, .int .i64 s, .int .i64 k, .string key, .float .f64 x, .int .i64 id] 49))
  go_enter Try.func60, Try.ntmps60
  go_wp2_with fail
  refine (deeds_Null _ _ _ _ _ _ HC.out.1 HC.out.2.1 HC.out.2.2.1 HC.out.2.2.2.1 _).mono ?_
  rintro e w1 ⟨rfl, x1⟩
  have B1 := Go.Lib.hid (B0.out.extN x1)
  have X1 := Go.Lib.hid (X0.out.trans x1)
  obtain ⟨q0, q1, q2, q3, q4, q5⟩ := B1.out.six
  clear x1
  cases hn : nullB ⟨c, s, ⟨k, key, x, id⟩⟩
  · have HN := Go.Lib.hid hn
    clear hn
    go_wp2_with fail
    refine (deeds_Right _ _ _ _ _ _ _).mono ?_
    rintro e w2 ⟨rfl, x2⟩
    have B2 := Go.Lib.hid (B1.out.extN x2)
    have X2 := Go.Lib.hid (X1.out.trans x2)
    clear x2 q0 q1 q2 q3 q4 q5
    obtain ⟨q0, q1, q2, q3, q4, q5⟩ := B2.out.six
    cases hr : rightB ⟨c, s, ⟨k, key, x, id⟩⟩
    · have HE := Go.Lib.hid (show reqS ⟨c, s, ⟨k, key, x, id⟩⟩ = ⟨#[]⟩ ∧ reqE ⟨c, s, ⟨k, key, x, id⟩⟩ = 1 by unfold reqS reqL reqE; rw [HN.out, hr]; exact ⟨rfl, rfl⟩)
      clear hr
      go_wp2
      go_returns
      exact ⟨by rw [HE.out.1, HE.out.2]; rfl, X2.out⟩
    · have HE := Go.Lib.hid (reqW_ok hr (lim := 64) (by decide))
      clear hr
      go_wp2_with fail
      refine (pack_New 64 (by decide) w2.heap.size _ (Nat.le_refl _)).mono ?_
      rintro e w3 ⟨b, rfl, x3, p3, hb⟩
      have B3 := B2.out.extN x3
      have hkb : w.heap.size < w2.heap.size := B2.out.lt
      have X3 := Go.Lib.hid (X2.out.trans x3)
      have BB := Go.Lib.hid B3; have PP := Go.Lib.hid p3
      have hs0 : w2.heap.size ≤ w3.heap.size := x3.size
      clear x3 p3 B3 q0 q1 q2 q3 q4 q5
      obtain ⟨q0, q1, q2, q3, q4, q5⟩ := BB.out.six
      go_wp2_with fail
      refine (pack_Byte w2.heap.size b _ 1 (by unfold I64; omega) _ PP.out hs0).mono ?_
      rintro e w4 ⟨rfl, y⟩
      have BB' := Go.Lib.hid (BB.out.wrote y.x hb hkb)
      have PP' := Go.Lib.hid y.p
      have hs1 : w2.heap.size ≤ w4.heap.size := Nat.le_trans hs0 y.x.size
      have XX := Go.Lib.hid (X3.out.step y.x (fun i hi s => by rcases s with s | s <;> omega))
      clear y q0 q1 q2 q3 q4 q5 BB PP hs0 X3
      have BB := BB'; have PP := PP'; have hs0 := hs1; have X3 := XX
      clear BB' PP' hs1 XX
      obtain ⟨q0, q1, q2, q3, q4, q5⟩ := BB.out.six
      go_wp2_with fail
      refine (pack_Byte w2.heap.size b _ c HC.out.1 _ PP.out hs0).mono ?_
      rintro e w5 ⟨rfl, y⟩
      have BB' := Go.Lib.hid (BB.out.wrote y.x hb hkb)
      have PP' := Go.Lib.hid y.p
      have hs1 : w2.heap.size ≤ w5.heap.size := Nat.le_trans hs0 y.x.size
      have XX := Go.Lib.hid (X3.out.step y.x (fun i hi s => by rcases s with s | s <;> omega))
      clear y q0 q1 q2 q3 q4 q5 BB PP hs0 X3
      have BB := BB'; have PP := PP'; have hs0 := hs1; have X3 := XX
      clear BB' PP' hs1 XX
      obtain ⟨q0, q1, q2, q3, q4, q5⟩ := BB.out.six
      go_wp2_with fail
      refine (pack_Long w2.heap.size b _ s HC.out.2.1 _ PP.out hs0).mono ?_
      rintro e w6 ⟨rfl, y⟩
      have BB' := Go.Lib.hid (BB.out.wrote y.x hb hkb)
      have PP' := Go.Lib.hid y.p
      have hs1 : w2.heap.size ≤ w6.heap.size := Nat.le_trans hs0 y.x.size
      have XX := Go.Lib.hid (X3.out.step y.x (fun i hi s => by rcases s with s | s <;> omega))
      clear y q0 q1 q2 q3 q4 q5 BB PP hs0 X3
      have BB := BB'; have PP := PP'; have hs0 := hs1; have X3 := XX
      clear BB' PP' hs1 XX
      obtain ⟨q0, q1, q2, q3, q4, q5⟩ := BB.out.six
      go_wp2_with fail
      refine (pack_Byte w2.heap.size b _ k HC.out.2.2.1 _ PP.out hs0).mono ?_
      rintro e w7 ⟨rfl, y⟩
      have BB' := Go.Lib.hid (BB.out.wrote y.x hb hkb)
      have PP' := Go.Lib.hid y.p
      have hs1 : w2.heap.size ≤ w7.heap.size := Nat.le_trans hs0 y.x.size
      have XX := Go.Lib.hid (X3.out.step y.x (fun i hi s => by rcases s with s | s <;> omega))
      clear y q0 q1 q2 q3 q4 q5 BB PP hs0 X3
      have BB := BB'; have PP := PP'; have hs0 := hs1; have X3 := XX
      clear BB' PP' hs1 XX
      obtain ⟨q0, q1, q2, q3, q4, q5⟩ := BB.out.six
      go_wp2_with fail
      refine (pack_Text w2.heap.size b _ key HC.out.2.2.2.2.2 _ PP.out hs0).mono ?_
      rintro e w8 ⟨rfl, y⟩
      have BB' := Go.Lib.hid (BB.out.wrote y.x hb hkb)
      have PP' := Go.Lib.hid y.p
      have hs1 : w2.heap.size ≤ w8.heap.size := Nat.le_trans hs0 y.x.size
      have XX := Go.Lib.hid (X3.out.step y.x (fun i hi s => by rcases s with s | s <;> omega))
      clear y q0 q1 q2 q3 q4 q5 BB PP hs0 X3
      have BB := BB'; have PP := PP'; have hs0 := hs1; have X3 := XX
      clear BB' PP' hs1 XX
      obtain ⟨q0, q1, q2, q3, q4, q5⟩ := BB.out.six
      go_wp2_with fail
      refine (reals_Bits _ _).mono ?_
      rintro e w9x ⟨rfl, rfl⟩
      go_wp2_with fail
      refine (pack_Bits w2.heap.size b _ (canonN x) (canon_lt HC.out.2.2.2.2.1) _ PP.out hs0).mono ?_
      rintro e w9 ⟨rfl, y⟩
      have BB' := Go.Lib.hid (BB.out.wrote y.x hb hkb)
      have PP' := Go.Lib.hid y.p
      have hs1 : w2.heap.size ≤ w9.heap.size := Nat.le_trans hs0 y.x.size
      have XX := Go.Lib.hid (X3.out.step y.x (fun i hi s => by rcases s with s | s <;> omega))
      clear y q0 q1 q2 q3 q4 q5 BB PP hs0 X3
      have BB := BB'; have PP := PP'; have hs0 := hs1; have X3 := XX
      clear BB' PP' hs1 XX
      obtain ⟨q0, q1, q2, q3, q4, q5⟩ := BB.out.six
      go_wp2_with fail
      refine (pack_Byte w2.heap.size b _ id HC.out.2.2.2.1 _ PP.out hs0).mono ?_
      rintro e w10 ⟨rfl, y⟩
      have BB' := Go.Lib.hid (BB.out.wrote y.x hb hkb)
      have PP' := Go.Lib.hid y.p
      have hs1 : w2.heap.size ≤ w10.heap.size := Nat.le_trans hs0 y.x.size
      have XX := Go.Lib.hid (X3.out.step y.x (fun i hi s => by rcases s with s | s <;> omega))
      clear y q0 q1 q2 q3 q4 q5 BB PP hs0 X3
      have BB := BB'; have PP := PP'; have hs0 := hs1; have X3 := XX
      clear BB' PP' hs1 XX
      go_wp2_with fail
      refine (pack_Done _ _ _ _ PP.out).mono ?_
      rintro e wz ⟨rfl, yz⟩
      go_wp2
      go_returns
      refine ⟨?_, X3.out.trans yz⟩
      rw [← HE.out.1, ← HE.out.2]
      rfl
  · have HE := Go.Lib.hid (show reqS ⟨c, s, ⟨k, key, x, id⟩⟩ = ⟨#[0]⟩ ∧ reqE ⟨c, s, ⟨k, key, x, id⟩⟩ = 0 by unfold reqS reqL reqE; rw [hn]; exact ⟨rfl, rfl⟩)
    clear hn
    have hcv : ∀ W : World, (convert 147 9 (.slice (some ⟨W.heap.size, 0, none⟩) 1 1)).run Try.prog (W.alloc (.cells #[.int .u8 0] 5)) = .ok (.string ⟨#[0]⟩) (W.alloc (.cells #[.int .u8 0] 5)) := fun W =>
      run_convert_bytes_back _ _ _ 5 ⟨W.heap.size, 0, none⟩ 1 [0] Try.underlying147 Try.underlying5 Try.underlying9 (fun j hj => by
        have : j = 0 := by simp at hj; omega
        subst this
        exact cell_of_heap (cur := [.int .u8 0]) (heap_alloc_new W _) rfl)
    go_wp2
    go_returns
    exact ⟨by rw [HE.out.1, HE.out.2]; rfl, X1.out.trans ((Ext.refl _ _).alloc _)⟩
set_option maxHeartbeats 2000000 in
set_option maxRecDepth 100000 in
theorem ref_Text (c s k : Int) (key : ByteArray) (x : Nat) (id : Int) (hc : I64 c) (hs : I64 s) (hk : I64 k) (hid : I64 id) (hx : x < 18446744073709551616) (hks : key.size ≤ 9223372036854775807) (w : World) : Calls Try.prog 66 #[.agg #[.int .i64 c, .int .i64 s, .int .i64 k, .string key, .float .f64 x, .int .i64 id]] w fun e w' =>
    e = .returned (.tuple #[.string (reqS ⟨c, s, ⟨k, key, x, id⟩⟩), .int .i64 (reqE ⟨c, s, ⟨k, key, x, id⟩⟩)]) ∧ Ext Non w w' := by
  have HC := Go.Lib.hid (And.intro hc (And.intro hs (And.intro hk (And.intro hid (And.intro hx hks)))))
  clear hc hs hk hid hx hks
  have B0 := Go.Lib.hid (Bx.new w [.int .i64 c, .int .i64 s, .int .i64 k, .string key, .float .f64 x, .int .i64 id] 49)
  have X0 := Go.Lib.hid ((Ext.refl Non w).alloc (.cells #[.int .i64 c, .int .i64 s, .int .i64 k, .string key, .float .f64 x, .int .i64 id] 49))
  go_enter Try.func66, Try.ntmps66
  go_wp2_with fail
  refine (ref_Null _ _ _ _ _ _ _).mono ?_
  rintro e w1 ⟨rfl, x1⟩
  have B1 := Go.Lib.hid (B0.out.extN x1)
  have X1 := Go.Lib.hid (X0.out.trans x1)
  obtain ⟨q0, q1, q2, q3, q4, q5⟩ := B1.out.six
  clear x1
  cases hn : nullB ⟨c, s, ⟨k, key, x, id⟩⟩
  · have HN := Go.Lib.hid hn
    clear hn
    go_wp2_with fail
    refine (ref_Right _ _ _ _ _ _ _).mono ?_
    rintro e w2 ⟨rfl, x2⟩
    have B2 := Go.Lib.hid (B1.out.extN x2)
    have X2 := Go.Lib.hid (X1.out.trans x2)
    clear x2 q0 q1 q2 q3 q4 q5
    obtain ⟨q0, q1, q2, q3, q4, q5⟩ := B2.out.six
    cases hr : rightB ⟨c, s, ⟨k, key, x, id⟩⟩
    · have HE := Go.Lib.hid (show reqS ⟨c, s, ⟨k, key, x, id⟩⟩ = ⟨#[]⟩ ∧ reqE ⟨c, s, ⟨k, key, x, id⟩⟩ = 1 by unfold reqS reqL reqE; rw [HN.out, hr]; exact ⟨rfl, rfl⟩)
      clear hr
      go_wp2
      go_returns
      exact ⟨by rw [HE.out.1, HE.out.2]; rfl, X2.out⟩
    · have HE := Go.Lib.hid (reqW_ok hr (lim := 100) (by decide))
      clear hr
      go_wp2_with fail
      refine (refw_New 100 (by decide) w2.heap.size _ (Nat.le_refl _)).mono ?_
      rintro e w3 ⟨b, rfl, x3, p3, hb⟩
      have B3 := B2.out.extN x3
      have hkb : w.heap.size < w2.heap.size := B2.out.lt
      have X3 := Go.Lib.hid (X2.out.trans x3)
      have BB := Go.Lib.hid B3; have PP := Go.Lib.hid p3
      have hs0 : w2.heap.size ≤ w3.heap.size := x3.size
      clear x3 p3 B3 q0 q1 q2 q3 q4 q5
      obtain ⟨q0, q1, q2, q3, q4, q5⟩ := BB.out.six
      go_wp2_with fail
      refine (refw_Num1 w2.heap.size b _ 1 (by unfold I64; omega) _ PP.out hs0).mono ?_
      rintro e w4 ⟨rfl, y⟩
      have BB' := Go.Lib.hid (BB.out.wrote y.x hb hkb)
      have PP' := Go.Lib.hid y.p
      have hs1 : w2.heap.size ≤ w4.heap.size := Nat.le_trans hs0 y.x.size
      have XX := Go.Lib.hid (X3.out.step y.x (fun i hi s => by rcases s with s | s <;> omega))
      clear y q0 q1 q2 q3 q4 q5 BB PP hs0 X3
      have BB := BB'; have PP := PP'; have hs0 := hs1; have X3 := XX
      clear BB' PP' hs1 XX
      obtain ⟨q0, q1, q2, q3, q4, q5⟩ := BB.out.six
      go_wp2_with fail
      refine (refw_Num1 w2.heap.size b _ c HC.out.1 _ PP.out hs0).mono ?_
      rintro e w5 ⟨rfl, y⟩
      have BB' := Go.Lib.hid (BB.out.wrote y.x hb hkb)
      have PP' := Go.Lib.hid y.p
      have hs1 : w2.heap.size ≤ w5.heap.size := Nat.le_trans hs0 y.x.size
      have XX := Go.Lib.hid (X3.out.step y.x (fun i hi s => by rcases s with s | s <;> omega))
      clear y q0 q1 q2 q3 q4 q5 BB PP hs0 X3
      have BB := BB'; have PP := PP'; have hs0 := hs1; have X3 := XX
      clear BB' PP' hs1 XX
      obtain ⟨q0, q1, q2, q3, q4, q5⟩ := BB.out.six
      go_wp2_with fail
      refine (refw_Num4 w2.heap.size b _ s HC.out.2.1 _ PP.out hs0).mono ?_
      rintro e w6 ⟨rfl, y⟩
      have BB' := Go.Lib.hid (BB.out.wrote y.x hb hkb)
      have PP' := Go.Lib.hid y.p
      have hs1 : w2.heap.size ≤ w6.heap.size := Nat.le_trans hs0 y.x.size
      have XX := Go.Lib.hid (X3.out.step y.x (fun i hi s => by rcases s with s | s <;> omega))
      clear y q0 q1 q2 q3 q4 q5 BB PP hs0 X3
      have BB := BB'; have PP := PP'; have hs0 := hs1; have X3 := XX
      clear BB' PP' hs1 XX
      obtain ⟨q0, q1, q2, q3, q4, q5⟩ := BB.out.six
      go_wp2_with fail
      refine (refw_Num1 w2.heap.size b _ k HC.out.2.2.1 _ PP.out hs0).mono ?_
      rintro e w7 ⟨rfl, y⟩
      have BB' := Go.Lib.hid (BB.out.wrote y.x hb hkb)
      have PP' := Go.Lib.hid y.p
      have hs1 : w2.heap.size ≤ w7.heap.size := Nat.le_trans hs0 y.x.size
      have XX := Go.Lib.hid (X3.out.step y.x (fun i hi s => by rcases s with s | s <;> omega))
      clear y q0 q1 q2 q3 q4 q5 BB PP hs0 X3
      have BB := BB'; have PP := PP'; have hs0 := hs1; have X3 := XX
      clear BB' PP' hs1 XX
      obtain ⟨q0, q1, q2, q3, q4, q5⟩ := BB.out.six
      go_wp2_with fail
      refine (refw_Text w2.heap.size b _ key HC.out.2.2.2.2.2 _ PP.out hs0).mono ?_
      rintro e w8 ⟨rfl, y⟩
      have BB' := Go.Lib.hid (BB.out.wrote y.x hb hkb)
      have PP' := Go.Lib.hid y.p
      have hs1 : w2.heap.size ≤ w8.heap.size := Nat.le_trans hs0 y.x.size
      have XX := Go.Lib.hid (X3.out.step y.x (fun i hi s => by rcases s with s | s <;> omega))
      clear y q0 q1 q2 q3 q4 q5 BB PP hs0 X3
      have BB := BB'; have PP := PP'; have hs0 := hs1; have X3 := XX
      clear BB' PP' hs1 XX
      obtain ⟨q0, q1, q2, q3, q4, q5⟩ := BB.out.six
      go_wp2_with fail
      refine (ref_Bits _ _).mono ?_
      rintro e w9x ⟨rfl, rfl⟩
      go_wp2_with fail
      refine (refw_Bits w2.heap.size b _ (canonN x) (canon_lt HC.out.2.2.2.2.1) _ PP.out hs0).mono ?_
      rintro e w9 ⟨rfl, y⟩
      have BB' := Go.Lib.hid (BB.out.wrote y.x hb hkb)
      have PP' := Go.Lib.hid y.p
      have hs1 : w2.heap.size ≤ w9.heap.size := Nat.le_trans hs0 y.x.size
      have XX := Go.Lib.hid (X3.out.step y.x (fun i hi s => by rcases s with s | s <;> omega))
      clear y q0 q1 q2 q3 q4 q5 BB PP hs0 X3
      have BB := BB'; have PP := PP'; have hs0 := hs1; have X3 := XX
      clear BB' PP' hs1 XX
      obtain ⟨q0, q1, q2, q3, q4, q5⟩ := BB.out.six
      go_wp2_with fail
      refine (refw_Num1 w2.heap.size b _ id HC.out.2.2.2.1 _ PP.out hs0).mono ?_
      rintro e w10 ⟨rfl, y⟩
      have BB' := Go.Lib.hid (BB.out.wrote y.x hb hkb)
      have PP' := Go.Lib.hid y.p
      have hs1 : w2.heap.size ≤ w10.heap.size := Nat.le_trans hs0 y.x.size
      have XX := Go.Lib.hid (X3.out.step y.x (fun i hi s => by rcases s with s | s <;> omega))
      clear y q0 q1 q2 q3 q4 q5 BB PP hs0 X3
      have BB := BB'; have PP := PP'; have hs0 := hs1; have X3 := XX
      clear BB' PP' hs1 XX
      go_wp2_with fail
      refine (refw_Done _ _ _ _ PP.out).mono ?_
      rintro e wz ⟨rfl, yz⟩
      go_wp2
      go_returns
      refine ⟨?_, X3.out.trans yz⟩
      rw [← HE.out.1, ← HE.out.2]
      rfl
  · have HE := Go.Lib.hid (show reqS ⟨c, s, ⟨k, key, x, id⟩⟩ = ⟨#[0]⟩ ∧ reqE ⟨c, s, ⟨k, key, x, id⟩⟩ = 0 by unfold reqS reqL reqE; rw [hn]; exact ⟨rfl, rfl⟩)
    clear hn
    go_wp2
    go_returns
    exact ⟨by rw [HE.out.1, HE.out.2]; rfl, X1.out⟩
end Go.Proofs.Ytakbkpklfihfiaa

/- Worlds that grew behind a writer: 'y : EW (WB n0 b w) w'. A block that the writer does not write is told by NW; simp reads its cells through any number of such worlds. -/
namespace Go.Proofs.Ytakbkpklfihfiaa
open Go.RowKit
set_option linter.unusedVariables false

/-- Block k is there, and not the writer's. -/
def NW (n0 b : Nat) (w : World) (k : Nat) : Prop := k < w.heap.size ∧ ¬ WB n0 b w k
theorem NW.old {n0 b : Nat} {w : World} {k : Nat} (hk : k < n0) (hb : n0 ≤ b) (hw : n0 ≤ w.heap.size) : NW n0 b w k :=
  ⟨by omega, fun h => by rcases h with h | h; omega; have := h.1; omega⟩
theorem NW.box {n0 b : Nat} {w : World} {k : Nat} {c : Array Value} {t : TypeId} {fr : Nat × Nat} (h : w.heap[k]? = some (.cells c t fr)) (hk : k ≠ b) (ht : t ≠ 5) : NW n0 b w k :=
  ⟨(Array.getElem?_eq_some_iff.1 h).1, WB.other h hk ht⟩
theorem NW.new {n0 b : Nat} {w : World} {k : Nat} (c : Array Value) (t : TypeId) (hk : k = w.heap.size) (hb : b < w.heap.size) (ht : t ≠ 5) : NW n0 b (w.alloc (.cells c t)) k := by
  subst hk
  exact NW.box (heap_alloc_new _ _) (by omega) ht
theorem NW.ext {S : Nat → Prop} {n0 b : Nat} {w w' : World} {k : Nat} (h : NW n0 b w k) (x : Ext S w w') (hs : ¬ S k) : NW n0 b w' k :=
  ⟨Nat.lt_of_lt_of_le h.1 x.size, fun hb => h.2 (by
    rcases hb with e | ⟨h1, cs, fr, h2⟩
    · exact .inl e
    · exact .inr ⟨h1, cs, fr, (x.block k h.1 hs).symm.trans h2⟩)⟩
/-- What is NW in the later world alone. -/
def restN (n0 b : Nat) (w w' : World) (k : Nat) : Prop := NW n0 b w' k ∧ ¬ NW n0 b w k
theorem NW.or {S : Nat → Prop} {n0 b : Nat} {w w' : World} (x : Ext S w w') (k : Nat) (hs : NW n0 b w k → ¬ S k) : NW n0 b w' k = (NW n0 b w k ∨ restN n0 b w w' k) := by
  apply propext
  constructor
  · intro h
    by_cases g : NW n0 b w k
    · exact .inl g
    · exact .inr ⟨h, g⟩
  · rintro (h | h)
    · exact h.ext x (hs h)
    · exact h.1
theorem NW.alloc {n0 b : Nat} {w : World} (o : Obj) (k : Nat) : NW n0 b (w.alloc o) k = (NW n0 b w k ∨ restN n0 b w (w.alloc o) k) := NW.or ((Ext.refl Non w).alloc o) k (fun _ f => f)
open Classical in
/-- A cell that the writer may have written. -/
noncomputable def restW (n0 b : Nat) (w w' : World) (p : Addr) : Option Value := w'.cell? p
theorem Ext.upW {n0 b : Nat} {a w : World} {x : EW (WB n0 b w) w} (h : Ext (WB n0 b a) a w) : Ext (WB n0 b a) a x.on := h.wtrans x.ext
/-- A writer's world, seen from ahead of the writer. -/
structure Ahead (n0 b : Nat) (a : World) : Prop where
  n : a.heap.size ≤ n0
  b : n0 ≤ b
theorem Ext.upA {n0 b : Nat} {a w : World} {x : EW (WB n0 b w) w} (hb : Ahead n0 b a) (h : Ext Non a w) : Ext Non a x.on :=
  h.step x.ext fun i hi s => by
    have := hb.n; have := hb.b
    rcases s with s | s
    · omega
    · have := s.1; omega
end Go.Proofs.Ytakbkpklfihfiaa
