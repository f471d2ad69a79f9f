/- Joined texts: RefW, RefW2. What each proves stands at its head; no conditions beside those in its theorems. -/
import Derived.Test.YtflpkoafebjfdaaGreatPjAL
/- Contracts of the reference of layer 1: the writer. -/
namespace Go.Proofs.YtflpkoafebjfdaaGreat
open Go.RowKit Go.Lib
set_option linter.unusedSimpArgs false
set_option linter.unusedVariables false

/-- Block b is the reference's writer. -/
structure RW (w : World) (n0 b : Nat) (W : Wr) : Prop where
  ex : ∃ v, w.heap[b]? = some (.cells [v, .int .i64 (W.bs.length + W.room), .int .i64 W.err].toArray 231 (0, 0)) ∧ w.ownsRow n0 5 1 v W.bs.length (bcells W.bs)
  nb : n0 ≤ b
  ok : WOk W
theorem RW.lt {w : World} {n0 b : Nat} {W : Wr} (h : RW w n0 b W) : b < w.heap.size := by
  obtain ⟨_, h, _⟩ := h.ex
  exact (Array.getElem?_eq_some_iff.1 h).1
theorem RW.noU8 {w : World} {n0 b : Nat} {W : Wr} (h : RW w n0 b W) : ¬ isU8 w b := by
  rintro ⟨cs, fr, e⟩
  obtain ⟨_, h, _⟩ := h.ex
  rw [h] at e; injection e with e; injection e with _ e _; revert e; decide
theorem RW.base {w : World} {n0 b : Nat} {W : Wr} (h : RW w n0 b W) : ∀ k, WB n0 b w k → n0 ≤ k := by
  rintro k (rfl | e)
  · exact h.nb
  · exact e.1
theorem RW.ext {S : Nat → Prop} {w w' : World} {n0 b : Nat} {W : Wr} (h : RW w n0 b W) (x : Ext S w w') (hs : ∀ k, WB n0 b w k → ¬ S k) : RW w' n0 b W := by
  obtain ⟨v, r, o⟩ := h.ex
  exact ⟨⟨v, (x.block b h.lt (hs b (.inl rfl))).trans r, own_keep o x fun k e => hs k (.inr (own_isU8 o k e))⟩, h.nb, h.ok⟩
theorem RW.extN {w w' : World} {n0 b : Nat} {W : Wr} (h : RW w n0 b W) (x : Ext Non w w') : RW w' n0 b W := h.ext x fun _ _ f => f
structure RWrote (w w' : World) (n0 b : Nat) (W' : Wr) : Prop where
  p : RW w' n0 b W'
  x : Ext (WB n0 b w) w w'
theorem RWrote.same {w : World} {n0 b : Nat} {W : Wr} (h : RW w n0 b W) : RWrote w w n0 b W := ⟨h, Ext.refl _ _⟩
theorem RWrote.extN {w w' : World} {n0 b : Nat} {W : Wr} (h : RW w n0 b W) (x : Ext Non w w') : RWrote w w' n0 b W := ⟨h.extN x, x.ofNon⟩
theorem RWrote.trans {w w' w'' : World} {n0 b : Nat} {W' W'' : Wr} (h : RWrote w w' n0 b W') (k : RWrote w' w'' n0 b W'') : RWrote w w'' n0 b W'' := ⟨k.p, h.x.wtrans k.x⟩

theorem refw_New (n : Int) (hn : n ≤ 1048576) (n0 : Nat) (w : World) (h0 : n0 ≤ w.heap.size) : Calls Tryz.prog 79 #[.int .i64 n] w fun e w' => ∃ b, e = .returned (.pointer (some ⟨b, 0, none⟩)) ∧ Ext Non w w' ∧ RW w' n0 b (newW n) ∧ w.heap.size ≤ b := by
  have fin : ∀ k : Int, newW n = ⟨[], k, 0⟩ → RW (w.alloc (.cells #[.slice none 0 0, .int .i64 k, .int .i64 0] 231)) n0 w.heap.size (newW n) := by
    intro k e
    refine ⟨⟨.slice none 0 0, ?_, ?_⟩, h0, WOk.new hn⟩
    · rw [e, show ((((⟨[], k, 0⟩ : Wr).bs.length : Nat) : Int) + (⟨[], k, 0⟩ : Wr).room) = k from Int.zero_add _]; exact heap_alloc_new _ _
    · rw [e]; exact ⟨rfl, .inl ⟨rfl, rfl⟩⟩
  have FN := Go.Lib.hid fin; clear fin
  rcases Int.lt_trichotomy n 0 with hp | rfl | hp
  · have HW := Go.Lib.hid (show newW n = ⟨[], 0, 0⟩ by unfold newW; rw [if_neg (by omega)])
    go_enter Tryz.func79, Tryz.ntmps79
    go_wp2
    go_returns
    exact ⟨w.heap.size, rfl, (Ext.refl _ _).alloc _, FN.out 0 HW.out, Nat.le_refl _⟩
  · have HW := Go.Lib.hid (show newW 0 = ⟨[], 0, 0⟩ from rfl)
    go_enter Tryz.func79, Tryz.ntmps79
    go_wp2
    go_returns
    exact ⟨w.heap.size, rfl, (Ext.refl _ _).alloc _, FN.out 0 HW.out, Nat.le_refl _⟩
  · have HW := Go.Lib.hid (show newW n = ⟨[], n, 0⟩ by unfold newW; rw [if_pos hp])
    have hle : 0 ≤ n := by omega
    go_enter Tryz.func79, Tryz.ntmps79
    go_wp2
    go_returns
    exact ⟨w.heap.size, rfl, (Ext.refl _ _).alloc _, FN.out n HW.out, Nat.le_refl _⟩
/-- A new row of bytes, handed back. -/
def NewRow (w w' : World) (v : Value) (l : List UInt8) : Prop := w'.ownsRow w.heap.size 5 1 v l.length (bcells l) ∧ Ext Non w w'
theorem newRow_of {w : World} {l : List UInt8} {cs : List Value} (he : cs = bcells l) (hm : l.length ≤ maxLen) : NewRow w (w.alloc (.cells cs.toArray 5)) (.slice (some ⟨w.heap.size, 0, none⟩) l.length l.length) l :=
  ⟨⟨by rw [bcells_length]; omega, .inr ⟨_, _, _, rfl, Nat.le_refl _, heap_alloc_new _ _, Nat.le_refl _, hm, by rw [he]; simp [bcells_length], by rw [he]; simp [bcells_length, List.take_of_length_le]⟩⟩, (Ext.refl _ _).alloc _⟩
theorem mk_u8 (k : Nat) (hk : k ≤ 64) (cs : List Value) (hcs : madeCells #[.int .u8 0] k = cs.toArray) (w : World) : (Instr.makeSlice 229 (.int .i64 k) (.int .i64 k)).run Tryz.prog w = .ok (.slice (some ⟨w.heap.size, 0, none⟩) k k) (w.alloc (.cells cs.toArray 5)) := by
  obtain ⟨i0, hi, hz0, hz1, hz2⟩ := info_parts info_u8
  have h := run_makeSlice (P := Tryz.prog) (w := w) 229 5 i0 (.int .u8 0) Tryz.underlying229 hi hz0 .i64 .i64 k k (by omega) (Int.le_refl _) (by rw [hz1]; simp; omega) (by rw [hz2]; omega) (by omega)
  rw [Int.toNat_natCast, hz1, Nat.mul_one] at h
  rw [h, ← hcs]
  rfl
set_option maxHeartbeats 2000000 in
set_option maxRecDepth 100000 in
theorem refw_big1 (n : Int) (h0 : 0 ≤ n) (h1 : n ≤ 18446744073709551615) (w : World) : Calls Tryz.prog 157 #[.int .u64 n, .int .i64 1] w fun e w' => ∃ v, e = .returned v ∧ NewRow w w' v (big1 n) := by
  have mk : ∀ w : World, (Instr.makeSlice 229 (.int .i64 1) (.int .i64 1)).run Tryz.prog w = .ok (.slice (some ⟨w.heap.size, 0, none⟩) 1 1) (w.alloc (.cells #[.int .u8 0] 5)) := mk_u8 1 (by decide) [.int .u8 0] (by kernel_rfl)
  go_enter Tryz.func157, Tryz.ntmps157
  go_wp2_with fail
  refine wp_loop_rounds 2 ?_
  repeat any_goals (rw [rounds_succ]; go_wp2_with fail)
  go_returns
  exact ⟨_, rfl, newRow_of (by simp [bcells, big1, big4, lowB_toNat]; try omega) (by simp [big1, big4, maxLen])⟩
set_option maxHeartbeats 2000000 in
set_option maxRecDepth 100000 in
theorem refw_big2 (n : Int) (h0 : 0 ≤ n) (h1 : n ≤ 18446744073709551615) (w : World) : Calls Tryz.prog 157 #[.int .u64 n, .int .i64 2] w fun e w' => ∃ v, e = .returned v ∧ NewRow w w' v (big2 n) := by
  have mk : ∀ w : World, (Instr.makeSlice 229 (.int .i64 2) (.int .i64 2)).run Tryz.prog w = .ok (.slice (some ⟨w.heap.size, 0, none⟩) 2 2) (w.alloc (.cells #[.int .u8 0, .int .u8 0] 5)) := mk_u8 2 (by decide) [.int .u8 0, .int .u8 0] (by kernel_rfl)
  go_enter Tryz.func157, Tryz.ntmps157
  go_wp2_with fail
  refine wp_loop_rounds 3 ?_
  repeat any_goals (rw [rounds_succ]; go_wp2_with fail)
  go_returns
  exact ⟨_, rfl, newRow_of (by simp [bcells, big2, big4, lowB_toNat]; try omega) (by simp [big2, big4, maxLen])⟩
set_option maxHeartbeats 2000000 in
set_option maxRecDepth 100000 in
theorem refw_big4 (n : Int) (h0 : 0 ≤ n) (h1 : n ≤ 18446744073709551615) (w : World) : Calls Tryz.prog 157 #[.int .u64 n, .int .i64 4] w fun e w' => ∃ v, e = .returned v ∧ NewRow w w' v (big4 n) := by
  have mk : ∀ w : World, (Instr.makeSlice 229 (.int .i64 4) (.int .i64 4)).run Tryz.prog w = .ok (.slice (some ⟨w.heap.size, 0, none⟩) 4 4) (w.alloc (.cells #[.int .u8 0, .int .u8 0, .int .u8 0, .int .u8 0] 5)) := mk_u8 4 (by decide) [.int .u8 0, .int .u8 0, .int .u8 0, .int .u8 0] (by kernel_rfl)
  go_enter Tryz.func157, Tryz.ntmps157
  go_wp2_with fail
  refine wp_loop_rounds 5 ?_
  repeat any_goals (rw [rounds_succ]; go_wp2_with fail)
  go_returns
  exact ⟨_, rfl, newRow_of (by simp [bcells, big4, big4, lowB_toNat]; try omega) (by simp [big4, big4, maxLen])⟩
set_option maxHeartbeats 2000000 in
set_option maxRecDepth 100000 in
theorem refw_big8 (n : Int) (h0 : 0 ≤ n) (h1 : n ≤ 18446744073709551615) (w : World) : Calls Tryz.prog 157 #[.int .u64 n, .int .i64 8] w fun e w' => ∃ v, e = .returned v ∧ NewRow w w' v (big8 n) := by
  have mk : ∀ w : World, (Instr.makeSlice 229 (.int .i64 8) (.int .i64 8)).run Tryz.prog w = .ok (.slice (some ⟨w.heap.size, 0, none⟩) 8 8) (w.alloc (.cells #[.int .u8 0, .int .u8 0, .int .u8 0, .int .u8 0, .int .u8 0, .int .u8 0, .int .u8 0, .int .u8 0] 5)) := mk_u8 8 (by decide) [.int .u8 0, .int .u8 0, .int .u8 0, .int .u8 0, .int .u8 0, .int .u8 0, .int .u8 0, .int .u8 0] (by kernel_rfl)
  go_enter Tryz.func157, Tryz.ntmps157
  go_wp2_with fail
  refine wp_loop_rounds 9 ?_
  repeat any_goals (rw [rounds_succ]; go_wp2_with fail)
  go_returns
  exact ⟨_, rfl, newRow_of (by simp [bcells, big8, big4, lowB_toNat]; try omega) (by simp [big8, big4, maxLen])⟩
set_option maxHeartbeats 2000000 in
set_option maxRecDepth 100000 in
theorem refw_put_no (n0 b : Nat) (W : Wr) (w : World) (h : RW w n0 b W) : Calls Tryz.prog 156 #[.pointer (some ⟨b, 0, none⟩), .slice none 0 0, .bool false] w fun e w' => e = .returned (.tuple #[]) ∧ RWrote w w' n0 b (putW W false []) := by
  have H := Go.Lib.hid h
  obtain ⟨v, r, o⟩ := h.ex
  have q2 : w.cell? ⟨b, 2, none⟩ = some (.int .i64 W.err) := cell_of_heap r rfl
  have z2 : w.frozen? ⟨b, 2, none⟩ = false := froz_of_heap r
  have R := Go.Lib.hid r; have O := Go.Lib.hid o
  clear h r o
  by_cases he : W.err = 0
  · rw [he] at q2
    have HP := Go.Lib.hid (putW_no he [])
    clear he
    go_enter Tryz.func156, Tryz.ntmps156
    go_wp2
    go_returns
    have r := heap_set_same (k := 2) R.out (.int .i64 4)
    have x : Ext (One b) w (w.setCell ⟨b, 2, none⟩ (.int .i64 4)) := (Ext.refl _ _).set1 _
    rw [HP.out]
    refine ⟨rfl, ⟨⟨v, r, own_keep O.out x ?_⟩, H.out.nb, H.out.ok.fail 4⟩, x.mono (fun k _ s => .inl s)⟩
    intro k e s
    have s : k = b := s
    subst s
    exact H.out.noU8 (own_isU8 O.out k e).2
  · have HP := Go.Lib.hid (putW_err he false [])
    have hb : (W.err != 0) = true := by rw [bne_iff_ne]; exact he
    clear he
    go_enter Tryz.func156, Tryz.ntmps156
    go_wp2
    go_returns
    exact ⟨rfl, by rw [HP.out]; exact RWrote.same H.out⟩
set_option maxHeartbeats 2000000 in
set_option maxRecDepth 100000 in
theorem refw_put (n0 b : Nat) (W : Wr) (ad : Addr) (cap : Nat) (l : List UInt8) (hl : l.length ≤ 1048576) (w : World) (h : RW w n0 b W) (h0 : n0 ≤ w.heap.size)
    (hc : ∀ j u, (bcells l)[j]? = some u → w.cell? (ad.add j) = some u) : Calls Tryz.prog 156 #[.pointer (some ⟨b, 0, none⟩), .slice (some ad) l.length cap, .bool true] w fun e w' => e = .returned (.tuple #[]) ∧ RWrote w w' n0 b (putW W true l) := by
  have H := Go.Lib.hid h
  obtain ⟨v, r, o⟩ := h.ex
  obtain ⟨oa, oc, hv⟩ := own_slice o
  subst hv
  have q0 : w.cell? ⟨b, 0, none⟩ = some (.slice oa W.bs.length oc) := cell_of_heap r rfl
  have q1 : w.cell? ⟨b, 1, none⟩ = some (.int .i64 (W.bs.length + W.room)) := cell_of_heap r rfl
  have q2 : w.cell? ⟨b, 2, none⟩ = some (.int .i64 W.err) := cell_of_heap r rfl
  have z2 : w.frozen? ⟨b, 2, none⟩ = false := froz_of_heap r
  have HC := Go.Lib.hid hc
  have hro := h.ok.room
  have hli := h.ok.lim
  have R := Go.Lib.hid r; have O := Go.Lib.hid o
  clear h hc r o
  by_cases he : W.err = 0
  · rw [he] at q2
    have HE := Go.Lib.hid he
    have HPo := putW_ok he l
    clear he
    have hw : IntKind.i64.wrap (((W.bs.length : Int) + W.room) - (W.bs.length : Int)) = W.room := by rw [show ((W.bs.length : Int) + W.room) - (W.bs.length : Int) = W.room by omega]; exact IntWalk.i64_in _ (by omega)
    by_cases hr : W.room < l.length
    · have HA := Go.Lib.hid (show putW W true l = failW W 3 by rw [HPo]; unfold addW; rw [if_pos hr])
      clear HPo
      go_enter Tryz.func156, Tryz.ntmps156
      go_wp2_with fail
      go_quiet (fail)
      have R1 : (w.drewN nq).heap[b]? = some _ := R.out
      have q2' : (w.drewN nq).cell? ⟨b, 2, none⟩ = some (.int .i64 0) := q2
      have z2' : (w.drewN nq).frozen? ⟨b, 2, none⟩ = false := z2
      have RR := Go.Lib.hid R1; clear R1
      go_wp2
      go_returns
      have r := heap_set_same (k := 2) RR.out (.int .i64 3)
      have x : Ext (One b) w ((w.drewN nq).setCell ⟨b, 2, none⟩ (.int .i64 3)) := ((Ext.refl _ _).drewN nq).set1 _
      rw [HA.out]
      refine ⟨rfl, ⟨⟨_, r, own_keep O.out x ?_⟩, H.out.nb, H.out.ok.fail 3⟩, x.mono (fun k _ s => .inl s)⟩
      intro k e s
      have s : k = b := s
      subst s
      exact H.out.noU8 (own_isU8 O.out k e).2
    · have HA := Go.Lib.hid (show putW W true l = ⟨W.bs ++ l, W.room - l.length, W.err⟩ by rw [HPo]; unfold addW; rw [if_neg hr])
      have HK := Go.Lib.hid (show WOk (putW W true l) by rw [HPo]; exact H.out.ok.add l)
      clear HPo
      have hbl := H.out.lt
      have HL := Go.Lib.hid (show W.bs.length + l.length ≤ 1048576 by omega)
      obtain ⟨i0, hi, hz0, hz1, hz2⟩ := info_parts info_u8
      go_enter Tryz.func156, Tryz.ntmps156
      go_wp2_with fail
      go_quiet (fail)
      have O1 := Go.Lib.hid (own_keep (w' := w.drewN nq) O.out ((Ext.refl Non _).drewN nq) (fun _ _ f => f))
      have q0' : (w.drewN nq).cell? ⟨b, 0, none⟩ = some (.slice oa W.bs.length oc) := q0
      have h0' : n0 ≤ (w.drewN nq).heap.size := h0
      go_wp2_with (at_builtin; refine wpList_append_own _ rfl _ _ 229 rfl n0 5 i0 (.int .u8 0) 1 1 Tryz.underlying229 hi hz0 hz1 hz2 rfl (by decide) _ _ _ rfl O1.out ad l.length cap (bcells l) rfl ?qc1 ?qc2 ?qc3 ?qc4 ?qc5 h0' ?_)
      case qc1 => simp [bcells_length]
      case qc2 => exact HC.out
      case qc3 => exact bcells_one l
      case qc4 => have := HL.out; unfold maxLen; omega
      case qc5 => have := HL.out; omega
      intro v' w1 hown hgrow hnil
      have hown : w1.ownsRow n0 5 1 v' (W.bs ++ l).length (bcells (W.bs ++ l)) := by rw [bcells_append, List.length_append]; exact hown
      obtain ⟨nn, hnn⟩ : ∃ nn, nn = (W.bs ++ l).length := ⟨_, rfl⟩
      rw [← hnn] at hown
      obtain ⟨va, vc, hv'⟩ := own_slice hown
      have HNN := Go.Lib.hid hnn; clear hnn
      subst hv'
      have x1 : Ext (fun k => (Value.slice oa W.bs.length oc).ownBlock = some k) w w1 := ((Ext.refl _ w).drewN nq).trans (Ext.ofGrown hgrow (fun k hk => .inl hk))
      have nb : (Value.slice oa W.bs.length oc).ownBlock ≠ some b := fun e => H.out.noU8 (own_isU8 O.out b e).2
      have R1 := Go.Lib.hid ((x1.block b hbl (fun e => nb e)).trans R.out)
      have z0 : w1.cell? ⟨b, 0, none⟩ = some (.slice oa W.bs.length oc) := cell_of_heap R1.out rfl
      have z1 : w1.frozen? ⟨b, 0, none⟩ = false := froz_of_heap R1.out
      have OW := Go.Lib.hid hown; have X1 := Go.Lib.hid x1
      clear hown hgrow hnil x1 q0'
      go_wp2
      go_returns
      have R3 := heap_set_same (k := 0) R1.out (.slice va nn vc)
      have x3 : Ext (One b) w1 (w1.setCell ⟨b, 0, none⟩ (.slice va nn vc)) := (Ext.refl _ _).set1 _
      refine ⟨rfl, ⟨⟨.slice va nn vc, ?_, ?_⟩, H.out.nb, HK.out⟩, ?_⟩
      · rw [HA.out]
        have e : (((W.bs ++ l).length : Nat) : Int) + (W.room - l.length) = W.bs.length + W.room := by rw [List.length_append]; omega
        show _ = some (Obj.cells [Value.slice va nn vc, Value.int .i64 ((((W.bs ++ l).length : Nat) : Int) + (W.room - l.length)), Value.int .i64 W.err].toArray _ _)
        rw [e, HE.out]
        rw [HE.out] at R3
        exact R3
      · rw [HA.out]
        show World.ownsRow _ _ _ _ _ (W.bs ++ l).length _
        rw [← HNN.out]
        refine own_keep OW.out x3 (fun k e s => ?_)
        have s : k = b := s
        subst s
        obtain ⟨_, cs, fr, e2⟩ := own_isU8 OW.out k e
        rw [R1.out] at e2; injection e2 with e2; injection e2 with _ e2 _; revert e2; decide
      · exact (X1.out.mono fun k hk s => .inr (own_isU8 O.out k s)).step x3 (fun i hi s => .inl s)
  · have HP := Go.Lib.hid (putW_err he true l)
    have hb : (W.err != 0) = true := by rw [bne_iff_ne]; exact he
    clear he
    go_enter Tryz.func156, Tryz.ntmps156
    go_wp2
    go_returns
    exact ⟨rfl, by rw [HP.out]; exact RWrote.same H.out⟩
theorem putW_false (W : Wr) (c : List UInt8) : putW W false c = putW W false [] := by unfold putW; rfl
theorem new_slice {w : World} {n0 : Nat} {v : Value} {n : Nat} {xs : List Value} (h : w.ownsRow n0 5 1 v n xs) (hn : 0 < n) : ∃ ad c, v = .slice (some ad) n c := by
  rcases h.2 with ⟨_, h0⟩ | ⟨g, cap, cur, rfl, _⟩
  · omega
  · exact ⟨_, _, rfl⟩
theorem new_cells {w : World} {n0 : Nat} {ad : Addr} {n c : Nat} {xs : List Value} (h : w.ownsRow n0 5 1 (.slice (some ad) n c) n xs) : ∀ j u, xs[j]? = some u → w.cell? (ad.add j) = some u := by
  have h' := h
  rcases h.2 with ⟨e, _⟩ | ⟨g, cap, cur, e, _⟩
  · cases e
  · have e1 : ad = ⟨g, 0, none⟩ := by injection e with e _ _; injection e
    subst e1
    exact h'.cells (g := g) rfl
set_option maxHeartbeats 2000000 in
set_option maxRecDepth 100000 in
theorem refw_Num1 (n0 b : Nat) (W : Wr) (n : Int) (hn : I64 n) (w : World) (h : RW w n0 b W) (h0 : n0 ≤ w.heap.size) : Calls Tryz.prog 80 #[.pointer (some ⟨b, 0, none⟩), .int .i64 n, .int .i64 1] w fun e w' => e = .returned (.tuple #[]) ∧ RWrote w w' n0 b (byteW W n) := by
  have H := Go.Lib.hid h
  clear h
  unfold byteW
  by_cases hg : 0 ≤ n ∧ n ≤ 255
  · obtain ⟨h1, h2⟩ := hg
    have HP := Go.Lib.hid (show okN n 255 = true by unfold okN; simp [h1, h2])
    have h3 : n < 256 := by omega
    have hu : IntKind.u64.wrap n = n := by rw [IntKind.wrap_u64]; omega
    have HR := Go.Lib.hid (And.intro h1 h2)
    go_enter Tryz.func80, Tryz.ntmps80
    go_wp2_with fail
    refine wp_loop_rounds 2 ?_
    repeat any_goals (rw [rounds_succ]; go_wp2_with fail)
    refine (refw_big1 n HR.out.1 (by have := HR.out.2; omega) _).mono ?_
    rintro e w1 ⟨v, rfl, o1, x1⟩
    obtain ⟨ad, cap, hv⟩ := new_slice o1 (by simp [big1, big4])
    subst hv
    have X1 := Go.Lib.hid x1; have O1 := Go.Lib.hid o1
    clear x1 o1
    go_wp2_with fail
    refine (refw_put n0 b W ad cap (big1 n) (by simp [big1, big4]) _ (H.out.extN X1.out) (Nat.le_trans h0 X1.out.size) (new_cells O1.out)).mono ?_
    rintro e w2 ⟨rfl, x2⟩
    go_wp2
    go_returns
    exact ⟨rfl, by rw [HP.out]; exact (RWrote.extN H.out X1.out).trans x2⟩
  · have HP := Go.Lib.hid (show okN n 255 = false by unfold okN; rw [Bool.eq_false_iff]; intro hh; simp only [Bool.and_eq_true, decide_eq_true_eq] at hh; exact hg hh)
    have HQ := Go.Lib.hid (putW_false W (big1 n))
    by_cases h1 : 0 ≤ n
    · have h3 : 256 ≤ n := by omega
      clear hg
      go_enter Tryz.func80, Tryz.ntmps80
      go_wp2_with fail
      refine wp_loop_rounds 2 ?_
      repeat any_goals (rw [rounds_succ]; go_wp2_with fail)
      refine (refw_put_no n0 b W _ H.out).mono ?_
      rintro e w2 ⟨rfl, x2⟩
      go_wp2
      go_returns
      exact ⟨rfl, by rw [HP.out, HQ.out]; exact x2⟩
    · clear hg
      go_enter Tryz.func80, Tryz.ntmps80
      go_wp2_with fail
      refine wp_loop_rounds 2 ?_
      repeat any_goals (rw [rounds_succ]; go_wp2_with fail)
      refine (refw_put_no n0 b W _ H.out).mono ?_
      rintro e w2 ⟨rfl, x2⟩
      go_wp2
      go_returns
      exact ⟨rfl, by rw [HP.out, HQ.out]; exact x2⟩
set_option maxHeartbeats 2000000 in
set_option maxRecDepth 100000 in
theorem refw_Num4 (n0 b : Nat) (W : Wr) (n : Int) (hn : I64 n) (w : World) (h : RW w n0 b W) (h0 : n0 ≤ w.heap.size) : Calls Tryz.prog 80 #[.pointer (some ⟨b, 0, none⟩), .int .i64 n, .int .i64 4] w fun e w' => e = .returned (.tuple #[]) ∧ RWrote w w' n0 b (longW W n) := by
  have H := Go.Lib.hid h
  clear h
  unfold longW
  by_cases hg : 0 ≤ n ∧ n ≤ 4294967295
  · obtain ⟨h1, h2⟩ := hg
    have HP := Go.Lib.hid (show okN n 4294967295 = true by unfold okN; simp [h1, h2])
    have h3 : n < 4294967296 := by omega
    have hu : IntKind.u64.wrap n = n := by rw [IntKind.wrap_u64]; omega
    have HR := Go.Lib.hid (And.intro h1 h2)
    go_enter Tryz.func80, Tryz.ntmps80
    go_wp2_with fail
    refine wp_loop_rounds 5 ?_
    repeat any_goals (rw [rounds_succ]; go_wp2_with fail)
    refine (refw_big4 n HR.out.1 (by have := HR.out.2; omega) _).mono ?_
    rintro e w1 ⟨v, rfl, o1, x1⟩
    obtain ⟨ad, cap, hv⟩ := new_slice o1 (by simp [big4, big4])
    subst hv
    have X1 := Go.Lib.hid x1; have O1 := Go.Lib.hid o1
    clear x1 o1
    go_wp2_with fail
    refine (refw_put n0 b W ad cap (big4 n) (by simp [big4, big4]) _ (H.out.extN X1.out) (Nat.le_trans h0 X1.out.size) (new_cells O1.out)).mono ?_
    rintro e w2 ⟨rfl, x2⟩
    go_wp2
    go_returns
    exact ⟨rfl, by rw [HP.out]; exact (RWrote.extN H.out X1.out).trans x2⟩
  · have HP := Go.Lib.hid (show okN n 4294967295 = false by unfold okN; rw [Bool.eq_false_iff]; intro hh; simp only [Bool.and_eq_true, decide_eq_true_eq] at hh; exact hg hh)
    have HQ := Go.Lib.hid (putW_false W (big4 n))
    by_cases h1 : 0 ≤ n
    · have h3 : 4294967296 ≤ n := by omega
      clear hg
      go_enter Tryz.func80, Tryz.ntmps80
      go_wp2_with fail
      refine wp_loop_rounds 5 ?_
      repeat any_goals (rw [rounds_succ]; go_wp2_with fail)
      refine (refw_put_no n0 b W _ H.out).mono ?_
      rintro e w2 ⟨rfl, x2⟩
      go_wp2
      go_returns
      exact ⟨rfl, by rw [HP.out, HQ.out]; exact x2⟩
    · clear hg
      go_enter Tryz.func80, Tryz.ntmps80
      go_wp2_with fail
      refine wp_loop_rounds 5 ?_
      repeat any_goals (rw [rounds_succ]; go_wp2_with fail)
      refine (refw_put_no n0 b W _ H.out).mono ?_
      rintro e w2 ⟨rfl, x2⟩
      go_wp2
      go_returns
      exact ⟨rfl, by rw [HP.out, HQ.out]; exact x2⟩
end Go.Proofs.YtflpkoafebjfdaaGreat

/- Contracts of the reference of layer 1: the writer, continued. -/
namespace Go.Proofs.YtflpkoafebjfdaaGreat
open Go.RowKit Go.Lib
set_option linter.unusedSimpArgs false
set_option linter.unusedVariables false

theorem put_any (n0 b : Nat) (W : Wr) (v : Value) (l : List UInt8) (hl : l.length ≤ 1048576) (hp : 0 < l.length) (m0 : Nat) (w : World) (h : RW w n0 b W) (h0 : n0 ≤ w.heap.size) (ho : w.ownsRow m0 5 1 v l.length (bcells l)) :
    Calls Tryz.prog 156 #[.pointer (some ⟨b, 0, none⟩), v, .bool true] w fun e w' => e = .returned (.tuple #[]) ∧ RWrote w w' n0 b (putW W true l) := by
  obtain ⟨ad, c, rfl⟩ := new_slice ho hp
  exact refw_put n0 b W ad c l hl w h h0 (new_cells ho)
set_option maxHeartbeats 2000000 in
set_option maxRecDepth 100000 in
theorem refw_Bits (n0 b : Nat) (W : Wr) (n : Nat) (hn : n < 18446744073709551616) (w : World) (h : RW w n0 b W) (h0 : n0 ≤ w.heap.size) : Calls Tryz.prog 82 #[.pointer (some ⟨b, 0, none⟩), .int .u64 n] w fun e w' => e = .returned (.tuple #[]) ∧ RWrote w w' n0 b (bitsW W n) := by
  have H := Go.Lib.hid h
  clear h
  unfold bitsW
  go_enter Tryz.func82, Tryz.ntmps82
  go_wp2_with fail
  refine (refw_big8 (n : Int) (by omega) (by omega) _).mono ?_
  rintro e w1 ⟨v, rfl, o1, x1⟩
  obtain ⟨ad, cap, hv⟩ := new_slice o1 (by simp [big8, big4])
  subst hv
  have X1 := Go.Lib.hid x1; have O1 := Go.Lib.hid o1
  clear x1 o1
  go_wp2_with fail
  refine (refw_put n0 b W ad cap (big8 (n : Int)) (by simp [big8, big4]) _ (H.out.extN X1.out) (Nat.le_trans h0 X1.out.size) (new_cells O1.out)).mono ?_
  rintro e w2 ⟨rfl, x2⟩
  go_wp2
  go_returns
  exact ⟨rfl, (RWrote.extN H.out X1.out).trans x2⟩
set_option maxHeartbeats 2000000 in
set_option maxRecDepth 100000 in
theorem refw_Text (n0 b : Nat) (W : Wr) (s : ByteArray) (hsz : s.size ≤ 9223372036854775807) (w : World) (h : RW w n0 b W) (h0 : n0 ≤ w.heap.size) : Calls Tryz.prog 81 #[.pointer (some ⟨b, 0, none⟩), .string s] w fun e w' => e = .returned (.tuple #[]) ∧ RWrote w w' n0 b (textW W s.data.toList) := by
  have H := Go.Lib.hid h
  clear h
  have HLen := Go.Lib.hid (show s.data.toList.length = s.size from size_data s)
  unfold textW
  by_cases h2 : s.size ≤ 65535
  · have HD := Go.Lib.hid (show decide (s.data.toList.length ≤ 65535) = true by rw [HLen.out]; exact decide_eq_true h2)
    have h2i : ((s.size : Nat) : Int) ≤ 65535 := by omega
    have hu : IntKind.u64.wrap ((s.size : Nat) : Int) = s.size := by rw [IntKind.wrap_u64]; omega
    obtain ⟨i0, hi, hz0, hz1, hz2⟩ := info_parts info_u8
    go_enter Tryz.func81, Tryz.ntmps81
    go_wp2_with fail
    refine (refw_big2 ((s.size : Nat) : Int) (by omega) (by omega) _).mono ?_
    rintro e w1 ⟨v, rfl, o1, x1⟩
    have X1 := Go.Lib.hid x1; have O1 := Go.Lib.hid o1
    have hb2 : (big2 ((s.size : Nat) : Int)).length = 2 := rfl
    rw [hb2] at O1
    obtain ⟨ad, cap, hv⟩ := new_slice O1.out (by decide)
    subst hv
    clear x1 o1 hb2
    go_wp2_with (at_builtin; refine wpList_append_own_string _ rfl _ _ 229 9 rfl w.heap.size 5 i0 Tryz.underlying229 Tryz.underlying9 hi hz0 hz1 hz2 _ 2 _ rfl O1.out s rfl ?qc1 ?qc2 ?qc3 ?_)
    case qc1 => unfold maxLen; omega
    case qc2 => omega
    case qc3 => exact X1.out.size
    intro v' w2 hown hgrow hnil
    have HS := Go.Lib.hid (show (big2 (s.size : Int) ++ s.data.toList).length = 2 + s.size by rw [List.length_append, HLen.out]; rfl)
    have OW := Go.Lib.hid (show w2.ownsRow w.heap.size 5 1 v' (big2 (s.size : Int) ++ s.data.toList).length (bcells (big2 (s.size : Int) ++ s.data.toList)) by rw [HS.out, bcells_append]; exact hown)
    have lo : ∀ k, (Value.slice (some ad) 2 cap).ownBlock = some k → w.heap.size ≤ k := fun k e => (own_isU8 O1.out k e).1
    have x2 : Ext Non w w2 := X1.out.step (Ext.ofGrown (S := fun k => w.heap.size ≤ k) hgrow (fun k hk => .inl (lo k hk))) (fun i hi e => by omega)
    have X2 := Go.Lib.hid x2
    clear hown hgrow hnil x2 lo
    go_wp2_with fail
    refine (put_any n0 b W v' _ (by rw [HS.out]; omega) (by rw [HS.out]; omega) _ _ (H.out.extN X2.out) (Nat.le_trans h0 X2.out.size) OW.out).mono ?_
    rintro e w3 ⟨rfl, x3⟩
    go_wp2
    go_returns
    rw [HD.out, HLen.out]
    exact ⟨rfl, (RWrote.extN H.out X2.out).trans x3⟩
  · have HD := Go.Lib.hid (show decide (s.data.toList.length ≤ 65535) = false by rw [HLen.out]; exact decide_eq_false h2)
    have h2i : (65535 : Int) < ((s.size : Nat) : Int) := by omega
    have HQ := Go.Lib.hid (putW_false W (big2 ((s.data.toList.length : Nat) : Int) ++ s.data.toList))
    go_enter Tryz.func81, Tryz.ntmps81
    go_wp2_with fail
    refine (refw_put_no n0 b W _ H.out).mono ?_
    rintro e w2 ⟨rfl, x2⟩
    go_wp2
    go_returns
    exact ⟨rfl, by rw [HD.out, HQ.out]; exact x2⟩
theorem refw_Done (n0 b : Nat) (W : Wr) (w : World) (h : RW w n0 b W) : Calls Tryz.prog 83 #[.pointer (some ⟨b, 0, none⟩)] w fun e w' => e = .returned (.tuple #[.string (doneS W), .int .i64 W.err]) ∧ Ext Non w w' := by
  have H := Go.Lib.hid h
  obtain ⟨v, r, o⟩ := h.ex
  have q2 : w.cell? ⟨b, 2, none⟩ = some (.int .i64 W.err) := cell_of_heap r rfl
  have q0 : w.cell? ⟨b, 0, none⟩ = some v := cell_of_heap r rfl
  have O := Go.Lib.hid o
  clear h r
  by_cases he : W.err = 0
  · rw [he] at q2
    have HE := Go.Lib.hid he
    have HS := Go.Lib.hid (show doneS W = ⟨W.bs.toArray⟩ by unfold doneS; rw [if_pos he])
    have hcv : ∀ src dst, (Tryz.prog).underlying src = some (.slice 5) → (Tryz.prog).underlying dst = some .string → (convert src dst v).run Tryz.prog w = .ok (.string ⟨W.bs.toArray⟩) w := by
      intro src dst hs hd
      rcases o.2 with ⟨rfl, h0⟩ | ⟨g, cap, cur, rfl, hb, hg, hl, hm, hsz, ht⟩
      · rw [run_convert_bytes_string w src dst 5 none 0 0 hs Tryz.underlying5 hd]
        have : W.bs = [] := List.eq_nil_of_length_eq_zero h0
        rw [this]
        rfl
      · refine run_convert_bytes_back w src dst 5 ⟨g, 0, none⟩ cap W.bs hs Tryz.underlying5 hd (fun j hj => ?_)
        exact o.cells (g := g) rfl j _ (by simp [bcells, hj])
    have hc := hcv 229 9 Tryz.underlying229 Tryz.underlying9
    clear he hcv o
    go_enter Tryz.func83, Tryz.ntmps83
    go_wp2
    go_returns
    exact ⟨by rw [HS.out, HE.out]; rfl, Ext.refl _ _⟩
  · have HS := Go.Lib.hid (show doneS W = ⟨#[]⟩ by unfold doneS; rw [if_neg he])
    have hb : (W.err != 0) = true := by rw [bne_iff_ne]; exact he
    clear he o
    go_enter Tryz.func83, Tryz.ntmps83
    go_wp2_with fail
    go_region
    all_goals go_wp2
    all_goals go_returns
    all_goals exact ⟨by rw [HS.out]; rfl, (Ext.refl _ _).drew⟩
end Go.Proofs.YtflpkoafebjfdaaGreat
