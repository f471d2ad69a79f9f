/- Contracts of the reference of layer 13: which changes fit (its parts). -/
import Derived.Test.YtakbkpklfihfiaaChange2
namespace Go.Proofs.Ytakbkpklfihfiaa
open Go.RowKit Go.Lib F64
set_option linter.unusedSimpArgs false
set_option linter.unusedVariables false

set_option maxHeartbeats 4000000 in
set_option maxRecDepth 100000 in
theorem ref13_sigs (sa : Option Addr) (scap : Nat) (l : List Sg) (w : World) (hs : Sigs w sa scap l) : Calls Try.prog 109 #[.slice sa l.length scap] w fun e w' => e = .returned (.bool (nodesB l && decide (l.length ≤ 16))) ∧ Ext Non w w' := by
  have HS := Go.Lib.hid hs
  have hsm := hs.small; have hsl := hs.le
  clear hs
  go_enter Try.func109, Try.ntmps109
  go_wp2_with fail
  go_loopw [3] (fun iv wr => ∃ (i : Nat), i ≤ l.length ∧ iv = .int .i64 i ∧ Ext Non w wr ∧ nodesB l = nodesB (l.drop i)) (fun iv _ => l.length - (intOf iv).toNat)
  case atStart => exact ⟨0, Nat.zero_le _, rfl, Ext.refl _ _, rfl⟩
  case round =>
    obtain ⟨i, hi, rfl, xr, hn⟩ := hrel
    have XX := Go.Lib.hid xr; have HN := Go.Lib.hid hn
    clear xr hn
    by_cases hlt : i < l.length
    · obtain ⟨sb, so, rfl, hsb, c0, c1, hI, hT⟩ := (HS.out.extN XX.out).at_ i hlt
      have HD := Go.Lib.hid (nodes_drop l i hlt)
      generalize hsg : sgAt l i = sg at *
      obtain ⟨by_, tx⟩ := sg
      clear hsg
      have d0 : wr.cell? ⟨sb, so + i * 2, none⟩ = some (.int .i64 by_) := c0
      clear c0 c1
      by_cases g0 : 0 ≤ by_
      · by_cases g1 : by_ < 200
        · have HQ := Go.Lib.hid (show nodesB l = nodesB (l.drop (i + 1)) by rw [HN.out, HD.out, decide_eq_true g0, decide_eq_true g1]; rfl)
          have g1' : by_ ≤ 199 := by omega
          go_wp2_with fail
          go_roundw
          case rel => exact ⟨i + 1, hlt, by go_num, XX.out, HQ.out⟩
          case measure => simp [intOf]; omega
        · have HQ := Go.Lib.hid (show nodesB l = false by rw [HN.out, HD.out, decide_eq_false g1]; simp)
          have g1' : 199 < by_ := by omega
          go_wp2
          go_ret
          exact ⟨ret_bool (by rw [HQ.out]; rfl), XX.out⟩
      · have HQ := Go.Lib.hid (show nodesB l = false by rw [HN.out, HD.out, decide_eq_false g0]; simp)
        go_wp2
        go_ret
        exact ⟨ret_bool (by rw [HQ.out]; rfl), XX.out⟩
    · have HQ := Go.Lib.hid (show nodesB l = true by rw [HN.out, List.drop_eq_nil_of_le (by omega)]; rfl)
      go_wp2
      go_ret
      exact ⟨ret_bool (by rw [HQ.out, Bool.eq_iff_iff]; simp; try omega), XX.out⟩
theorem ref13_Of (epoch slot : Int) (he : 0 ≤ epoch ∧ epoch ≤ 60) (w : World) : Calls Try.prog 110 #[.int .i64 epoch, .int .i64 slot] w fun e w' => e = .returned (.bool (slotB epoch slot)) ∧ w = w' := by
  have HF : Hid (slotB epoch slot = (decide (epoch * 4 + 1 ≤ slot) && decide (slot < epoch * 4 + 5))) := Go.Lib.hid rfl
  have hw1 : IntKind.i64.wrap (4 * epoch) = 4 * epoch := IntWalk.i64_in _ (by omega)
  have hw2 : IntKind.i64.wrap (epoch + 1) = epoch + 1 := IntWalk.i64_in _ (by omega)
  have hw3 : IntKind.i64.wrap (4 * (epoch + 1)) = 4 * (epoch + 1) := IntWalk.i64_in _ (by omega)
  by_cases h1 : 4 * epoch < slot
  · have H1 := Go.Lib.hid h1; have HE := Go.Lib.hid he
    clear he
    go_enter Try.func110, Try.ntmps110
    go_wp2
    all_goals
      go_ret
      exact ⟨ret_bool (by rw [HF.out, Bool.eq_iff_iff]; have := H1.out; simp; omega), rfl⟩
  · have H1 := Go.Lib.hid h1
    clear he
    go_enter Try.func110, Try.ntmps110
    go_wp2
    go_ret
    exact ⟨ret_bool (by rw [HF.out, Bool.eq_iff_iff]; have := H1.out; simp; omega), rfl⟩
theorem ref13_Asked (c s k : Int) (key : ByteArray) (x : Nat) (id : Int) (w : World) : Calls Try.prog 111 #[.agg #[.int .i64 c, .int .i64 s, .int .i64 k, .string key, .float .f64 x, .int .i64 id]] w fun e w' => e = .returned (.bool (askedB ⟨c, s, ⟨k, key, x, id⟩⟩)) ∧ Ext Non w w' := by
  have HE : Hid (askedB ⟨c, s, ⟨k, key, x, id⟩⟩ = (rightB ⟨c, s, ⟨k, key, x, id⟩⟩ || nullB ⟨c, s, ⟨k, key, x, id⟩⟩)) := Go.Lib.hid rfl
  have B0 := Go.Lib.hid (Bx.new w [.int .i64 c, .int .i64 s, .int .i64 k, .string key, .float .f64 x, .int .i64 id] 49)
  have X0 := Go.Lib.hid ((Ext.refl Non w).alloc (.cells #[.int .i64 c, .int .i64 s, .int .i64 k, .string key, .float .f64 x, .int .i64 id] 49))
  go_enter Try.func111, Try.ntmps111
  go_wp2_with fail
  refine (ref_Right _ _ _ _ _ _ _).mono ?_
  rintro e w1 ⟨rfl, y⟩
  have X1 := Go.Lib.hid (X0.out.trans y)
  have B1 := Go.Lib.hid (B0.out.extN y)
  obtain ⟨q0, q1, q2, q3, q4, q5⟩ := B1.out.six
  clear y
  cases hr : rightB ⟨c, s, ⟨k, key, x, id⟩⟩
  · have HR := Go.Lib.hid hr; clear hr
    go_wp2_with fail
    refine (ref_Null _ _ _ _ _ _ _).mono ?_
    rintro e w2 ⟨rfl, y2⟩
    go_wp2
    go_ret
    exact ⟨ret_bool (by rw [HE.out, HR.out]; rfl), X1.out.trans y2⟩
  · have HR := Go.Lib.hid hr; clear hr
    go_wp2
    go_ret
    exact ⟨ret_bool (by rw [HE.out, HR.out]; rfl), X1.out⟩
end Go.Proofs.Ytakbkpklfihfiaa
