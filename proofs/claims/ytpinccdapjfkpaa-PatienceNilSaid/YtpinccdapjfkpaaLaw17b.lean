/- The laws of layer 17, walked: the rest, and all of them over readings. -/
import Derived.Test.YtpinccdapjfkpaaLaw17
import Derived.Lib.SmallJoins
namespace Go.Proofs.Ytpinccdapjfkpaa
open Go.RowKit Go.ChangeShapes Go.WideShapes
set_option linter.unusedSimpArgs false
set_option linter.unusedVariables false

theorem uintMod (m : Int) (hm : 0 < m) (hm2 : m ≤ 4611686018427387904) (k : Int) : ∃ K : Nat, (K : Int) < m ∧ wrap64 ((IntKind.u64.wrap k).tmod m) = (K : Int) := by
  have h0 : 0 ≤ IntKind.u64.wrap k := by rw [IntKind.wrap_u64]; omega
  have h1 := Int.emod_nonneg (IntKind.u64.wrap k) (show m ≠ 0 by omega)
  have h2 := Int.emod_lt_of_pos (IntKind.u64.wrap k) hm
  refine ⟨((IntKind.u64.wrap k) % m).toNat, by omega, ?_⟩
  rw [Int.tmod_eq_emod_of_nonneg h0]
  unfold wrap64
  omega
theorem clip_of {n : Int} (h0 : 0 ≤ n) (h1 : n ≤ 1099511627776) : clipI n = n := by unfold clipI; omega

set_option maxHeartbeats 1000000 in
theorem due_walk (x0 x1 x2 : Int) (w : World) : Calls Try.prog 6 #[.int .i64 x0, .int .i64 x1, .int .i64 x2] w fun e w' => e = .returned (.bool true) ∧ Ext Non w w' := by
  obtain ⟨N, hN, eN⟩ := uintMod 12 (by decide) (by decide) x0
  obtain ⟨A, hA, eA⟩ := uintMod 1099511627776 (by decide) (by decide) x1
  obtain ⟨L, hL, eL⟩ := uintMod 1000 (by decide) (by decide) x2
  go_enter Try.func6, Try.ntmps6
  go_wp2_with fail
  refine (law17_lives _).mono ?_
  rintro e w0 ⟨rfl, x0⟩
  go_wp2_with fail
  refine (pat_New _).mono ?_
  rintro e w1 ⟨rfl, x1, T1⟩
  have x01 := x0.trans x1
  have hs := x0.size
  obtain ⟨B, hB⟩ : ∃ B, B = w0.heap.size := ⟨_, rfl⟩
  rw [← hB] at T1 hs ⊢
  clear x0 x1 hB
  go_wp2_with fail
  go_loopw [8] (fun iv wr => ∃ (i f : Nat), i ≤ N ∧ iv = .int .i64 i ∧ f ≤ 6 ∧ Ext Non w wr ∧ T3 wr B f false 0) (fun iv _ => N - (intOf iv).toNat)
  case atStart => exact ⟨0, 0, Nat.zero_le _, rfl, by decide, x01, T1⟩
  case round =>
    obtain ⟨i, f, hi, rfl, hf, x, T⟩ := hrel
    clear T1 x01
    have TT := Go.Lib.hid T; clear T
    by_cases hlt : i < N
    · go_wp2_with fail
      refine (pat_Fail B f false 0 _ TT.out hf).mono ?_
      rintro e2 w2 ⟨rfl, x2, T2⟩
      have TT2 := Go.Lib.hid T2; clear T2
      go_wp2
      go_roundw
      case rel => exact ⟨i + 1, _, hlt, by go_num, fail_le f hf, x.step x2 (fun q hq hS => by unfold One at hS; omega), TT2.out⟩
      case measure => simp [intOf]; omega
    · have cA : clipI (A : Int) = A := clip_of (by omega) (by omega)
      have wb := wait_bd f hf
      have wb1 := wb.1
      have wb2 := wb.2
      go_wp2_with fail
      refine (pat_Wait B f false 0 _ TT.out hf).mono ?_
      rintro e2 w2 ⟨rfl, rfl⟩
      go_wp2_with fail
      refine (pat_Start B f false 0 _ _ TT.out hf).mono ?_
      rintro e3 w3 ⟨rfl, x3, T3'⟩
      rw [show startE false 0 (A : Int) (waitI f) = A + waitI f by show clipI (A : Int) + waitI f = _; rw [cA]] at T3'
      have TT3 := Go.Lib.hid T3'; clear T3' TT
      go_wp2_with fail
      refine (pat_Start B f true _ _ _ TT3.out hf).mono ?_
      rintro e4 w4 ⟨rfl, x4, T4⟩
      have TT4 : Hid (T3 w4 B f true (A + waitI f)) := Go.Lib.hid T4; clear T4 TT3
      have x04 : Ext Non w w4 := (x.step x3 (fun q hq hS => by unfold One at hS; omega)).step x4 (fun q hq hS => by unfold One at hS; omega)
      go_wp2_with fail
      go_loopw [10] (fun nv wr => ∃ (j : Int), waitI f - 3 ≤ j ∧ j ≤ waitI f + 3 ∧ nv = .int .i64 j ∧ Ext Non w wr ∧ T3 wr B f true (A + waitI f)) (fun nv _ => (waitI f + 3 - intOf nv).toNat)
      case atStart => exact ⟨_, by omega, by omega, rfl, x04, TT4.out⟩
      case round =>
        obtain ⟨j, hj0, hj1, rfl, x, T⟩ := hrel
        clear TT4 x04
        have TT := Go.Lib.hid T; clear T
        by_cases hlt : j < waitI f + 3
        · by_cases hc : (A : Int) + j ≤ 1099511627776
          · have cJ : clipI (A + j) = A + j := clip_of (by omega) hc
            by_cases hw : waitI f ≤ j
            · go_wp2_with (first | (go_at_call 30; refine (pat_Due _ _ _ _ _ _ TT.out).mono ?_; rintro e w' ⟨rfl, q, rfl⟩))
              go_roundw
              case rel => exact ⟨j + 1, by omega, by omega, rfl, x.drewN _, TT.out.drewN _⟩
              case measure => simp [intOf]; omega
            · go_wp2_with (first | (go_at_call 30; refine (pat_Due _ _ _ _ _ _ TT.out).mono ?_; rintro e w' ⟨rfl, q, rfl⟩))
              go_roundw
              case rel => exact ⟨j + 1, by omega, by omega, rfl, x.drewN _, TT.out.drewN _⟩
              case measure => simp [intOf]; omega
          · go_wp2_with fail
            go_roundw
            case rel => exact ⟨j + 1, by omega, by omega, rfl, x, TT.out⟩
            case measure => simp [intOf]; omega
        · go_wp2_with fail
          refine (pat_Stop B f true _ _ TT.out).mono ?_
          rintro e5 w5 ⟨rfl, x5, T5⟩
          have TT5 := Go.Lib.hid T5; clear T5
          go_wp2_with (first | (go_at_call 30; refine (pat_Due _ _ _ _ _ _ TT5.out).mono ?_; rintro e w' ⟨rfl, q, rfl⟩) | (go_at_call 32; refine (pat_Running _ _ _ _ _ (TT5.out.drewN _)).mono ?_; rintro e w' ⟨rfl, rfl⟩))
          go_returns
          exact ⟨rfl, (x.step x5 (fun q hq hS => by unfold One at hS; omega)).drewN _⟩

/-! ### A timer that isn't there -/
theorem pat_Running_nil (w : World) : Calls Try.prog 32 #[.pointer none] w fun e w' => e = .returned (.bool false) ∧ w = w' := by
  go_enter Try.func32, Try.ntmps32
  go_wp2
  go_ret
  exact ⟨rfl, rfl⟩
theorem pat_Due_nil (now : Int) (w : World) : Calls Try.prog 30 #[.pointer none, .int .i64 now] w fun e w' => e = .returned (.bool false) ∧ ∃ n, w' = w.drewN n := by
  go_enter Try.func30, Try.ntmps30
  go_wp2_with fail
  go_quiet (first | (go_at_call 32; exact quiet_eq (pat_Running_nil _)))
  go_wp2
  go_ret
  exact ⟨rfl, _, rfl⟩
theorem pat_Wait_nil (w : World) : Calls Try.prog 28 #[.pointer none] w fun e w' => e = .returned (.int .i64 0) ∧ w = w' := by
  go_enter Try.func28, Try.ntmps28
  go_wp2
  go_ret
  exact ⟨rfl, rfl⟩
theorem nil_walk (k n : Int) (w : World) : Calls Try.prog 11 #[.agg #[.int .i64 k, .int .i64 n]] w fun e w' => e = .returned (.bool true) ∧ Ext Non w w' := by
  obtain ⟨K, hK5, hK⟩ := kind5 k
  go_enter Try.func11, Try.ntmps11
  go_wp2_with fail
  refine (law17_lives _).mono ?_
  rintro e w0 ⟨rfl, x0⟩
  have c0 : w0.cell? ⟨w.heap.size, 0, none⟩ = some (.int .i64 k) := (x0.cell (by simp) id).trans (by simp [go_sem])
  have c1 : w0.cell? ⟨w.heap.size, 1, none⟩ = some (.int .i64 n) := (x0.cell (by simp) id).trans (by simp [go_sem])
  go_wp2_with fail
  refine (law17_call_nil k n K hK5 hK _).mono ?_
  rintro e w1 ⟨rfl, x1⟩
  have hs : w.heap.size < w0.heap.size := lt_of_cell c0
  have d0 : w1.cell? ⟨w.heap.size, 0, none⟩ = some (.int .i64 k) := (x1.cell hs id).trans c0
  have d1 : w1.cell? ⟨w.heap.size, 1, none⟩ = some (.int .i64 n) := (x1.cell hs id).trans c1
  clear c0 c1
  go_wp2_with (first | (go_at_call 30; refine (pat_Due_nil _ _).mono ?_; rintro e w' ⟨rfl, q, rfl⟩) | (go_at_call 32; refine (pat_Running_nil _).mono ?_; rintro e w' ⟨rfl, rfl⟩) | (go_at_call 28; refine (pat_Wait_nil _).mono ?_; rintro e w' ⟨rfl, rfl⟩))
  go_returns
  refine ⟨rfl, Ext.drewN (Ext.trans (Ext.trans ((Ext.refl _ _).alloc _) x0) x1) _⟩

/-! ### The laws over readings -/
theorem int_open {H : Type} {enc : TypeId × Value → H} {W : World} {v : Value} {d : DataW H} {p : List MemPlace} {base : Nat}
    (h : DataW.Trod enc Try.prog W 0 (fun _ => true) true 3 v d p) (ok : Value.okWide Try.prog W .any base 3 v) : ∃ x : Int, v = .int .i64 x := by
  obtain ⟨x, rfl, rfl, rfl, wx⟩ := open_int Try.underlying3 ok h
  exact ⟨x, rfl⟩
theorem law_PatienceDue {H : Type} {enc : TypeId × Value → H} (W : World) {base : Nat} (v0 : Value) (d0 : DataW H) (p0 : List MemPlace) (v1 : Value) (d1 : DataW H) (p1 : List MemPlace) (v2 : Value) (d2 : DataW H) (p2 : List MemPlace)
    (h0 : DataW.Trod enc Try.prog W 0 (fun _ => true) true 3 v0 d0 p0) (ok0 : Value.okWide Try.prog W .any base 3 v0)
    (h1 : DataW.Trod enc Try.prog W 0 (fun _ => true) true 3 v1 d1 p1) (ok1 : Value.okWide Try.prog W .any base 3 v1)
    (h2 : DataW.Trod enc Try.prog W 0 (fun _ => true) true 3 v2 d2 p2) (ok2 : Value.okWide Try.prog W .any base 3 v2) :
    Calls Try.prog 6 #[v0, v1, v2] W fun e w' => e = .returned (.bool true) ∧ Below W.heap.size W w' := by
  obtain ⟨x0, rfl⟩ := int_open h0 ok0
  obtain ⟨x1, rfl⟩ := int_open h1 ok1
  obtain ⟨x2, rfl⟩ := int_open h2 ok2
  exact (due_walk x0 x1 x2 W).mono fun _ _ ⟨a, b⟩ => ⟨a, b.toBelow⟩
theorem law_PatienceWaits {H : Type} {enc : TypeId × Value → H} (W : World) {base : Nat} (v0 : Value) (d0 : DataW H) (p0 : List MemPlace)
    (h0 : DataW.Trod enc Try.prog W 0 (fun _ => true) true 45 v0 d0 p0) (ok0 : Value.okWide Try.prog W .any base 45 v0) :
    Calls Try.prog 10 #[v0] W fun e w' => e = .returned (.bool true) ∧ Below W.heap.size W w' := by
  rcases open_ops h0 ok0 with ⟨a, cap, rfl⟩ | ⟨b, o, len, cap, k, n, rfl, h1, h2, h3, h4⟩
  · exact (waits_empty a cap W).mono fun _ _ ⟨a, b⟩ => ⟨a, b.toBelow⟩
  · exact (waits_row b o len cap k n h2 W h4 h3).mono fun _ _ ⟨a, b⟩ => ⟨a, b.toBelow⟩
theorem law_PatiencePlays {H : Type} {enc : TypeId × Value → H} (W : World) {base : Nat} (v0 : Value) (d0 : DataW H) (p0 : List MemPlace)
    (h0 : DataW.Trod enc Try.prog W 0 (fun _ => true) true 45 v0 d0 p0) (ok0 : Value.okWide Try.prog W .any base 45 v0) :
    Calls Try.prog 9 #[v0] W fun e w' => e = .returned (.bool true) ∧ Below W.heap.size W w' := by
  rcases open_ops h0 ok0 with ⟨a, cap, rfl⟩ | ⟨b, o, len, cap, k, n, rfl, h1, h2, h3, h4⟩
  · exact (plays_empty a cap W).mono fun _ _ ⟨a, b⟩ => ⟨a, b.toBelow⟩
  · exact (plays_row b o len cap k n h2 W h4 h3).mono fun _ _ ⟨a, b⟩ => ⟨a, b.toBelow⟩
theorem law_PatienceNil {H : Type} {enc : TypeId × Value → H} (W : World) {base : Nat} (v0 : Value) (d0 : DataW H) (p0 : List MemPlace)
    (h0 : DataW.Trod enc Try.prog W 0 (fun _ => true) true 50 v0 d0 p0) (ok0 : Value.okWide Try.prog W .any base 50 v0) :
    Calls Try.prog 11 #[v0] W fun e w' => e = .returned (.bool true) ∧ Below W.heap.size W w' := by
  obtain ⟨c0, c1, y0, y1, m, rfl, rfl, rfl, hy0, hy1⟩ := Go.Joins.open_agg2 Try.underlying50 (by kernel_rfl) (show Try.prog.cellsOf 50 = 2 by kernel_rfl) ok0 h0
  obtain ⟨a, e0, _, _⟩ := DataW.trod_int Try.underlying3 hy0
  obtain ⟨b, e1, _, _⟩ := DataW.trod_int Try.underlying3 hy1
  simp at e0 e1
  subst e0 e1
  exact (nil_walk a b W).mono fun _ _ ⟨a, b⟩ => ⟨a, b.toBelow⟩
end Go.Proofs.Ytpinccdapjfkpaa
