/- Joined texts: Council2, Council3. What each proves stands at its head; no conditions beside those in its theorems. -/
import Derived.Laws.CopyOwn
import Derived.Deep.OwnRows
import Derived.Deep.RegionLaw
import Derived.Test.YtfefeepljbfcdaaGreatPjAG
/- Contracts of layer 7 (council): coming and going. -/
namespace Go.Proofs.YtfefeepljbfcdaaGreat
open Go.RowKit
set_option linter.unusedSimpArgs false
set_option linter.unusedVariables false
theorem Ints.ofHeap {w : World} {g : Nat} {t : TypeId} {xs : List Int} (h : w.heap[g]? = some (.cells (xs.map (Value.int .i64)).toArray t (0, 0))) (hm : xs.length ≤ 9223372036854775807) (hi : ∀ x ∈ xs, I64 x) : Ints w (some ⟨g, 0, none⟩) xs.length xs :=
 ⟨Nat.le_refl _, hm, fun e => (by cases e), fun j hj => ⟨g, 0, rfl, by simp [World.cell?, h, hj], hi _ (List.getElem_mem hj)⟩⟩
theorem size_int : (Tryz.prog.info? 3).map (·.size) = some 1 := by kernel_rfl
def ic (xs : List Int) : List Value := xs.map (Value.int .i64)
theorem ic_one (xs : List Int) : ∀ v ∈ ic xs, v.oneCell' = true := by intro u hu; obtain ⟨x, _, rfl⟩ := List.mem_map.1 hu; rfl
theorem ic_length (xs : List Int) : (ic xs).length = xs.length := by simp [ic]
theorem join_row (n at_ : Nat) (A B : List Value) (v : Value) (hA : A.length = at_) (hB : B.length + at_ = n) :
  splice ((splice (List.replicate (n + 1) (Value.int .i64 0)) 0 A).set at_ v) (at_ + 1) B = A ++ v :: B := by
 subst hA
 have e1 : splice (List.replicate (n + 1) (Value.int .i64 0)) 0 A = A ++ List.replicate (n + 1 - A.length) (.int .i64 0) := by simp [splice]
 rw [e1]
 have e2 : (A ++ List.replicate (n + 1 - A.length) (Value.int .i64 0)).set A.length v = A ++ v :: List.replicate (n - A.length) (.int .i64 0) := by
  rw [show n + 1 - A.length = (n - A.length) + 1 by omega, List.replicate_succ, List.set_append]; simp
 rw [e2]
 simp only [splice]
 have e3 : (A ++ v :: List.replicate (n - A.length) (Value.int .i64 0)).take (A.length + 1) = A ++ [v] := by
  rw [List.take_append, List.take_of_length_le (by omega)]; simp
 have e4 : (A ++ v :: List.replicate (n - A.length) (Value.int .i64 0)).drop (A.length + 1 + B.length) = [] := by
  apply List.drop_eq_nil_of_le; simp; omega
 rw [e3, e4]; simp
theorem join_cell {w2 : World} {g n K : Nat} {t : TypeId} {X1 : List Value} (h : w2.heap[g]? = some (.cells (splice (List.replicate (n + 1) (Value.int .i64 0)) 0 X1).toArray t (0, 0))) (hK : X1.length = K) (hn : K ≤ n) :
  w2.cell? ⟨g, K, none⟩ = some (.int .i64 0) := by
 refine cell_of_heap h ?_
 simp only [splice, List.take_zero, List.nil_append, Nat.zero_add]
 rw [List.getElem?_append_right (by omega), hK, Nat.sub_self, List.getElem?_drop, List.getElem?_replicate, if_pos (by omega)]
set_option maxRecDepth 100000 in
set_option maxHeartbeats 1000000 in
theorem join_ok (a : Option Addr) (cap : Nat) (xs : List Int) (id : Int) (he : joinE xs id = 0) (w : World) (h : Ints w a cap xs) : Calls Tryz.prog 91 #[.slice a xs.length cap, .int .i64 id] w fun e w' =>
  ∃ a' cap', e = .returned (.tuple #[.slice a' (joinL xs id).length cap', .int .i64 0]) ∧ Ext Non w w' ∧ Ints w' a' cap' (joinL xs id) ∧ fresh w.heap.size w' a' := by
 have HH := hI_ h; clear h
 unfold joinE at he
 by_cases hf : (membersB xs && decide (0 ≤ id) && decide (id < 16)) = true
 ·rw [if_pos hf] at he
  cases hh : hasB xs id
  ·rw [hh] at he
   simp only [Bool.false_eq_true, if_false] at he
   have h10 : xs.length ≠ 10 := by intro e; rw [if_pos e] at he; cases he
   clear he
   have hmem : membersB xs = true := by cases hq : membersB xs <;> simp [hq] at hf ⊢
   obtain ⟨m1, m2, m3, m4⟩ := members_facts hmem
   have Hh := hI_ hh
   have hid : 0 ≤ id ∧ id < 16 := by simp only [Bool.and_eq_true, decide_eq_true_eq] at hf; exact ⟨hf.1.2, hf.2⟩
   obtain ⟨k1, k2, k3⟩ := sorted_place xs id m2
   have hJ : joinL xs id = xs.take (placeI xs id) ++ id :: xs.drop (placeI xs id) := by
    unfold joinL; rw [if_pos (by unfold joinE; rw [if_pos hf, hh]; simp [h10]), k2, k3]
   have HJ := hI_ hJ
   have HP := hI_ m2
   have HF := hI_ hf
   have HM := hI_ hmem
   have HI := hI_ m1
   have HD := hI_ hid
   generalize hK : placeI xs id = K at *
   have HK := hI_ hK
   obtain ⟨b, o, rfl, hc0, _⟩ := HH.out.at_ 0 (by omega)
   have hbw := lt_of_cell hc0
   have hle := HH.out.le
   have hcm := HH.out.small
   have hKc : K ≤ cap := by omega
   have e10 : ((xs.length : Int) == 10) = false := by rw [beq_eq_false_iff_ne]; omega
   have hmk := run_make_row' (P := Tryz.prog) 22 3 (.int .i64 0) 8 Tryz.underlying22 info_int rfl .i64 .i64 (xs.length + 1) (by omega) (by omega)
   have ec : ((xs.length + 1 : Nat) : Int) = (xs.length : Int) + 1 := by omega
   rw [ec] at hmk
   have HZ : Hid ((w.alloc (.cells (madeCells #[.int .i64 0] (xs.length + 1)) 3)).heap[w.heap.size]? = some (.cells (List.replicate (xs.length + 1) (Value.int .i64 0)).toArray 3 (0, 0))) := by
    have e := toList_madeCells_one (Value.int .i64 0) (xs.length + 1)
    have e2 : madeCells #[Value.int .i64 0] (xs.length + 1) = (List.replicate (xs.length + 1) (Value.int .i64 0)).toArray := by rw [← e]
    rw [e2]; exact heap_alloc_new w _
   obtain ⟨X1, hX1⟩ : ∃ X, X = ic (xs.take K) := ⟨_, rfl⟩
   obtain ⟨X2, hX2⟩ : ∃ X, X = ic (xs.drop K) := ⟨_, rfl⟩
   have lX1 : X1.length = K := by rw [hX1, ic_length, List.length_take]; omega
   have lX2 : X2.length = xs.length - K := by rw [hX2, ic_length, List.length_drop]
   have HX1 := hI_ hX1; have HX2 := hI_ hX2
   have s1 : ∀ (w' : World), Ext Non w w' → ∀ j v, X1[j]? = some v → w'.cell? ((⟨b, o, none⟩ : Addr).add j) = some v := by
    intro w' x j v hj
    rw [addr_add]
    rw [hX1] at hj
    have hjl : j < K := by have := (List.getElem?_eq_some_iff.1 hj).1; rw [ic_length, List.length_take] at this; omega
    obtain ⟨b', o', e, hc, _⟩ := HH.out.at_ j (by omega)
    cases e
    have : v = .int .i64 xs[j] := by
     have h2 : (ic (xs.take K))[j]? = some (.int .i64 xs[j]) := by simp [ic, List.getElem?_take, hjl, List.getElem?_eq_getElem (show j < xs.length by omega)]
     rw [h2] at hj; exact (Option.some.inj hj).symm
    rw [this]
    exact (x.cell (lt_of_cell hc) (fun f => f)).trans hc
   have s2 : ∀ (w' : World), Ext Non w w' → ∀ j v, X2[j]? = some v → w'.cell? ((⟨b, o + K, none⟩ : Addr).add j) = some v := by
    intro w' x j v hj
    rw [addr_add]
    rw [hX2] at hj
    have hjl : j < xs.length - K := by have := (List.getElem?_eq_some_iff.1 hj).1; rw [ic_length, List.length_drop] at this; omega
    obtain ⟨b', o', e, hc, _⟩ := HH.out.at_ (K + j) (by omega)
    cases e
    have : v = .int .i64 xs[K + j] := by
     have h2 : (ic (xs.drop K))[j]? = some (.int .i64 xs[K + j]) := by simp [ic, List.getElem?_drop, List.getElem?_eq_getElem (show K + j < xs.length by omega)]
     rw [h2] at hj; exact (Option.some.inj hj).symm
    rw [this, Nat.add_assoc]
    exact (x.cell (lt_of_cell hc) (fun f => f)).trans hc
   have S1 := hI_ s1; have S2 := hI_ s2
   have one1 := hI_ (show ∀ v ∈ X1, v.oneCell' = true by rw [hX1]; exact ic_one _)
   have one2 := hI_ (show ∀ v ∈ X2, v.oneCell' = true by rw [hX2]; exact ic_one _)
   have L1 := hI_ lX1; have L2 := hI_ lX2
   have cat := join_row xs.length K X1 X2 (.int .i64 id) lX1 (by omega)
   have CAT := hI_ cat
   have al : Ext Non w (w.alloc (.cells (madeCells #[.int .i64 0] (xs.length + 1)) 3)) := (Ext.refl _ _).alloc _
   clear ec m1 m2 hJ k2 k3 hf hmem hh h10 hK hX1 hX2 lX1 lX2 s1 s2 hid hc0 cat
   go_enter Tryz.func91, Tryz.ntmps91
   go_wp2_with fail
   refine (council_fits _ _ _ _ _ HH.out).mono ?_
   rintro e1 w1 ⟨rfl, rfl⟩
   rw [HF.out]
   go_wp2_with fail
   refine (slices_BinarySearch _ _ _ _ HP.out (by omega) _ HH.out).mono ?_
   rintro e1 w1 ⟨rfl, rfl⟩
   rw [HK.out, Hh.out]
   have q1 := hI_ (show X1.length = Nat.min K (xs.length + 1) by rw [L1.out]; exact (Nat.min_eq_left (by omega)).symm)
   have q3 := hI_ (show 0 + X1.length ≤ (List.replicate (xs.length + 1) (Value.int .i64 0)).length by rw [L1.out]; simp; omega)
   go_wp2_with ((with_reducible show wpList _ _ _ (Oper.mk (some 31) _ _ _ _ _ :: _) _ _); go_loud (refine wpList_copy_splice ?a1 (.tmp 27) (.tmp 30) 22 22 ?a2 3 Tryz.underlying22 size_int (some ⟨w.heap.size, 0, none⟩) (some ⟨b, o, none⟩) (xs.length + 1) (xs.length + 1) K cap ?a3 ?a4 w.heap.size 0 (List.replicate (xs.length + 1) (.int .i64 0)) 3 HZ.out X1 q1.out (fun _ => ⟨rfl, _, rfl, S1.out _ al⟩) q3.out one1.out w.heap.size w al.toBelow (Nat.le_refl _) ?_); (case a1 => rfl); (case a2 => rfl); (case a3 => rfl); (case a4 => rfl); intro w2 hg2 hb2; have z2 := froz_of_heap (k := K) hg2.out; have c2 := join_cell hg2.out L1.out k1)
   have hg3 := heap_set_same (k := K) hg2.out (.int .i64 id)
   have hb3 := hb2.setCell (p := ⟨w.heap.size, K, none⟩) (Nat.le_refl _) (.int .i64 id)
   have hl3 : ((splice (List.replicate (xs.length + 1) (Value.int .i64 0)) 0 X1).set K (.int .i64 id)).length = xs.length + 1 := by rw [List.length_set, length_splice _ _ _ q3.out]; simp
   have kw : IntKind.i64.wrap ((K : Int) + 1) = (K : Int) + 1 := IntWalk.i64_in _ (by omega)
   have kn : ((K : Int) + 1).toNat = K + 1 := by omega
   have kp : (0 : Int) ≤ (K : Int) + 1 := by omega
   have L3 := hI_ hl3
   generalize (splice (List.replicate (xs.length + 1) (Value.int .i64 0)) 0 X1).set K (.int .i64 id) = cur at *
   generalize w2.setCell ⟨w.heap.size, K, none⟩ (.int .i64 id) = w3 at *
   have HG3 := hI_ hg3
   clear hg2 hb2 z2 c2 hg3 hl3
   have fin : ∀ w4 : World, w4.heap[w.heap.size]? = some (.cells (splice cur (K + 1) X2).toArray 3 (0, 0)) → Below w.heap.size w w4 →
     ∃ a' cap', Ending.returned (.tuple #[.slice (some ⟨w.heap.size, 0, none⟩) (xs.length + 1) (xs.length + 1), .int .i64 0]) = .returned (.tuple #[.slice a' (joinL xs id).length cap', .int .i64 0]) ∧ Ext Non w w4 ∧ Ints w4 a' cap' (joinL xs id) ∧ fresh w.heap.size w4 a' := by
    intro w4 hg4 hb4
    have hlen : (joinL xs id).length = xs.length + 1 := by rw [HJ.out]; simp; omega
    have hmap : (joinL xs id).map (Value.int .i64) = splice cur (K + 1) X2 := by
     rw [CAT.out, HX1.out, HX2.out, HJ.out]; simp [ic]
    refine ⟨some ⟨w.heap.size, 0, none⟩, xs.length + 1, by rw [hlen], Ext.ofBelow hb4, ?_, fun b o e => by cases e; exact ⟨Nat.le_refl _, _, _, hg4⟩⟩
    rw [← hlen]
    refine Ints.ofHeap (t := 3) (by rw [hmap]; exact hg4) (by rw [hlen]; omega) ?_
    intro x hx
    rw [HJ.out] at hx
    have h0 : 0 ≤ x ∧ x < 16 := by
     rcases List.mem_append.1 hx with h | h
     ·exact HI.out x (List.mem_of_mem_take h)
     ·rcases List.mem_cons.1 h with rfl | h
      ·exact HD.out
      ·exact HI.out x (List.mem_of_mem_drop h)
    unfold I64; omega
   have FIN := hI_ fin; clear fin
   by_cases hKn : K < xs.length
   ·have hKn1 : ¬ xs.length = K := by omega
    have hKc2 : ¬ cap = K := by omega
    go_still_tail 7, (by kernel_rfl)
    refine wpList_copy_splice rfl (.tmp 39) (.tmp 42) 22 22 rfl 3 Tryz.underlying22 size_int _ _ _ _ _ _ rfl rfl w.heap.size (K + 1) cur 3 HG3.out X2 ?r1 (fun _ => ⟨rfl, _, rfl, S2.out _ (Ext.ofBelow hb3.drew)⟩) (by rw [L2.out, L3.out]; omega) one2.out w.heap.size w hb3.drew (Nat.le_refl _) ?_
    case r1 => rw [L2.out]; exact (Nat.min_eq_left (by omega)).symm
    intro w4 hg4 hb4
    go_wp2
    go_ret2
    exact FIN.out _ hg4.out hb4
   ·obtain rfl : K = xs.length := by omega
    clear hKn
    have n0 : X2.length = 0 := by rw [L2.out]; omega
    have N0 := hI_ n0; clear n0
    by_cases hcc : cap = xs.length
    all_goals
     go_still_tail 7, (by kernel_rfl)
     refine wpList_copy_splice rfl (.tmp 39) (.tmp 42) 22 22 rfl 3 Tryz.underlying22 size_int _ _ _ _ _ _ rfl rfl w.heap.size (xs.length + 1) cur 3 HG3.out X2 (by rw [N0.out]; simp) (fun h => absurd h (by rw [N0.out]; omega)) (by rw [N0.out, L3.out]; omega) one2.out w.heap.size w hb3.drew (Nat.le_refl _) ?_
     intro w4 hg4 hb4
     go_wp2
     go_ret2
     exact FIN.out _ hg4.out hb4
  ·rw [hh] at he; simp at he
 ·rw [if_neg hf] at he; cases he
theorem join_no (a : Option Addr) (cap : Nat) (xs : List Int) (id : Int) (he : joinE xs id ≠ 0) (w : World) (h : Ints w a cap xs) : Calls Tryz.prog 91 #[.slice a xs.length cap, .int .i64 id] w fun e w' =>
  e = .returned (.tuple #[.slice none 0 0, .int .i64 (joinE xs id)]) ∧ w = w' := by
 have HH := hI_ h; clear h
 have HE := hI_ (show joinE xs id = if membersB xs && decide (0 ≤ id) && decide (id < 16) then (if hasB xs id then 7 else if xs.length = 10 then 10 else 0) else 1 from rfl)
 cases hf : (membersB xs && decide (0 ≤ id) && decide (id < 16))
 ·have E1 : Hid (joinE xs id = 1) := hI_ (by rw [HE.out, hf]; rfl)
  have HF := hI_ hf; clear hf he
  go_enter Tryz.func91, Tryz.ntmps91
  go_wp2_with fail
  refine (council_fits _ _ _ _ _ HH.out).mono ?_
  rintro e1 w1 ⟨rfl, rfl⟩
  rw [HF.out]
  go_wp2
  go_ret2
  exact ⟨by rw [E1.out]; rfl, rfl⟩
 ·have hmem : membersB xs = true := by cases hq : membersB xs <;> simp [hq] at hf ⊢
  obtain ⟨m1, m2, m3, m4⟩ := members_facts hmem
  have HP := hI_ m2
  have HF := hI_ hf
  cases hh : hasB xs id
  ·have h10 : xs.length = 10 := by
    rcases Classical.em (xs.length = 10) with h | h
    ·exact h
    ·exact absurd (by rw [HE.out, hf, hh]; simp [h]) he
   have E1 : Hid (joinE xs id = 10) := hI_ (by rw [HE.out, hf, hh]; simp [h10])
   have Hh := hI_ hh
   have e10 : ((xs.length : Int) == 10) = true := by rw [beq_iff_eq]; omega
   clear m1 m2 hf hh he hmem h10
   go_enter Tryz.func91, Tryz.ntmps91
   go_wp2_with fail
   refine (council_fits _ _ _ _ _ HH.out).mono ?_
   rintro e1 w1 ⟨rfl, rfl⟩
   rw [HF.out]
   go_wp2_with fail
   refine (slices_BinarySearch _ _ _ _ HP.out (by omega) _ HH.out).mono ?_
   rintro e1 w1 ⟨rfl, rfl⟩
   rw [Hh.out]
   go_wp2
   go_ret2
   exact ⟨by rw [E1.out]; rfl, rfl⟩
  ·have E1 : Hid (joinE xs id = 7) := hI_ (by rw [HE.out, hf, hh]; simp)
   have Hh := hI_ hh
   clear m1 m2 hf hh he hmem
   go_enter Tryz.func91, Tryz.ntmps91
   go_wp2_with fail
   refine (council_fits _ _ _ _ _ HH.out).mono ?_
   rintro e1 w1 ⟨rfl, rfl⟩
   rw [HF.out]
   go_wp2_with fail
   refine (slices_BinarySearch _ _ _ _ HP.out (by omega) _ HH.out).mono ?_
   rintro e1 w1 ⟨rfl, rfl⟩
   rw [Hh.out]
   go_wp2
   go_ret2
   exact ⟨by rw [E1.out]; rfl, rfl⟩
end Go.Proofs.YtfefeepljbfcdaaGreat

/- Contracts of layer 7 (council): coming and going. -/
namespace Go.Proofs.YtfefeepljbfcdaaGreat
open Go.RowKit
set_option linter.unusedSimpArgs false
set_option linter.unusedVariables false
theorem leave_row (n at_ : Nat) (A B : List Value) (hA : A.length = at_) (hB : B.length + at_ = n) :
  splice (splice (List.replicate n (Value.int .i64 0)) 0 A) at_ B = A ++ B := by
 subst hA
 have e1 : splice (List.replicate n (Value.int .i64 0)) 0 A = A ++ List.replicate (n - A.length) (.int .i64 0) := by simp [splice]
 rw [e1]
 simp only [splice]
 have e3 : (A ++ List.replicate (n - A.length) (Value.int .i64 0)).take A.length = A := by simp
 have e4 : (A ++ List.replicate (n - A.length) (Value.int .i64 0)).drop (A.length + B.length) = [] := by
  apply List.drop_eq_nil_of_le; simp; omega
 rw [e3, e4]; simp
set_option maxRecDepth 100000 in
set_option maxHeartbeats 1000000 in
theorem leave_ok (a : Option Addr) (cap : Nat) (xs : List Int) (id : Int) (he : leaveE xs id = 0) (w : World) (h : Ints w a cap xs) : Calls Tryz.prog 92 #[.slice a xs.length cap, .int .i64 id] w fun e w' =>
  ∃ a' cap', e = .returned (.tuple #[.slice a' (leaveL xs id).length cap', .int .i64 0]) ∧ Ext Non w w' ∧ Ints w' a' cap' (leaveL xs id) ∧ fresh w.heap.size w' a' := by
 have HH := hI_ h; clear h
 unfold leaveE at he
 by_cases hf : (membersB xs && decide (0 ≤ id) && decide (id < 16)) = true
 ·rw [if_pos hf] at he
  cases hh : hasB xs id
  ·rw [hh] at he; simp at he
  ·rw [hh] at he
   simp only [if_true] at he
   have h4 : xs.length ≠ 4 := by intro e; rw [if_pos e] at he; cases he
   clear he
   have hmem : membersB xs = true := by cases hq : membersB xs <;> simp [hq] at hf ⊢
   obtain ⟨m1, m2, m3, m4⟩ := members_facts hmem
   have Hh := hI_ hh
   have hid : 0 ≤ id ∧ id < 16 := by simp only [Bool.and_eq_true, decide_eq_true_eq] at hf; exact ⟨hf.1.2, hf.2⟩
   obtain ⟨k1, k2⟩ := leave_facts xs id m2 hh
   have hJ : leaveL xs id = xs.take (placeI xs id) ++ xs.drop (placeI xs id + 1) := by
    unfold leaveL; rw [if_pos (by unfold leaveE; rw [if_pos hf, hh]; simp [h4]), k2]
   have HJ := hI_ hJ
   have HP := hI_ m2
   have HF := hI_ hf
   have HM := hI_ hmem
   have HI := hI_ m1
   have HD := hI_ hid
   generalize hK : placeI xs id = K at *
   have HK := hI_ hK
   obtain ⟨b, o, rfl, hc0, _⟩ := HH.out.at_ 0 (by omega)
   have hbw := lt_of_cell hc0
   have hle := HH.out.le
   have hcm := HH.out.small
   have hKc : K ≤ cap := by omega
   have e4 : ((xs.length : Int) == 4) = false := by rw [beq_eq_false_iff_ne]; omega
   have hmk := run_make_row' (P := Tryz.prog) 22 3 (.int .i64 0) 8 Tryz.underlying22 info_int rfl .i64 .i64 (xs.length - 1) (by omega) (by omega)
   have ec : ((xs.length - 1 : Nat) : Int) = (xs.length : Int) - 1 := by omega
   rw [ec] at hmk
   have HZ : Hid ((w.alloc (.cells (madeCells #[.int .i64 0] (xs.length - 1)) 3)).heap[w.heap.size]? = some (.cells (List.replicate (xs.length - 1) (Value.int .i64 0)).toArray 3 (0, 0))) := by
    have e := toList_madeCells_one (Value.int .i64 0) (xs.length - 1)
    have e2 : madeCells #[Value.int .i64 0] (xs.length - 1) = (List.replicate (xs.length - 1) (Value.int .i64 0)).toArray := by rw [← e]
    rw [e2]; exact heap_alloc_new w _
   obtain ⟨X1, hX1⟩ : ∃ X, X = ic (xs.take K) := ⟨_, rfl⟩
   obtain ⟨X2, hX2⟩ : ∃ X, X = ic (xs.drop (K + 1)) := ⟨_, rfl⟩
   have lX1 : X1.length = K := by rw [hX1, ic_length, List.length_take]; omega
   have lX2 : X2.length = xs.length - (K + 1) := by rw [hX2, ic_length, List.length_drop]
   have HX1 := hI_ hX1; have HX2 := hI_ hX2
   have s1 : ∀ (w' : World), Ext Non w w' → ∀ j v, X1[j]? = some v → w'.cell? ((⟨b, o, none⟩ : Addr).add j) = some v := by
    intro w' x j v hj
    rw [addr_add]
    rw [hX1] at hj
    have hjl : j < K := by have := (List.getElem?_eq_some_iff.1 hj).1; rw [ic_length, List.length_take] at this; omega
    obtain ⟨b', o', e, hc, _⟩ := HH.out.at_ j (by omega)
    cases e
    have : v = .int .i64 xs[j] := by
     have h2 : (ic (xs.take K))[j]? = some (.int .i64 xs[j]) := by simp [ic, List.getElem?_take, hjl, List.getElem?_eq_getElem (show j < xs.length by omega)]
     rw [h2] at hj; exact (Option.some.inj hj).symm
    rw [this]
    exact (x.cell (lt_of_cell hc) (fun f => f)).trans hc
   have s2 : ∀ (w' : World), Ext Non w w' → ∀ j v, X2[j]? = some v → w'.cell? ((⟨b, o + (K + 1), none⟩ : Addr).add j) = some v := by
    intro w' x j v hj
    rw [addr_add]
    rw [hX2] at hj
    have hjl : j < xs.length - (K + 1) := by have := (List.getElem?_eq_some_iff.1 hj).1; rw [ic_length, List.length_drop] at this; omega
    obtain ⟨b', o', e, hc, _⟩ := HH.out.at_ (K + 1 + j) (by omega)
    cases e
    have : v = .int .i64 xs[K + 1 + j] := by
     have h2 : (ic (xs.drop (K + 1)))[j]? = some (.int .i64 xs[K + 1 + j]) := by simp [ic, List.getElem?_drop, List.getElem?_eq_getElem (show K + 1 + j < xs.length by omega)]
     rw [h2] at hj; exact (Option.some.inj hj).symm
    rw [this, Nat.add_assoc]
    exact (x.cell (lt_of_cell hc) (fun f => f)).trans hc
   have S1 := hI_ s1; have S2 := hI_ s2
   have one1 := hI_ (show ∀ v ∈ X1, v.oneCell' = true by rw [hX1]; exact ic_one _)
   have one2 := hI_ (show ∀ v ∈ X2, v.oneCell' = true by rw [hX2]; exact ic_one _)
   have L1 := hI_ lX1; have L2 := hI_ lX2
   have cat := leave_row (xs.length - 1) K X1 X2 lX1 (by omega)
   have CAT := hI_ cat
   have al : Ext Non w (w.alloc (.cells (madeCells #[.int .i64 0] (xs.length - 1)) 3)) := (Ext.refl _ _).alloc _
   clear ec m1 m2 hJ k2 hf hmem hh h4 hK hX1 hX2 lX1 lX2 s1 s2 hid hc0 cat
   go_enter Tryz.func92, Tryz.ntmps92
   go_wp2_with fail
   refine (council_fits _ _ _ _ _ HH.out).mono ?_
   rintro e1 w1 ⟨rfl, rfl⟩
   rw [HF.out]
   go_wp2_with fail
   refine (slices_BinarySearch _ _ _ _ HP.out (by omega) _ HH.out).mono ?_
   rintro e1 w1 ⟨rfl, rfl⟩
   rw [HK.out, Hh.out]
   have q1 := hI_ (show X1.length = Nat.min K (xs.length - 1) by rw [L1.out]; exact (Nat.min_eq_left (by omega)).symm)
   have q3 := hI_ (show 0 + X1.length ≤ (List.replicate (xs.length - 1) (Value.int .i64 0)).length by rw [L1.out]; simp; omega)
   go_wp2_with ((with_reducible show wpList _ _ _ (Oper.mk (some 32) _ _ _ _ _ :: _) _ _); go_loud (refine wpList_copy_splice ?a1 (.tmp 28) (.tmp 31) 22 22 ?a2 3 Tryz.underlying22 size_int (some ⟨w.heap.size, 0, none⟩) (some ⟨b, o, none⟩) (xs.length - 1) (xs.length - 1) K cap ?a3 ?a4 w.heap.size 0 (List.replicate (xs.length - 1) (.int .i64 0)) 3 HZ.out X1 q1.out (fun _ => ⟨rfl, _, rfl, S1.out _ al⟩) q3.out one1.out w.heap.size w al.toBelow (Nat.le_refl _) ?_); (case a1 => rfl); (case a2 => rfl); (case a3 => rfl); (case a4 => rfl); intro w2 hg2 hb2)
   go_wp2_with fail
   have hl3 : (splice (List.replicate (xs.length - 1) (Value.int .i64 0)) 0 X1).length = xs.length - 1 := by rw [length_splice _ _ _ q3.out]; simp
   have kw : IntKind.i64.wrap ((K : Int) + 1) = (K : Int) + 1 := IntWalk.i64_in _ (by omega)
   have kn : ((K : Int) + 1).toNat = K + 1 := by omega
   have kp : (0 : Int) ≤ (K : Int) + 1 := by omega
   have L3 := hI_ hl3
   generalize splice (List.replicate (xs.length - 1) (Value.int .i64 0)) 0 X1 = cur at *
   have HG3 := hg2
   have hb3 := hb2
   clear hg2 hb2 hl3
   have fin : ∀ w4 : World, w4.heap[w.heap.size]? = some (.cells (splice cur K X2).toArray 3 (0, 0)) → Below w.heap.size w w4 →
     ∃ a' cap', Ending.returned (.tuple #[.slice (some ⟨w.heap.size, 0, none⟩) (xs.length - 1) (xs.length - 1), .int .i64 0]) = .returned (.tuple #[.slice a' (leaveL xs id).length cap', .int .i64 0]) ∧ Ext Non w w4 ∧ Ints w4 a' cap' (leaveL xs id) ∧ fresh w.heap.size w4 a' := by
    intro w4 hg4 hb4
    have hlen : (leaveL xs id).length = xs.length - 1 := by rw [HJ.out]; simp; omega
    have hmap : (leaveL xs id).map (Value.int .i64) = splice cur K X2 := by
     rw [CAT.out, HX1.out, HX2.out, HJ.out]; simp [ic]
    refine ⟨some ⟨w.heap.size, 0, none⟩, xs.length - 1, by rw [hlen], Ext.ofBelow hb4, ?_, fun b o e => by cases e; exact ⟨Nat.le_refl _, _, _, hg4⟩⟩
    rw [← hlen]
    refine Ints.ofHeap (t := 3) (by rw [hmap]; exact hg4) (by rw [hlen]; omega) ?_
    intro x hx
    rw [HJ.out] at hx
    have h0 : 0 ≤ x ∧ x < 16 := by
     rcases List.mem_append.1 hx with h | h
     ·exact HI.out x (List.mem_of_mem_take h)
     ·exact HI.out x (List.mem_of_mem_drop h)
    unfold I64; omega
   have FIN := hI_ fin; clear fin
   obtain ⟨n, hn⟩ : ∃ n, xs.length = n + 1 := ⟨xs.length - 1, by omega⟩
   have e1 : xs.length - 1 = n := by omega
   have hKle : K ≤ n := by omega
   rw [e1] at FIN L3
   simp only [e1]
   simp only [hn]
   have L2' := hI_ (show X2.length = n - K by rw [L2.out]; omega)
   clear e1
   by_cases hKn : K < n
   ·have hKn1 : ¬ n = K := by omega
    have hKc2 : ¬ cap = K + 1 := by omega
    go_still_tail 7, (by kernel_rfl)
    refine wpList_copy_splice rfl (.tmp 35) (.tmp 39) 22 22 rfl 3 Tryz.underlying22 size_int _ _ _ _ _ _ rfl rfl w.heap.size K cur 3 HG3.out X2 ?r1 (fun _ => ⟨rfl, _, rfl, S2.out _ (Ext.ofBelow hb3.drew)⟩) (by rw [L2'.out, L3.out]; omega) one2.out w.heap.size w hb3.drew (Nat.le_refl _) ?_
    case r1 => rw [L2'.out]; exact (Nat.min_eq_left (by omega)).symm
    intro w4 hg4 hb4
    go_wp2
    go_ret2
    exact FIN.out _ hg4.out hb4
   ·have hKe : n = K := by omega
    have N0 := hI_ (show X2.length = 0 by rw [L2'.out]; omega)
    subst hKe
    by_cases hcc : cap = n + 1
    all_goals
     go_still_tail 7, (by kernel_rfl)
     refine wpList_copy_splice rfl (.tmp 35) (.tmp 39) 22 22 rfl 3 Tryz.underlying22 size_int _ _ _ _ _ _ rfl rfl w.heap.size n cur 3 HG3.out X2 (by rw [N0.out]; simp) (fun h => absurd h (by rw [N0.out]; omega)) (by rw [N0.out, L3.out]; omega) one2.out w.heap.size w hb3.drew (Nat.le_refl _) ?_
     intro w4 hg4 hb4
     go_wp2
     go_ret2
     exact FIN.out _ hg4.out hb4
 ·rw [if_neg hf] at he; cases he
theorem leave_no (a : Option Addr) (cap : Nat) (xs : List Int) (id : Int) (he : leaveE xs id ≠ 0) (w : World) (h : Ints w a cap xs) : Calls Tryz.prog 92 #[.slice a xs.length cap, .int .i64 id] w fun e w' =>
  e = .returned (.tuple #[.slice none 0 0, .int .i64 (leaveE xs id)]) ∧ w = w' := by
 have HH := hI_ h; clear h
 have HE := hI_ (show leaveE xs id = if membersB xs && decide (0 ≤ id) && decide (id < 16) then (if hasB xs id then (if xs.length = 4 then 9 else 0) else 8) else 1 from rfl)
 cases hf : (membersB xs && decide (0 ≤ id) && decide (id < 16))
 ·have E1 : Hid (leaveE xs id = 1) := hI_ (by rw [HE.out, hf]; rfl)
  have HF := hI_ hf; clear hf he
  go_enter Tryz.func92, Tryz.ntmps92
  go_wp2_with fail
  refine (council_fits _ _ _ _ _ HH.out).mono ?_
  rintro e1 w1 ⟨rfl, rfl⟩
  rw [HF.out]
  go_wp2
  go_ret2
  exact ⟨by rw [E1.out]; rfl, rfl⟩
 ·have hmem : membersB xs = true := by cases hq : membersB xs <;> simp [hq] at hf ⊢
  obtain ⟨m1, m2, m3, m4⟩ := members_facts hmem
  have HP := hI_ m2
  have HF := hI_ hf
  cases hh : hasB xs id
  ·have E1 : Hid (leaveE xs id = 8) := hI_ (by rw [HE.out, hf, hh]; simp)
   have Hh := hI_ hh
   clear m1 m2 hf hh he hmem
   go_enter Tryz.func92, Tryz.ntmps92
   go_wp2_with fail
   refine (council_fits _ _ _ _ _ HH.out).mono ?_
   rintro e1 w1 ⟨rfl, rfl⟩
   rw [HF.out]
   go_wp2_with fail
   refine (slices_BinarySearch _ _ _ _ HP.out (by omega) _ HH.out).mono ?_
   rintro e1 w1 ⟨rfl, rfl⟩
   rw [Hh.out]
   go_wp2
   go_ret2
   exact ⟨by rw [E1.out]; rfl, rfl⟩
  ·have h4 : xs.length = 4 := by
    rcases Classical.em (xs.length = 4) with h | h
    ·exact h
    ·exact absurd (by rw [HE.out, hf, hh]; simp [h]) he
   have E1 : Hid (leaveE xs id = 9) := hI_ (by rw [HE.out, hf, hh]; simp [h4])
   have Hh := hI_ hh
   have e4 : ((xs.length : Int) == 4) = true := by rw [beq_iff_eq]; omega
   clear m1 m2 hf hh he hmem h4
   go_enter Tryz.func92, Tryz.ntmps92
   go_wp2_with fail
   refine (council_fits _ _ _ _ _ HH.out).mono ?_
   rintro e1 w1 ⟨rfl, rfl⟩
   rw [HF.out]
   go_wp2_with fail
   refine (slices_BinarySearch _ _ _ _ HP.out (by omega) _ HH.out).mono ?_
   rintro e1 w1 ⟨rfl, rfl⟩
   rw [Hh.out]
   go_wp2
   go_ret2
   exact ⟨by rw [E1.out]; rfl, rfl⟩
end Go.Proofs.YtfefeepljbfcdaaGreat
