/- Joined texts: Ref07b. What each proves stands at its head; no conditions beside those in its theorems. -/
import Derived.Test.YtfefeepljbfcdaaGreatPjAN
import Derived.Test.YtfefeepljbfcdaaGreatPjAQ
/- Contracts of the reference of layer 7: joining and leaving. -/
namespace Go.Proofs.YtfefeepljbfcdaaGreat
open Go.RowKit Go.Lib F64
set_option linter.unusedSimpArgs false
set_option linter.unusedVariables false
attribute [local go_sem] run_store_float
attribute [local go_sem low] EW.cellN EW.frozN alloc_cell_or alloc_froz_or EW.cellF EW.frozF EW.cell1 EW.froz1
def joinT (xs : List Int) (id : Int) (n : Nat) : List Int := ((List.range n).filter (fun (j : Nat) => decide ((j : Int) = id) || hasB xs (j : Int))).map (fun (j : Nat) => (j : Int))
theorem joinT_succ (xs : List Int) (id : Int) (n : Nat) : joinT xs id (n + 1) = joinT xs id n ++ (if (decide ((n : Int) = id) || hasB xs (n : Int)) = true then [(n : Int)] else []) := by
 unfold joinT
 rw [List.range_succ, List.filter_append, List.map_append]
 congr 1
 by_cases h : (decide ((n : Int) = id) || hasB xs (n : Int)) = true
 ·rw [if_pos h, List.filter_cons_of_pos (by simpa using h)]; rfl
 ·rw [if_neg h, List.filter_cons_of_neg (by simpa using h)]; rfl
theorem joinT_len (xs : List Int) (id : Int) (n : Nat) : (joinT xs id n).length ≤ n := by
 unfold joinT
 rw [List.length_map]
 exact Nat.le_trans (List.length_filter_le _ _) (by rw [List.length_range]; exact Nat.le_refl _)
theorem joinT_all {xs : List Int} {id : Int} (h : joinE xs id = 0) : joinT xs id 16 = joinL xs id := by
 have hm := (members_facts (join_members h))
 have he := h
 unfold joinE at he
 by_cases hf : (membersB xs && decide (0 ≤ id) && decide (id < 16)) = true
 ·simp only [Bool.and_eq_true, decide_eq_true_eq] at hf
  obtain ⟨⟨hx, h0⟩, h16⟩ := hf
  obtain ⟨m1, m2, -, -⟩ := members_facts hx
  have hJ : joinL xs id = xs.filter (fun x => decide (x < id)) ++ id :: xs.filter (fun x => decide (id ≤ x)) := by unfold joinL; rw [if_pos h]
  have p1 : (joinT xs id 16).Pairwise (· < ·) := by
   unfold joinT
   refine List.pairwise_map.2 ((List.pairwise_lt_range.filter _).imp fun {a b} hab => by omega)
  have hmem : ∀ x, x ∈ joinT xs id 16 ↔ x ∈ joinL xs id := fun x => by
   rw [hJ]
   unfold joinT
   simp only [List.mem_map, List.mem_filter, List.mem_range, List.mem_append, List.mem_cons, Bool.or_eq_true, decide_eq_true_eq, hasB_iff]
   constructor
   ·rintro ⟨j, ⟨hj, hh⟩, rfl⟩
    rcases hh with e | e
    ·exact .inr (.inl e)
    ·rcases Int.lt_or_le (j : Int) id with q | q
     ·exact .inl ⟨e, q⟩
     ·exact .inr (.inr ⟨e, q⟩)
   ·intro hh
    have hin : 0 ≤ x ∧ x < 16 ∧ (x = id ∨ x ∈ xs) := by
     rcases hh with ⟨e, -⟩ | rfl | ⟨e, -⟩
     ·have := m1 x e; exact ⟨this.1, this.2, .inr e⟩
     ·exact ⟨h0, h16, .inl rfl⟩
     ·have := m1 x e; exact ⟨this.1, this.2, .inr e⟩
    exact ⟨x.toNat, ⟨by omega, by rw [show ((x.toNat : Nat) : Int) = x by omega]; exact hin.2.2⟩, by omega⟩
  have nd : ∀ l : List Int, l.Pairwise (· < ·) → l.Nodup := fun l p => p.imp fun {a b} hab e => by omega
  exact List.Perm.eq_of_pairwise (le := fun a b => a < b) (fun a b _ _ h1 h2 => by omega) p1 hm.2.1 ((List.perm_ext_iff_of_nodup (nd _ p1) (nd _ hm.2.1)).2 hmem)
 ·rw [if_neg hf] at he; cases he
theorem joinE_of {xs : List Int} (hm : membersB xs = true) (id : Int) : joinE xs id = if 0 ≤ id ∧ id < 16 then (if hasB xs id = true then 7 else if xs.length = 10 then 10 else 0) else 1 := by
 unfold joinE
 rw [hm]
 by_cases h : 0 ≤ id ∧ id < 16
 ·rw [if_pos (by simp [h.1, h.2]), if_pos h]
 ·rw [if_neg (by simp; omega), if_neg h]
theorem leaveE_of {xs : List Int} (hm : membersB xs = true) (id : Int) : leaveE xs id = if 0 ≤ id ∧ id < 16 then (if hasB xs id = true then (if xs.length = 4 then 9 else 0) else 8) else 1 := by
 unfold leaveE
 rw [hm]
 by_cases h : 0 ≤ id ∧ id < 16
 ·rw [if_pos (by simp [h.1, h.2]), if_pos h]
 ·rw [if_neg (by simp; omega), if_neg h]
theorem ic_snoc (xs : List Int) (x : Int) : (xs ++ [x]).map (Value.int .i64) = xs.map (Value.int .i64) ++ [.int .i64 x] := by rw [List.map_append]; rfl
set_option maxHeartbeats 2000000 in
set_option maxRecDepth 100000 in
theorem ref07_Join_no (a : Option Addr) (cap : Nat) (xs : List Int) (hm : membersB xs = true) (id : Int) (he : joinE xs id ≠ 0) (w : World) (h : Ints w a cap xs) : Calls Tryz.prog 97 #[.slice a xs.length cap, .int .i64 id] w fun e w' =>
  e = .returned (.tuple #[.slice none 0 0, .int .i64 (joinE xs id)]) ∧ Ext Non w w' := by
 have HI := hI_ h
 have hj := joinE_of hm id
 have HM := hI_ hm
 have h10 := (members_facts hm).2.2.2
 clear h hm
 by_cases h0 : id < 0
 ·have HE : Hid (joinE xs id = 1) := hI_ (by rw [hj, if_neg (by omega)])
  have d0 : decide (id < 0) = true := decide_eq_true h0
  clear hj he
  go_enter Tryz.func97, Tryz.ntmps97
  go_wp2_with fail
  refine Calls.ew (ref_Members a cap xs _ (HI.out.extN (exG0))) ?_
  rintro e x1 rfl
  rw [HM.out]
  go_wp2
  go_returns
  exact ⟨by rw [HE.out]; rfl, exG0⟩
 ·have d0 : decide (id < 0) = false := decide_eq_false h0
  by_cases h16 : 16 ≤ id
  ·have HE : Hid (joinE xs id = 1) := hI_ (by rw [hj, if_neg (by omega)])
   have d16 : decide (16 ≤ id) = true := decide_eq_true h16
   clear hj he
   go_enter Tryz.func97, Tryz.ntmps97
   go_wp2_with fail
   refine Calls.ew (ref_Members a cap xs _ (HI.out.extN (exG0))) ?_
   rintro e x1 rfl
   rw [HM.out]
   go_wp2
   go_returns
   exact ⟨by rw [HE.out]; rfl, exG0⟩
  ·have d16 : decide (16 ≤ id) = false := decide_eq_false h16
   rw [if_pos (by omega)] at hj
   cases hh : hasB xs id
   ·rw [hh, if_neg (by simp)] at hj
    by_cases hl : xs.length = 10
    ·have HE : Hid (joinE xs id = 10) := hI_ (by rw [hj, if_pos hl])
     have HH := hI_ hh
     have d10 : decide ((10 : Int) ≤ (xs.length : Int)) = true := decide_eq_true (by omega)
     clear hj he hh hl
     go_enter Tryz.func97, Tryz.ntmps97
     go_wp2_with fail
     refine Calls.ew (ref_Members a cap xs _ (HI.out.extN (exG0))) ?_
     rintro e x1 rfl
     rw [HM.out]
     go_wp2_with fail
     refine Calls.ewD (ref_Has a cap xs id _ (HI.out.extN (exG0))) ?_
     rintro e x2 rfl
     rw [HH.out]
     go_wp2
     go_returns
     exact ⟨by rw [HE.out]; rfl, exG0⟩
    ·exact absurd (by rw [hj, if_neg hl]) he
   ·have HE : Hid (joinE xs id = 7) := hI_ (by rw [hj, if_pos hh])
    have HH := hI_ hh
    clear hj he hh
    go_enter Tryz.func97, Tryz.ntmps97
    go_wp2_with fail
    refine Calls.ew (ref_Members a cap xs _ (HI.out.extN (exG0))) ?_
    rintro e x1 rfl
    rw [HM.out]
    go_wp2_with fail
    refine Calls.ewD (ref_Has a cap xs id _ (HI.out.extN (exG0))) ?_
    rintro e x2 rfl
    rw [HH.out]
    go_wp2
    go_returns
    exact ⟨by rw [HE.out]; rfl, exG0⟩
set_option maxHeartbeats 2000000 in
set_option maxRecDepth 100000 in
theorem ref07_Join_ok (a : Option Addr) (cap : Nat) (xs : List Int) (id : Int) (he : joinE xs id = 0) (hm : membersB xs = true) (w : World) (h : Ints w a cap xs) : Calls Tryz.prog 97 #[.slice a xs.length cap, .int .i64 id] w fun e w' =>
  ∃ a' cap', e = .returned (.tuple #[.slice a' (joinL xs id).length cap', .int .i64 0]) ∧ Ext Non w w' ∧ Ints w' a' cap' (joinL xs id) ∧ fresh w.heap.size w' a' := by
 have HI := hI_ h
 have hj := joinE_of hm id
 have HM := hI_ hm
 have h10 := (members_facts hm).2.2.2
 have HJ := hI_ (joinT_all he)
 have HJM := hI_ (join_members he)
 rw [he] at hj
 have hid : 0 ≤ id ∧ id < 16 := by
  rcases Classical.em (0 ≤ id ∧ id < 16) with q | q
  ·exact q
  ·rw [if_neg q] at hj; cases hj
 rw [if_pos hid] at hj
 have hh : hasB xs id = false := by
  cases q : hasB xs id
  ·rfl
  ·rw [q] at hj; simp at hj
 rw [hh, if_neg (by simp)] at hj
 have hl : xs.length ≠ 10 := fun q => by rw [if_pos q] at hj; cases hj
 have HH := hI_ hh
 have d0 : decide (id < 0) = false := decide_eq_false (by omega)
 have d16 : decide (16 ≤ id) = false := decide_eq_false (by omega)
 have d10 : decide ((10 : Int) ≤ (xs.length : Int)) = false := decide_eq_false (by omega)
 clear h hm hj he hh hl
 obtain ⟨ll, hll⟩ : ∃ ll, ll = joinL xs id := ⟨_, rfl⟩
 rw [← hll] at HJ HJM ⊢
 have HLL := hI_ hll
 clear hll
 go_enter Tryz.func97, Tryz.ntmps97
 go_wp2_with fail
 refine Calls.ew (ref_Members a cap xs _ (HI.out.extN (exG0))) ?_
 rintro e x1 rfl
 rw [HM.out]
 go_wp2_with fail
 refine Calls.ewD (ref_Has a cap xs id _ (HI.out.extN (exG0))) ?_
 rintro e x2 rfl
 rw [HH.out]
 go_wp2_with fail
 go_loopg [6, 7] 16 (fun n ov iv wr => ∃ (v : Value) (i : Nat) (z : EW Non w), v = ov ∧ i ≤ 16 ∧ n = 16 - i ∧ iv = .int .i64 i ∧ wr = z.on ∧ Hid (wr.ownsRow w.heap.size 3 1 v (joinT xs id i).length ((joinT xs id i).map (Value.int .i64))))
 case atStart => exact ⟨_, 0, ⟨_, exG0⟩, rfl, Nat.zero_le _, rfl, rfl, rfl, hI_ (World.ownsRow_nil _ _ _ _)⟩
 case round =>
  obtain ⟨v, i, z, rfl, hi, hn, rfl, rfl, HO⟩ := hrel
  have HN := hI_ hn; clear hn
  have hzz : w.heap.size ≤ z.on.heap.size := z.ext.size
  by_cases hlt : i < 16
  ·have hs := joinT_succ xs id i
   have hlen := joinT_len xs id i
   have wi : IntKind.i64.wrap ((i : Int) + 1) = (i : Int) + 1 := IntWalk.i64_in _ (by omega)
   have dl : decide ((i : Int) < 16) = true := decide_eq_true (by omega)
   generalize joinT xs id i = out at *
   by_cases hid2 : (i : Int) = id
   ·have HS : Hid (joinT xs id (i + 1) = out ++ [(i : Int)]) := hI_ (by rw [hs, if_pos (by simp [hid2])])
    have hb : ((i : Int) == id) = true := by simpa using hid2
    clear hs hid2
    go_wp2_with (at_builtin; refine wpList_append_rowB rfl _ _ 22 rfl w.heap.size 3 1 8 _ Tryz.underlying22 info_int (by rfl) (by omega) v _ _ rfl (ownR_extN HO.out (exG0)) z.on.heap.size [Value.int .i64 (i : Int)] 3 rfl (Bx.newAt _ _ _ _ rfl) rfl (by simp [Value.oneCell']) (by omega) (by omega) (by simp; omega) (fun v5 W5 hO hrow => ?_); have HO5 := hI_ hO; clear hO hrow)
    have XA5 : Ext Non w (z.on.alloc (.cells [Value.int .i64 (i : Int)].toArray 3)) := exG0
    have XF5 := XA5.step W5.ext (fun j hj q => by have := (own_row HO.out j q).1; omega)
    go_roundg (16 - (i + 1))
    case measure => have := HN.out; omega
    case rel => exact ⟨_, i + 1, ⟨_, XF5⟩, rfl, hlt, rfl, by go_num, rfl, hI_ (by rw [HS.out, ic_snoc, List.length_append]; exact HO5.out)⟩
   ·have hb : ((i : Int) == id) = false := by simpa using hid2
    cases hq : hasB xs (i : Int)
    ·have HS : Hid (joinT xs id (i + 1) = out) := hI_ (by rw [hs, if_neg (by simp [hid2, hq])]; simp)
     have HQ := hI_ hq
     clear hs hq
     go_wp2_with fail
     refine Calls.ewD (ref_Has a cap xs (i : Int) _ (HI.out.extN (exG0))) ?_
     rintro e x3 rfl
     rw [HQ.out]
     go_wp2_with fail
     go_roundg (16 - (i + 1))
     case measure => have := HN.out; omega
     case rel => exact ⟨_, i + 1, ⟨_, exG0⟩, rfl, hlt, rfl, by go_num, rfl, hI_ (by rw [HS.out]; exact ownR_extN HO.out (exG0))⟩
    ·have HS : Hid (joinT xs id (i + 1) = out ++ [(i : Int)]) := hI_ (by rw [hs, if_pos (by simp [hq])])
     have HQ := hI_ hq
     clear hs hq
     go_wp2_with fail
     refine Calls.ewD (ref_Has a cap xs (i : Int) _ (HI.out.extN (exG0))) ?_
     rintro e x3 rfl
     rw [HQ.out]
     have hz3 : w.heap.size ≤ x3.on.heap.size := by have := x3.ext.size; omega
     go_wp2_with (at_builtin; refine wpList_append_rowB rfl _ _ 22 rfl w.heap.size 3 1 8 _ Tryz.underlying22 info_int (by rfl) (by omega) v _ _ rfl (ownR_extN HO.out (exG0)) x3.on.heap.size [Value.int .i64 (i : Int)] 3 rfl (Bx.newAt _ _ _ _ rfl) rfl (by simp [Value.oneCell']) (by omega) (by omega) (by simp; omega) (fun v5 W5 hO hrow => ?_); have HO5 := hI_ hO; clear hO hrow)
     have XA5 : Ext Non w (x3.on.alloc (.cells [Value.int .i64 (i : Int)].toArray 3)) := exG0
     have XF5 := XA5.step W5.ext (fun j hj q => by have := (own_row HO.out j q).1; omega)
     go_roundg (16 - (i + 1))
     case measure => have := HN.out; omega
     case rel => exact ⟨_, i + 1, ⟨_, XF5⟩, rfl, hlt, rfl, by go_num, rfl, hI_ (by rw [HS.out, ic_snoc, List.length_append]; exact HO5.out)⟩
  ·obtain rfl : i = 16 := by omega
   have ho := HO.out
   rw [HJ.out] at ho
   obtain ⟨ra, rc, rfl, hI, hF⟩ := Ints.ofOwn ho (fun x hx => by have := (members_facts HJM.out).1 x hx; unfold I64; omega)
   have HRI := hI_ hI; have HRF := hI_ hF
   clear ho hI hF HO
   go_wp2
   go_returns
   exact ⟨ra, rc, rfl, exG0, HRI.out, HRF.out⟩
set_option maxHeartbeats 2000000 in
set_option maxRecDepth 100000 in
theorem ref07_Leave_no (a : Option Addr) (cap : Nat) (xs : List Int) (hm : membersB xs = true) (id : Int) (he : leaveE xs id ≠ 0) (w : World) (h : Ints w a cap xs) : Calls Tryz.prog 98 #[.slice a xs.length cap, .int .i64 id] w fun e w' =>
  e = .returned (.tuple #[.slice none 0 0, .int .i64 (leaveE xs id)]) ∧ Ext Non w w' := by
 have HI := hI_ h
 have hj := leaveE_of hm id
 have HM := hI_ hm
 have h4 := (members_facts hm).2.2.1
 clear h hm
 by_cases h0 : id < 0
 ·have HE : Hid (leaveE xs id = 1) := hI_ (by rw [hj, if_neg (by omega)])
  have d0 : decide (id < 0) = true := decide_eq_true h0
  clear hj he
  go_enter Tryz.func98, Tryz.ntmps98
  go_wp2_with fail
  refine Calls.ew (ref_Members a cap xs _ (HI.out.extN (exG0))) ?_
  rintro e x1 rfl
  rw [HM.out]
  go_wp2
  go_returns
  exact ⟨by rw [HE.out]; rfl, exG0⟩
 ·have d0 : decide (id < 0) = false := decide_eq_false h0
  by_cases h16 : 16 ≤ id
  ·have HE : Hid (leaveE xs id = 1) := hI_ (by rw [hj, if_neg (by omega)])
   have d16 : decide (16 ≤ id) = true := decide_eq_true h16
   clear hj he
   go_enter Tryz.func98, Tryz.ntmps98
   go_wp2_with fail
   refine Calls.ew (ref_Members a cap xs _ (HI.out.extN (exG0))) ?_
   rintro e x1 rfl
   rw [HM.out]
   go_wp2
   go_returns
   exact ⟨by rw [HE.out]; rfl, exG0⟩
  ·have d16 : decide (16 ≤ id) = false := decide_eq_false h16
   rw [if_pos (by omega)] at hj
   cases hh : hasB xs id
   ·have HE : Hid (leaveE xs id = 8) := hI_ (by rw [hj, hh]; rfl)
    have HH := hI_ hh
    clear hj he hh
    go_enter Tryz.func98, Tryz.ntmps98
    go_wp2_with fail
    refine Calls.ew (ref_Members a cap xs _ (HI.out.extN (exG0))) ?_
    rintro e x1 rfl
    rw [HM.out]
    go_wp2_with fail
    refine Calls.ewD (ref_Has a cap xs id _ (HI.out.extN (exG0))) ?_
    rintro e x2 rfl
    rw [HH.out]
    go_wp2
    go_returns
    exact ⟨by rw [HE.out]; rfl, exG0⟩
   ·rw [if_pos hh] at hj
    by_cases hl : xs.length = 4
    ·have HE : Hid (leaveE xs id = 9) := hI_ (by rw [hj, if_pos hl])
     have HH := hI_ hh
     have d10 : decide ((xs.length : Int) ≤ 4) = true := decide_eq_true (by omega)
     clear hj he hh hl
     go_enter Tryz.func98, Tryz.ntmps98
     go_wp2_with fail
     refine Calls.ew (ref_Members a cap xs _ (HI.out.extN (exG0))) ?_
     rintro e x1 rfl
     rw [HM.out]
     go_wp2_with fail
     refine Calls.ewD (ref_Has a cap xs id _ (HI.out.extN (exG0))) ?_
     rintro e x2 rfl
     rw [HH.out]
     go_wp2
     go_returns
     exact ⟨by rw [HE.out]; rfl, exG0⟩
    ·exact absurd (by rw [hj, if_neg hl]) he
set_option maxHeartbeats 2000000 in
set_option maxRecDepth 100000 in
theorem ref07_Leave_ok (a : Option Addr) (cap : Nat) (xs : List Int) (id : Int) (he : leaveE xs id = 0) (hm : membersB xs = true) (w : World) (h : Ints w a cap xs) : Calls Tryz.prog 98 #[.slice a xs.length cap, .int .i64 id] w fun e w' =>
  ∃ a' cap', e = .returned (.tuple #[.slice a' (leaveL xs id).length cap', .int .i64 0]) ∧ Ext Non w w' ∧ Ints w' a' cap' (leaveL xs id) ∧ fresh w.heap.size w' a' := by
 have HI := hI_ h
 have hj := leaveE_of hm id
 have HM := hI_ hm
 have h10 := (members_facts hm).2.2.2
 have hls := h.small; have hlc := h.le
 have HJM := hI_ (leave_members he)
 rw [he] at hj
 have hid : 0 ≤ id ∧ id < 16 := by
  rcases Classical.em (0 ≤ id ∧ id < 16) with q | q
  ·exact q
  ·rw [if_neg q] at hj; cases hj
 rw [if_pos hid] at hj
 have hh : hasB xs id = true := by
  cases q : hasB xs id
  ·rw [q] at hj; simp at hj
  ·rfl
 rw [if_pos hh] at hj
 have hl : xs.length ≠ 4 := fun q => by rw [if_pos q] at hj; cases hj
 have h4 := (members_facts hm).2.2.1
 have HH := hI_ hh
 have HJ : Hid (xs.filter (fun x => x != id) = leaveL xs id) := hI_ (by unfold leaveL; rw [if_pos he])
 have HTK : Hid (∀ i (hi : i < xs.length), (xs.take (i + 1)).filter (fun x => x != id) = (xs.take i).filter (fun x => x != id) ++ (if xs[i] ≠ id then [xs[i]] else [])) := hI_ (fun i hi => by
  rw [List.take_succ_eq_append_getElem hi, List.filter_append]
  congr 1
  by_cases q : xs[i] = id
  ·rw [if_neg (by simpa using q), List.filter_cons_of_neg (by simpa using q)]; rfl
  ·rw [if_pos q, List.filter_cons_of_pos (by simpa using q)]; rfl)
 have HLE : Hid (∀ i, ((xs.take i).filter (fun x => x != id)).length ≤ i) := hI_ (fun i => Nat.le_trans (List.length_filter_le _ _) (by rw [List.length_take]; omega))
 have d0 : decide (id < 0) = false := decide_eq_false (by omega)
 have d16 : decide (16 ≤ id) = false := decide_eq_false (by omega)
 have d10 : decide ((xs.length : Int) ≤ 4) = false := decide_eq_false (by omega)
 clear h hm hj he hh hl
 obtain ⟨ll, hll⟩ : ∃ ll, ll = leaveL xs id := ⟨_, rfl⟩
 rw [← hll] at HJ HJM ⊢
 have HLL := hI_ hll
 clear hll
 go_enter Tryz.func98, Tryz.ntmps98
 go_wp2_with fail
 refine Calls.ew (ref_Members a cap xs _ (HI.out.extN (exG0))) ?_
 rintro e x1 rfl
 rw [HM.out]
 go_wp2_with fail
 refine Calls.ewD (ref_Has a cap xs id _ (HI.out.extN (exG0))) ?_
 rintro e x2 rfl
 rw [HH.out]
 go_wp2_with fail
 go_loopg [6, 7] xs.length (fun n ov iv wr => ∃ (v : Value) (i : Nat) (z : EW Non w), v = ov ∧ i ≤ xs.length ∧ n = xs.length - i ∧ iv = .int .i64 i ∧ wr = z.on ∧ Hid (wr.ownsRow w.heap.size 3 1 v ((xs.take i).filter (fun x => x != id)).length (((xs.take i).filter (fun x => x != id)).map (Value.int .i64))))
 case atStart => exact ⟨_, 0, ⟨_, exG0⟩, rfl, Nat.zero_le _, rfl, rfl, rfl, hI_ (World.ownsRow_nil _ _ _ _)⟩
 case round =>
  obtain ⟨v, i, z, rfl, hi, hn, rfl, rfl, HO⟩ := hrel
  have HN := hI_ hn; clear hn
  have hzz : w.heap.size ≤ z.on.heap.size := z.ext.size
  by_cases hlt : i < xs.length
  ·have hs := HTK.out i hlt
   have hlen := HLE.out i
   obtain ⟨ab, ao, rfl, hcell, -⟩ := HI.out.at_ i hlt
   generalize (xs.take i).filter (fun x => x != id) = out at *
   generalize xs[i] = x at *
   by_cases hid2 : x = id
   ·have HS : Hid ((xs.take (i + 1)).filter (fun x => x != id) = out) := hI_ (by rw [hs, if_neg (by simp [hid2])]; simp)
    have hb : (x != id) = false := by simpa using hid2
    clear hs hid2
    go_wp2_with fail
    go_roundg (xs.length - (i + 1))
    case measure => have := HN.out; omega
    case rel => exact ⟨_, i + 1, ⟨_, exG0⟩, rfl, hlt, rfl, by go_num, rfl, hI_ (by rw [HS.out]; exact ownR_extN HO.out (exG0))⟩
   ·have HS : Hid ((xs.take (i + 1)).filter (fun x => x != id) = out ++ [x]) := hI_ (by rw [hs, if_pos hid2])
    have hb : (x != id) = true := by simpa using hid2
    clear hs hid2
    go_wp2_with (at_builtin; refine wpList_append_rowB rfl _ _ 22 rfl w.heap.size 3 1 8 _ Tryz.underlying22 info_int (by rfl) (by omega) v _ _ rfl (ownR_extN HO.out (exG0)) z.on.heap.size [Value.int .i64 x] 3 rfl (Bx.newAt _ _ _ _ rfl) rfl (by simp [Value.oneCell']) (by omega) (by omega) (by simp; omega) (fun v5 W5 hO hrow => ?_); have HO5 := hI_ hO; clear hO hrow)
    have XA5 : Ext Non w (z.on.alloc (.cells [Value.int .i64 x].toArray 3)) := exG0
    have XF5 := XA5.step W5.ext (fun j hj q => by have := (own_row HO.out j q).1; omega)
    go_roundg (xs.length - (i + 1))
    case measure => have := HN.out; omega
    case rel => exact ⟨_, i + 1, ⟨_, XF5⟩, rfl, hlt, rfl, by go_num, rfl, hI_ (by rw [HS.out, ic_snoc, List.length_append]; exact HO5.out)⟩
  ·obtain rfl : i = xs.length := by omega
   have ho := HO.out
   rw [List.take_length, HJ.out] at ho
   obtain ⟨ra, rc, rfl, hI, hF⟩ := Ints.ofOwn ho (fun x hx => by have := (members_facts HJM.out).1 x hx; unfold I64; omega)
   have HRI := hI_ hI; have HRF := hI_ hF
   clear ho hI hF HO
   go_wp2
   go_returns
   exact ⟨ra, rc, rfl, exG0, HRI.out, HRF.out⟩
end Go.Proofs.YtfefeepljbfcdaaGreat
