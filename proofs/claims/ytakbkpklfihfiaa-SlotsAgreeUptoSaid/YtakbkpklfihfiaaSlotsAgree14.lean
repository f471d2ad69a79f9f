/- The law SlotsAgree: the walk. -/
import Derived.Test.YtakbkpklfihfiaaSlotsFirst14
import Derived.Test.YtakbkpklfihfiaaSlots15
import Derived.Test.YtakbkpklfihfiaaJoinB
namespace Go.Proofs.Ytakbkpklfihfiaa
open Go.RowKit Go.Lib F64
set_option linter.unusedSimpArgs false
set_option linter.unusedVariables false
attribute [local go_sem] run_store_float
attribute [local go_sem low] EW.cellN EW.frozN alloc_cell_or alloc_froz_or EW.cellF EW.frozF EW.cell1 EW.froz1
attribute [local go_sem] relAt relUpon
/-- What stands in memory while two logs hear what they hear: what was said, both logs, the boxes. -/
structure AgW (w0 : World) (cf sc : List Value) (w : World) (v : Value) (sd : List Stp) (ba : Nat) (Ga : Nat → Prop) (ga : Lo) (bb : Nat) (Gb : Nat → Prop) (gb : Lo) : Prop where
  row : w.ownsRow (w0.heap.size + 2) 75 11 v sd.length (sd.flatMap Stp.cells)
  ok : ∀ q ∈ sd, q.ok
  la : LoW w ba Ga ga
  lb : LoW w bb Gb gb
  dj : ∀ j, LoF ba Ga j → ¬ LoF bb Gb j
  da : ∀ j, LoF ba Ga j → w0.heap.size + 2 ≤ j ∧ ¬ Row v j
  db : ∀ j, LoF bb Gb j → w0.heap.size + 2 ≤ j ∧ ¬ Row v j
  bc : Bx w w0.heap.size cf 34
  bs : Bx w (w0.heap.size + 1) sc 70
section
variable {w0 : World} {cf sc : List Value} {w w' : World} {v : Value} {sd : List Stp} {ba : Nat} {Ga : Nat → Prop} {ga : Lo} {bb : Nat} {Gb : Nat → Prop} {gb : Lo}
theorem AgW.extN (h : AgW w0 cf sc w v sd ba Ga ga bb Gb gb) (x : Ext Non w w') : AgW w0 cf sc w' v sd ba Ga ga bb Gb gb :=
  ⟨ownR_extN h.row x, h.ok, h.la.extN x, h.lb.extN x, h.dj, h.da, h.db, h.bc.extN x, h.bs.extN x⟩
theorem LoF.lt (h : LoW w ba Ga ga) {j : Nat} (hj : LoF ba Ga j) : j < w.heap.size := by
  rcases hj with rfl | hj
  · exact h.bl
  · exact h.lt j hj
theorem AgW.callA (h : AgW w0 cf sc w v sd ba Ga ga bb Gb gb) {Ga' : Nat → Prop} {ga' : Lo} (x : Ext (LoF ba Ga) w w') (hl : LoW w' ba Ga' ga') (hg : ∀ k, Ga' k → Ga k ∨ w.heap.size ≤ k) : AgW w0 cf sc w' v sd ba Ga' ga' bb Gb gb := by
  have hs : w0.heap.size + 2 ≤ w.heap.size := by have := h.bs.lt; omega
  have hF : ∀ j, LoF ba Ga' j → LoF ba Ga j ∨ w.heap.size ≤ j := fun j hj => by
    rcases hj with rfl | hj
    · exact .inl (.inl rfl)
    · rcases hg j hj with q | q
      · exact .inl (.inr q)
      · exact .inr q
  refine ⟨ownR_ext h.row x (fun k hk e => (h.da k e).2 hk), h.ok, hl, h.lb.ext x (fun k hk e => h.dj k e hk), fun j hj hb => ?_, fun j hj => ?_, h.db, h.bc.ext x (fun e => by have := (h.da _ e).1; omega), h.bs.ext x (fun e => by have := (h.da _ e).1; omega)⟩
  · rcases hF j hj with q | q
    · exact h.dj j q hb
    · have := LoF.lt h.lb hb; omega
  · rcases hF j hj with q | q
    · exact h.da j q
    · exact ⟨by omega, fun e => by have := (own_row h.row j e).2; omega⟩
theorem AgW.callB (h : AgW w0 cf sc w v sd ba Ga ga bb Gb gb) {Gb' : Nat → Prop} {gb' : Lo} (x : Ext (LoF bb Gb) w w') (hl : LoW w' bb Gb' gb') (hg : ∀ k, Gb' k → Gb k ∨ w.heap.size ≤ k) : AgW w0 cf sc w' v sd ba Ga ga bb Gb' gb' := by
  have hs : w0.heap.size + 2 ≤ w.heap.size := by have := h.bs.lt; omega
  have hF : ∀ j, LoF bb Gb' j → LoF bb Gb j ∨ w.heap.size ≤ j := fun j hj => by
    rcases hj with rfl | hj
    · exact .inl (.inl rfl)
    · rcases hg j hj with q | q
      · exact .inl (.inr q)
      · exact .inr q
  refine ⟨ownR_ext h.row x (fun k hk e => (h.db k e).2 hk), h.ok, h.la.ext x (fun k hk e => h.dj k hk e), hl, fun j hj hb => ?_, h.da, fun j hj => ?_, h.bc.ext x (fun e => by have := (h.db _ e).1; omega), h.bs.ext x (fun e => by have := (h.db _ e).1; omega)⟩
  · rcases hF j hb with q | q
    · exact h.dj j hj q
    · have := LoF.lt h.la hj; omega
  · rcases hF j hj with q | q
    · exact h.db j q
    · exact ⟨by omega, fun e => by have := (own_row h.row j e).2; omega⟩
theorem AgW.app (h : AgW w0 cf sc w v sd ba Ga ga bb Gb gb) {v' : Value} {o : Stp} (ho : o.ok) (x : Ext (Row v) w w') (hr : w'.ownsRow (w0.heap.size + 2) 75 11 v' (sd.length + 1) (sd.flatMap Stp.cells ++ o.cells)) (hv : ∀ k, Row v' k → Row v k ∨ w.heap.size ≤ k) : AgW w0 cf sc w' v' (sd ++ [o]) ba Ga ga bb Gb gb := by
  refine ⟨by rw [List.length_append, List.flatMap_append]; simpa using hr, fun q hq => ?_, h.la.ext x (fun k hk e => (h.da k hk).2 e), h.lb.ext x (fun k hk e => (h.db k hk).2 e), h.dj, fun j hj => ⟨(h.da j hj).1, fun e => ?_⟩, fun j hj => ⟨(h.db j hj).1, fun e => ?_⟩, h.bc.ext x (fun e => by have := (own_row h.row _ e).1; omega), h.bs.ext x (fun e => by have := (own_row h.row _ e).1; omega)⟩
  · rcases List.mem_append.1 hq with hq | hq
    · exact h.ok q hq
    · simp at hq; subst hq; exact ho
  · rcases hv j e with q | q
    · exact (h.da j hj).2 q
    · have := LoF.lt h.la hj; omega
  · rcases hv j e with q | q
    · exact (h.db j hj).2 q
    · have := LoF.lt h.lb hj; omega
end
theorem AgW.one {w0 : World} {cf sc : List Value} {w w' : World} {v : Value} {sd : List Stp} {ba : Nat} {Ga : Nat → Prop} {ga : Lo} {bb : Nat} {Gb : Nat → Prop} {gb : Lo} (h : AgW w0 cf sc w v sd ba Ga ga bb Gb gb) {k : Nat} (x : Ext (One k) w w') (h0 : w0.heap.size + 2 ≤ k) (hr : ¬ Row v k) (h1 : ¬ LoF ba Ga k) (h2 : ¬ LoF bb Gb k) : AgW w0 cf sc w' v sd ba Ga ga bb Gb gb := by
  have e : ∀ j, One k j → j = k := fun j h => h
  exact ⟨ownR_ext h.row x (fun j hj q => hr (by rw [← e j q]; exact hj)), h.ok, h.la.ext x (fun j hj q => h1 (by rw [← e j q]; exact hj)), h.lb.ext x (fun j hj q => h2 (by rw [← e j q]; exact hj)), h.dj, h.da, h.db, h.bc.ext x (fun q => by have := e _ q; omega), h.bs.ext x (fun q => by have := e _ q; omega)⟩
theorem range1 {w : World} {k o : Nat} {a : Value} (h : w.cell? ⟨k, o, none⟩ = some a) : w.rangeAt k o [a] := fun j v hv => by
  match j, hv with
  | 0, hv => simp at hv; subst hv; exact h
  | j + 1, hv => simp at hv
theorem agree_ways {P : Prop} {kd : Int} {h : Bool} (a : kd ≠ 2 → P) (b : kd = 2 → h = true → P) (c : kd = 2 → h = false → P) : P := by
  by_cases e : kd = 2
  · cases h
    · exact c e rfl
    · exact b e rfl
  · exact a e
theorem flatS_get : ∀ (l : List Stp) (j i : Nat) (h : j < l.length), i < 11 → (l.flatMap Stp.cells)[j * 11 + i]? = (l[j]).cells[i]?
  | a :: t, 0, i, _, hi => by
    rw [List.flatMap_cons, List.getElem?_append_left (by simp [Stp.cells]; omega), Nat.zero_mul, Nat.zero_add]; rfl
  | a :: t, j + 1, i, h, hi => by
    have e : (j + 1) * 11 + i = 11 + (j * 11 + i) := by rw [Nat.add_mul]; omega
    have hl : a.cells.length = 11 := rfl
    rw [List.flatMap_cons, List.getElem?_append_right (by rw [hl]; omega), hl, show (j + 1) * 11 + i - 11 = j * 11 + i by omega]
    exact flatS_get t j i (by simpa using h) hi
theorem stps_of_own {w : World} {base : Nat} {e : TypeId} {v : Value} (l : List Stp) (ok : ∀ q ∈ l, q.ok) (h : w.ownsRow base e 11 v l.length (l.flatMap Stp.cells)) : ∃ a cap, v = .slice a l.length cap ∧ Stps w a cap l := by
  rcases h.2 with ⟨rfl, hn⟩ | ⟨g, cap, cur, rfl, hb, hg, hc, hm, hs, ht⟩
  · exact ⟨none, 0, by rw [hn], by omega, by omega, fun j hj => by omega⟩
  · refine ⟨_, cap, rfl, hc, by unfold maxLen at hm; omega, fun j hj => ⟨g, 0, rfl, (Array.getElem?_eq_some_iff.1 hg).1, fun i u hu => ?_, ok _ (by rw [stAt_get hj]; exact List.getElem_mem hj)⟩⟩
    rw [stAt_get hj] at hu
    have hi : i < 11 := (List.getElem?_eq_some_iff.1 hu).1
    have q := flatS_get l j i hj hi
    have hlt : j * 11 + i < l.length * 11 := by omega
    rw [hu, ← ht, List.getElem?_take, if_pos (by omega), Array.getElem?_toList] at q
    have hgc : w.cell? ⟨g, j * 11 + i, none⟩ = cur[j * 11 + i]? := by simp [World.cell?, hg]
    rw [Nat.zero_add, hgc]; exact q
theorem info_op3 : (Try.prog.info? 75).map (fun i => (i.zero, i.size, i.bytes)) = some (some (.agg #[.int .i64 0, .int .i64 0, .int .i64 0, .int .i64 0, .int .i64 0, .int .i64 0, .int .i64 0, .string ByteArray.empty, .int .u64 0, .int .i64 0, .bool false]), 11, 96) := by kernel_rfl
theorem info_ask14 : (Try.prog.info? 57).map (·.size) = some 6 := by kernel_rfl
theorem first_mem {sd : List Stp} {f n : Int} {q : Stp} (h : firstN sd f n = some q) : q ∈ sd := List.mem_of_find?_eq_some h
set_option maxHeartbeats 8000000 in
set_option maxRecDepth 100000 in
theorem walk_SlotsAgree (ep : Int) (hie : I64 ep) (a : Option Addr) (cap : Nat) (xs : List Int) (da : Option Addr) (dcap : Nat) (bad : List Int) (p0 : Option Addr) (c0 : Nat) (l0 : List Stp) (p1 : Option Addr) (c1 : Nat) (l1 : List Stp) (hlim : l0.length + l1.length ≤ 1000000)
    (w : World) (hi : Ints w a cap xs) (hd : Ints w da dcap bad) (hs0 : Stps w p0 c0 l0) (hs1 : Stps w p1 c1 l1) :
    Calls Try.prog 9 #[.agg #[.int .i64 ep, .slice a xs.length cap], .slice da bad.length dcap, .agg #[.slice p0 l0.length c0, .slice p1 l1.length c1]] w fun e w' => e = .returned (.bool true) ∧ Ext Non w w' := by
  have HI := Go.Lib.hid hi; have HB := Go.Lib.hid hd; have HS0 := Go.Lib.hid hs0; have HS1 := Go.Lib.hid hs1
  have HE := Go.Lib.hid hie
  have s1 := hi.small; have s2 := hi.le
  clear hi hd hs0 hs1 hie
  by_cases hc : confB ep xs = true
  · have HC := Go.Lib.hid hc; clear hc
    go_enter Try.func9, Try.ntmps9
    go_wp2_with fail
    have BC0 := Go.Lib.hid ((Bx.newAt w [.int .i64 ep, .slice a xs.length cap] 34 _ rfl).alloc (.cells #[.slice p0 l0.length c0, .slice p1 l1.length c1] 70))
    have BS0 := Go.Lib.hid (Bx.newAt (w.alloc (.cells #[.int .i64 ep, .slice a xs.length cap] 34)) [.slice p0 l0.length c0, .slice p1 l1.length c1] 70 (w.heap.size + 1) (by simp))
    refine Calls.ew (law14_lives _) ?_
    rintro e x1 rfl
    have X1 : Ext Non w x1.on := by (repeat (first | with_reducible exact Ext.refl _ _ | assumption | with_reducible refine Ext.upN ?_ | with_reducible refine Ext.alloc ?_ _ | with_reducible refine Ext.upA (by assumption) ?_ | with_reducible refine Ext.upW ?_ | with_reducible refine Ext.drew ?_ | with_reducible refine Ext.drewN ?_ _ | with_reducible refine Ext.upF ?_ | with_reducible refine Ext.upFF (by first | omega | simp) ?_ | with_reducible refine Ext.setCellsF _ _ _ (by first | omega | simp) ?_ | with_reducible refine Ext.setCellF _ _ _ (by first | omega | simp) ?_ | with_reducible refine Ext.upFN (by first | omega | simp) ?_ | with_reducible refine Ext.up1F (by first | omega | simp) ?_ | with_reducible refine Ext.up1N (by first | omega | simp) ?_ | with_reducible refine Ext.setCell ?_ (.inr (by first | omega | simp)) _ | refine Ext.alloc ?_ _ | refine Ext.setCellF _ _ _ (by first | omega | simp) ?_ | refine Ext.setCell ?_ (.inr (by first | omega | simp)) _))
    have BC1 := Go.Lib.hid (BC0.out.extN x1.ext)
    have BS1 := Go.Lib.hid (BS0.out.extN x1.ext)
    clear BC0 BS0
    go_wp2_with fail
    refine (slots_New ep a cap xs HC.out _ (HI.out.extN X1)).mono ?_
    rintro e _ ⟨ba, Ga, rfl, hLa, hFa, hx⟩
    obtain ⟨x2, rfl⟩ := hx.ew
    have HLa := Go.Lib.hid hLa
    have HFa := Go.Lib.hid hFa
    clear hLa hx hFa
    go_wp2_with fail
    refine (slots_New ep a cap xs HC.out _ (HI.out.extN (by (repeat (first | with_reducible exact Ext.refl _ _ | assumption | with_reducible refine Ext.upN ?_ | with_reducible refine Ext.alloc ?_ _ | with_reducible refine Ext.upA (by assumption) ?_ | with_reducible refine Ext.upW ?_ | with_reducible refine Ext.drew ?_ | with_reducible refine Ext.drewN ?_ _ | with_reducible refine Ext.upF ?_ | with_reducible refine Ext.upFF (by first | omega | simp) ?_ | with_reducible refine Ext.setCellsF _ _ _ (by first | omega | simp) ?_ | with_reducible refine Ext.setCellF _ _ _ (by first | omega | simp) ?_ | with_reducible refine Ext.upFN (by first | omega | simp) ?_ | with_reducible refine Ext.up1F (by first | omega | simp) ?_ | with_reducible refine Ext.up1N (by first | omega | simp) ?_ | with_reducible refine Ext.setCell ?_ (.inr (by first | omega | simp)) _ | refine Ext.alloc ?_ _ | refine Ext.setCellF _ _ _ (by first | omega | simp) ?_ | refine Ext.setCell ?_ (.inr (by first | omega | simp)) _))))).mono ?_
    rintro e _ ⟨bb, Gb, rfl, hLb, hFb, hx⟩
    obtain ⟨x3, rfl⟩ := hx.ew
    have h12 := x2.ext.size
    have hsz1 := BS1.out.lt
    have HW3 : Hid (AgW w [.int .i64 ep, .slice a xs.length cap] [.slice p0 l0.length c0, .slice p1 l1.length c1] x3.on (.slice none 0 0) [] ba Ga (newLo ep xs) bb Gb (newLo ep xs)) := Go.Lib.hid ⟨World.ownsRow_nil _ _ _ _, fun q hq => absurd hq List.not_mem_nil, HLa.out.extN x3.ext, hLb, fun j h1 h2 => by have := LoF.lt HLa.out h1; have := hFb j h2; omega, fun j h => ⟨by have := HFa.out j h; omega, fun e => by cases e⟩, fun j h => ⟨by have := hFb j h; omega, fun e => by cases e⟩, BC1.out.extN (by (repeat (first | with_reducible exact Ext.refl _ _ | assumption | with_reducible refine Ext.upN ?_ | with_reducible refine Ext.alloc ?_ _ | with_reducible refine Ext.upA (by assumption) ?_ | with_reducible refine Ext.upW ?_ | with_reducible refine Ext.drew ?_ | with_reducible refine Ext.drewN ?_ _ | with_reducible refine Ext.upF ?_ | with_reducible refine Ext.upFF (by first | omega | simp) ?_ | with_reducible refine Ext.setCellsF _ _ _ (by first | omega | simp) ?_ | with_reducible refine Ext.setCellF _ _ _ (by first | omega | simp) ?_ | with_reducible refine Ext.upFN (by first | omega | simp) ?_ | with_reducible refine Ext.up1F (by first | omega | simp) ?_ | with_reducible refine Ext.up1N (by first | omega | simp) ?_ | with_reducible refine Ext.setCell ?_ (.inr (by first | omega | simp)) _ | refine Ext.alloc ?_ _ | refine Ext.setCellF _ _ _ (by first | omega | simp) ?_ | refine Ext.setCell ?_ (.inr (by first | omega | simp)) _))), BS1.out.extN (by (repeat (first | with_reducible exact Ext.refl _ _ | assumption | with_reducible refine Ext.upN ?_ | with_reducible refine Ext.alloc ?_ _ | with_reducible refine Ext.upA (by assumption) ?_ | with_reducible refine Ext.upW ?_ | with_reducible refine Ext.drew ?_ | with_reducible refine Ext.drewN ?_ _ | with_reducible refine Ext.upF ?_ | with_reducible refine Ext.upFF (by first | omega | simp) ?_ | with_reducible refine Ext.setCellsF _ _ _ (by first | omega | simp) ?_ | with_reducible refine Ext.setCellF _ _ _ (by first | omega | simp) ?_ | with_reducible refine Ext.upFN (by first | omega | simp) ?_ | with_reducible refine Ext.up1F (by first | omega | simp) ?_ | with_reducible refine Ext.up1N (by first | omega | simp) ?_ | with_reducible refine Ext.setCell ?_ (.inr (by first | omega | simp)) _ | refine Ext.alloc ?_ _ | refine Ext.setCellF _ _ _ (by first | omega | simp) ?_ | refine Ext.setCell ?_ (.inr (by first | omega | simp)) _)))⟩
    have hep := conf_facts HC.out
    have he0 := hep.1; have he1 := hep.2.1; have hl10 := hep.2.2.2.1
    clear hLb hx hFb HLa HFa h12 hsz1 BC1 BS1 hep
    have X3 : Ext Non w x3.on := by (repeat (first | with_reducible exact Ext.refl _ _ | assumption | with_reducible refine Ext.upN ?_ | with_reducible refine Ext.alloc ?_ _ | with_reducible refine Ext.upA (by assumption) ?_ | with_reducible refine Ext.upW ?_ | with_reducible refine Ext.drew ?_ | with_reducible refine Ext.drewN ?_ _ | with_reducible refine Ext.upF ?_ | with_reducible refine Ext.upFF (by first | omega | simp) ?_ | with_reducible refine Ext.setCellsF _ _ _ (by first | omega | simp) ?_ | with_reducible refine Ext.setCellF _ _ _ (by first | omega | simp) ?_ | with_reducible refine Ext.upFN (by first | omega | simp) ?_ | with_reducible refine Ext.up1F (by first | omega | simp) ?_ | with_reducible refine Ext.up1N (by first | omega | simp) ?_ | with_reducible refine Ext.setCell ?_ (.inr (by first | omega | simp)) _ | refine Ext.alloc ?_ _ | refine Ext.setCellF _ _ _ (by first | omega | simp) ?_ | refine Ext.setCell ?_ (.inr (by first | omega | simp)) _))
    obtain ⟨x4, hx4⟩ := X3.ew
    rw [hx4] at HW3 ⊢
    clear hx4 X3 X1 x3 x2 x1
    go_wp2_with fail
    go_loopg [11, 12] xs.length (fun n bv iv wr => ∃ (i : Nat) (z : EW Non w), i ≤ xs.length ∧ n = xs.length - i ∧ bv = .int .i64 (kBad xs bad i : Nat) ∧ iv = .int .i64 i ∧ wr = z.on ∧ Hid (AgW w [.int .i64 ep, .slice a xs.length cap] [.slice p0 l0.length c0, .slice p1 l1.length c1] wr (.slice none 0 0) [] ba Ga (newLo ep xs) bb Gb (newLo ep xs)))
    case atStart => exact ⟨0, x4, Nat.zero_le _, rfl, rfl, rfl, rfl, HW3⟩
    case round =>
      clear HW3
      obtain ⟨i, z, hi, hn, rfl, rfl, rfl, HW⟩ := hrel
      have HN := Go.Lib.hid hn; clear hn
      have qc : z.on.cell? ⟨w.heap.size, 0, none⟩ = some (.int .i64 ep) := HW.out.bc.cell rfl
      have qc1 : z.on.cell? ⟨w.heap.size, 1, none⟩ = some (.slice a xs.length cap) := HW.out.bc.cell rfl
      have hkb := kBad_le xs bad i
      by_cases hlt : i < xs.length
      · --D[
        obtain ⟨mb, mo, rfl, hc0, hc1⟩ := HI.out.at_ i hlt
        have HS : Hid (kBad xs bad (i + 1) = if hasB bad xs[i] = true then kBad xs bad i + 1 else kBad xs bad i) := Go.Lib.hid (by
          show (if hasB bad (xs.getD i 0) = true then kBad xs bad i + 1 else kBad xs bad i) = _
          rw [List.getD_eq_getElem?_getD, List.getElem?_eq_getElem hlt]; rfl)
        generalize xs[i] = m at *
        generalize kBad xs bad i = kb at *
        clear hc1
        go_wp2_with fail
        refine Calls.ew (law14_has da dcap bad m _ (HB.out.extN (by (repeat (first | with_reducible exact Ext.refl _ _ | assumption | with_reducible refine Ext.upN ?_ | with_reducible refine Ext.alloc ?_ _ | with_reducible refine Ext.upA (by assumption) ?_ | with_reducible refine Ext.upW ?_ | with_reducible refine Ext.drew ?_ | with_reducible refine Ext.drewN ?_ _ | with_reducible refine Ext.upF ?_ | with_reducible refine Ext.upFF (by first | omega | simp) ?_ | with_reducible refine Ext.setCellsF _ _ _ (by first | omega | simp) ?_ | with_reducible refine Ext.setCellF _ _ _ (by first | omega | simp) ?_ | with_reducible refine Ext.upFN (by first | omega | simp) ?_ | with_reducible refine Ext.up1F (by first | omega | simp) ?_ | with_reducible refine Ext.up1N (by first | omega | simp) ?_ | with_reducible refine Ext.setCell ?_ (.inr (by first | omega | simp)) _ | refine Ext.alloc ?_ _ | refine Ext.setCellF _ _ _ (by first | omega | simp) ?_ | refine Ext.setCell ?_ (.inr (by first | omega | simp)) _))))) ?_
        rintro e z1 rfl
        have HW1 := Go.Lib.hid (HW.out.extN z1.ext)
        cases hh : hasB bad m
        · have HH := Go.Lib.hid hh; clear hh
          go_wp2_with fail
          go_roundg (xs.length - (i + 1))
          case measure => have := HN.out; omega
          case rel => exact ⟨i + 1, ⟨_, by (repeat (first | with_reducible exact Ext.refl _ _ | assumption | with_reducible refine Ext.upN ?_ | with_reducible refine Ext.alloc ?_ _ | with_reducible refine Ext.upA (by assumption) ?_ | with_reducible refine Ext.upW ?_ | with_reducible refine Ext.drew ?_ | with_reducible refine Ext.drewN ?_ _ | with_reducible refine Ext.upF ?_ | with_reducible refine Ext.upFF (by first | omega | simp) ?_ | with_reducible refine Ext.setCellsF _ _ _ (by first | omega | simp) ?_ | with_reducible refine Ext.setCellF _ _ _ (by first | omega | simp) ?_ | with_reducible refine Ext.upFN (by first | omega | simp) ?_ | with_reducible refine Ext.up1F (by first | omega | simp) ?_ | with_reducible refine Ext.up1N (by first | omega | simp) ?_ | with_reducible refine Ext.setCell ?_ (.inr (by first | omega | simp)) _ | refine Ext.alloc ?_ _ | refine Ext.setCellF _ _ _ (by first | omega | simp) ?_ | refine Ext.setCell ?_ (.inr (by first | omega | simp)) _))⟩, hlt, rfl, by rw [HS.out, HH.out]; rfl, by go_num, rfl, HW1⟩
        · have HH := Go.Lib.hid hh; clear hh
          go_wp2_with fail
          go_roundg (xs.length - (i + 1))
          case measure => have := HN.out; omega
          case rel => exact ⟨i + 1, ⟨_, by (repeat (first | with_reducible exact Ext.refl _ _ | assumption | with_reducible refine Ext.upN ?_ | with_reducible refine Ext.alloc ?_ _ | with_reducible refine Ext.upA (by assumption) ?_ | with_reducible refine Ext.upW ?_ | with_reducible refine Ext.drew ?_ | with_reducible refine Ext.drewN ?_ _ | with_reducible refine Ext.upF ?_ | with_reducible refine Ext.upFF (by first | omega | simp) ?_ | with_reducible refine Ext.setCellsF _ _ _ (by first | omega | simp) ?_ | with_reducible refine Ext.setCellF _ _ _ (by first | omega | simp) ?_ | with_reducible refine Ext.upFN (by first | omega | simp) ?_ | with_reducible refine Ext.up1F (by first | omega | simp) ?_ | with_reducible refine Ext.up1N (by first | omega | simp) ?_ | with_reducible refine Ext.setCell ?_ (.inr (by first | omega | simp)) _ | refine Ext.alloc ?_ _ | refine Ext.setCellF _ _ _ (by first | omega | simp) ?_ | refine Ext.setCell ?_ (.inr (by first | omega | simp)) _))⟩, hlt, rfl, by rw [HS.out, HH.out]; go_num, by go_num, rfl, HW1⟩
        --D]
      · obtain rfl : i = xs.length := by omega
        generalize hkbn : kBad xs bad xs.length = kb at *
        have HKB := Go.Lib.hid hkbn; clear hkbn
        go_wp2_with fail
        refine (council_Faults (xs.length : Int) (by omega) (by omega) _).mono ?_
        rintro e _ ⟨rfl, rfl⟩
        obtain ⟨F, hF⟩ : ∃ F : Nat, faultsI xs.length = F := ⟨(faultsI xs.length).toNat, by unfold faultsI; split <;> omega⟩
        have HF := Go.Lib.hid hF
        rw [hF]
        clear hF
        by_cases hbf : F < kb
        · go_wp2
          go_ret
          exact ⟨rfl, by (repeat (first | with_reducible exact Ext.refl _ _ | assumption | with_reducible refine Ext.upN ?_ | with_reducible refine Ext.alloc ?_ _ | with_reducible refine Ext.upA (by assumption) ?_ | with_reducible refine Ext.upW ?_ | with_reducible refine Ext.drew ?_ | with_reducible refine Ext.drewN ?_ _ | with_reducible refine Ext.upF ?_ | with_reducible refine Ext.upFF (by first | omega | simp) ?_ | with_reducible refine Ext.setCellsF _ _ _ (by first | omega | simp) ?_ | with_reducible refine Ext.setCellF _ _ _ (by first | omega | simp) ?_ | with_reducible refine Ext.upFN (by first | omega | simp) ?_ | with_reducible refine Ext.up1F (by first | omega | simp) ?_ | with_reducible refine Ext.up1N (by first | omega | simp) ?_ | with_reducible refine Ext.setCell ?_ (.inr (by first | omega | simp)) _ | refine Ext.alloc ?_ _ | refine Ext.setCellF _ _ _ (by first | omega | simp) ?_ | refine Ext.setCell ?_ (.inr (by first | omega | simp)) _))⟩
        have HKF : Hid ((kBad xs bad xs.length : Int) ≤ faultsI xs.length) := Go.Lib.hid (by rw [HKB.out, HF.out]; omega)
        clear HF HKB
        clear qc qc1 hkb
        go_wp2_with fail
        go_loopg [13, 14, 15, 16, 17, 18] 2 (fun n sv kv i15 i16 i17 i18 wr => ∃ (v : Value) (k : Nat) (sd : List Stp) (Ga Gb : Nat → Prop) (ga gb : Lo) (z : EW Non w), v = sv ∧ k ≤ 2 ∧ n = 2 - k ∧ kv = .int .i64 k ∧ wr = z.on ∧ (k = 0 → sd.length = 0) ∧ (k = 1 → sd.length ≤ l0.length) ∧ Hid (AgW w [.int .i64 ep, .slice a xs.length cap] [.slice p0 l0.length c0, .slice p1 l1.length c1] wr v sd ba Ga ga bb Gb gb) ∧ Hid ((LoI ga ∧ ga.ep = ep ∧ ga.mem = xs) ∧ (LoI gb ∧ gb.ep = ep ∧ gb.mem = xs) ∧ AgG bad sd ga ∧ AgG bad sd gb))
        case atStart => exact ⟨_, 0, [], Ga, Gb, newLo ep xs, newLo ep xs, z, rfl, by omega, rfl, rfl, rfl, fun _ => rfl, fun h => by omega, HW, Go.Lib.hid ⟨⟨newLo_inv HC.out, rfl, rfl⟩, ⟨newLo_inv HC.out, rfl, rfl⟩, newLo_ag _ _ _, newLo_ag _ _ _⟩⟩
        case round =>
          clear HW
          obtain ⟨v, k, sd, Ga, Gb, ga, gb, z, rfl, hk, hn, rfl, rfl, hk0, hk1, HW, HV⟩ := hrel
          have HN := Go.Lib.hid hn; clear hn
          by_cases hkl : k < 2
          · --D[
            obtain ⟨pa, pcap, l, HCL, HS, hll⟩ : ∃ pa pcap l, Hid ([Value.slice p0 l0.length c0, .slice p1 l1.length c1][k]? = some (.slice pa l.length pcap)) ∧ Hid (Stps w pa pcap l) ∧ sd.length + l.length ≤ 1000000 := by
              rcases (show k = 0 ∨ k = 1 by omega) with rfl | rfl
              · exact ⟨p0, c0, l0, Go.Lib.hid rfl, HS0, by have := hk0 rfl; omega⟩
              · exact ⟨p1, c1, l1, Go.Lib.hid rfl, HS1, by have := hk1 rfl; omega⟩
            have hnext : k = 0 → l.length = l0.length := fun e => by
              subst e
              have := HCL.out
              simp at this
              omega
            have HNE := Go.Lib.hid hnext
            have hpc := HS.out.small; have hpl := HS.out.le
            obtain ⟨n0, hn0⟩ : ∃ n0, n0 = sd.length := ⟨_, rfl⟩
            have HH0 : Hid ((k = 0 → n0 = 0) ∧ (k = 1 → n0 ≤ l0.length)) := Go.Lib.hid ⟨fun e => by rw [hn0]; exact hk0 e, fun e => by rw [hn0]; exact hk1 e⟩
            have hsd0 : sd.length ≤ n0 + 0 := by omega
            have hll0 : n0 + l.length ≤ 1000000 := by omega
            clear hn0 hk0 hk1 hnext hll
            have hd2 : decide ((k : Int) < 2) = true := decide_eq_true (by omega)
            go_wp2_with fail
            go_loopg [13, 15, 16, 17, 18] l.length (fun n sv iv i16 i17 i18 wr => ∃ (v : Value) (i : Nat) (sd : List Stp) (Ga Gb : Nat → Prop) (ga gb : Lo) (z : EW Non w), v = sv ∧ i ≤ l.length ∧ n = l.length - i ∧ iv = .int .i64 i ∧ wr = z.on ∧ sd.length ≤ n0 + i ∧ Hid (AgW w [.int .i64 ep, .slice a xs.length cap] [.slice p0 l0.length c0, .slice p1 l1.length c1] wr v sd ba Ga ga bb Gb gb) ∧ Hid ((LoI ga ∧ ga.ep = ep ∧ ga.mem = xs) ∧ (LoI gb ∧ gb.ep = ep ∧ gb.mem = xs) ∧ AgG bad sd ga ∧ AgG bad sd gb))
            case atStart => exact ⟨v, 0, sd, Ga, Gb, ga, gb, z, rfl, Nat.zero_le _, rfl, rfl, rfl, hsd0, HW, HV⟩
            case round =>
              clear HW HV hsd0
              obtain ⟨v, i, sd, Ga, Gb, ga, gb, z, rfl, hi, hin, rfl, rfl, hsd, HW, HV⟩ := hrel
              obtain ⟨va, vc, rfl, -⟩ := stps_of_own sd HW.out.ok HW.out.row
              have HIN := Go.Lib.hid hin; clear hin
              have qs : z.on.cell? ⟨w.heap.size + 1, k, none⟩ = some (.slice pa l.length pcap) := HW.out.bs.cell HCL.out
              by_cases hlt : i < l.length
              · obtain ⟨ob, oo, rfl, hob, ok, ook⟩ := HS.out.at_ i hlt
                generalize stAt l i = o at *
                have HO := Go.Lib.hid ook
                obtain ⟨k0, k1, k2, k3, kc, ks, kk, key, kb', kid, kw5⟩ := o
                have q0 : w.cell? ⟨ob, oo + i * 11, none⟩ = some (.int .i64 k0) := ok 0 _ rfl
                have q1 : w.cell? ⟨ob, oo + i * 11 + 1, none⟩ = some (.int .i64 k1) := ok 1 _ rfl
                have q2 : w.cell? ⟨ob, oo + i * 11 + 2, none⟩ = some (.int .i64 k2) := ok 2 _ rfl
                have q3 : w.cell? ⟨ob, oo + i * 11 + 3, none⟩ = some (.int .i64 k3) := ok 3 _ rfl
                have q4 : w.cell? ⟨ob, oo + i * 11 + 4, none⟩ = some (.int .i64 kc) := ok 4 _ rfl
                have q5 : w.cell? ⟨ob, oo + i * 11 + 5, none⟩ = some (.int .i64 ks) := ok 5 _ rfl
                have q6 : w.cell? ⟨ob, oo + i * 11 + 6, none⟩ = some (.int .i64 kk) := ok 6 _ rfl
                have q7 : w.cell? ⟨ob, oo + i * 11 + 7, none⟩ = some (.string key) := ok 7 _ rfl
                have q8 : w.cell? ⟨ob, oo + i * 11 + 8, none⟩ = some (.int .u64 kb') := ok 8 _ rfl
                have q9 : w.cell? ⟨ob, oo + i * 11 + 9, none⟩ = some (.int .i64 kid) := ok 9 _ rfl
                have q10 : w.cell? ⟨ob, oo + i * 11 + 10, none⟩ = some (.bool kw5) := ok 10 _ rfl
                clear ok ook
                go_upto_region 23 with (refine wpList_store_box rfl 75 _ _ rfl z.on.heap.size _ [.int .i64 k0, .int .i64 k1, .int .i64 k2, .int .i64 k3, .int .i64 kc, .int .i64 ks, .int .i64 kk, .string key, .int .u64 kb', .int .i64 kid, .bool kw5] _ rfl rfl (Bx.newAt _ _ _ _ rfl) rfl info_op14 (by simp [Value.oneCell']) (fun W hB => ?_); have BO := Go.Lib.hid hB; clear hB)
                have XW : Ext Non z.on W.on := by (repeat (first | with_reducible exact Ext.refl _ _ | assumption | with_reducible refine Ext.upN ?_ | with_reducible refine Ext.alloc ?_ _ | with_reducible refine Ext.upA (by assumption) ?_ | with_reducible refine Ext.upW ?_ | with_reducible refine Ext.drew ?_ | with_reducible refine Ext.drewN ?_ _ | with_reducible refine Ext.upF ?_ | with_reducible refine Ext.upFF (by first | omega | simp) ?_ | with_reducible refine Ext.setCellsF _ _ _ (by first | omega | simp) ?_ | with_reducible refine Ext.setCellF _ _ _ (by first | omega | simp) ?_ | with_reducible refine Ext.upFN (by first | omega | simp) ?_ | with_reducible refine Ext.up1F (by first | omega | simp) ?_ | with_reducible refine Ext.up1N (by first | omega | simp) ?_ | with_reducible refine Ext.setCell ?_ (.inr (by first | omega | simp)) _ | refine Ext.alloc ?_ _ | refine Ext.setCellF _ _ _ (by first | omega | simp) ?_ | refine Ext.setCell ?_ (.inr (by first | omega | simp)) _))
                have HW1 := Go.Lib.hid (HW.out.extN XW)
                have hzw : w.heap.size + 2 ≤ z.on.heap.size := by have := HW.out.bs.lt; omega
                have HFR : Hid ((∀ j, LoF ba Ga j → j < z.on.heap.size) ∧ (∀ j, LoF bb Gb j → j < z.on.heap.size)) := Go.Lib.hid ⟨fun j hj => LoF.lt HW.out.la hj, fun j hj => LoF.lt HW.out.lb hj⟩
                have HRW : Hid (∀ j, Row (.slice va sd.length vc) j → j < z.on.heap.size) := Go.Lib.hid (fun j hj => (own_row HW.out.row j hj).2)
                obtain ⟨x5, hx5⟩ := (z.ext.trans XW).ew
                rw [hx5] at HW1 BO ⊢
                clear hx5 W XW HW qs q0 q1 q2 q3 q4 q5 q6 q7 q8 q9 q10
                try simp only [Act.put]
                generalize hkx : z.on.heap.size = kx at *
                clear hkx z
                have y0 : x5.on.cell? ⟨kx, 0, none⟩ = some (.int .i64 k0) := BO.out.cell rfl
                have y1 : x5.on.cell? ⟨kx, 1, none⟩ = some (.int .i64 k1) := BO.out.cell rfl
                have y2 : x5.on.cell? ⟨kx, 2, none⟩ = some (.int .i64 k2) := BO.out.cell rfl
                have y3 : x5.on.cell? ⟨kx, 3, none⟩ = some (.int .i64 k3) := BO.out.cell rfl
                have y4 : x5.on.cell? ⟨kx, 4, none⟩ = some (.int .i64 kc) := BO.out.cell rfl
                have y5 : x5.on.cell? ⟨kx, 5, none⟩ = some (.int .i64 ks) := BO.out.cell rfl
                have y6 : x5.on.cell? ⟨kx, 6, none⟩ = some (.int .i64 kk) := BO.out.cell rfl
                have y7 : x5.on.cell? ⟨kx, 7, none⟩ = some (.string key) := BO.out.cell rfl
                have y8 : x5.on.cell? ⟨kx, 8, none⟩ = some (.int .u64 kb') := BO.out.cell rfl
                have y9 : x5.on.cell? ⟨kx, 9, none⟩ = some (.int .i64 kid) := BO.out.cell rfl
                have y10 : x5.on.cell? ⟨kx, 10, none⟩ = some (.bool kw5) := BO.out.cell rfl
                obtain ⟨kd, hkd⟩ : ∃ kd, kd = kindN k0 := ⟨_, rfl⟩
                have KD : Hid (∀ w, Calls Try.prog 36 #[.agg #[.int .i64 k0, .int .i64 k1, .int .i64 k2, .int .i64 k3, .int .i64 kc, .int .i64 ks, .int .i64 kk, .string key, .int .u64 kb', .int .i64 kid, .bool kw5]] w fun e w' => e = .returned (.int .i64 kd) ∧ Ext Non w w') := Go.Lib.hid (fun w => by rw [hkd]; exact op_kind ⟨k0, k1, k2, k3, kc, ks, kk, key, kb', kid, kw5⟩ w)
                have HKD := Go.Lib.hid hkd
                clear hkd
                go_wp2_with fail
                refine Calls.ew (KD.out _) ?_
                rintro e x6 rfl
                by_cases h0 : kd = 0
                · subst h0
                  have HW2 := Go.Lib.hid (HW1.out.extN x6.ext)
                  go_wp2_with fail
                  go_roundg (l.length - (i + 1))
                  case measure => have := HIN.out; omega
                  case rel => exact ⟨_, i + 1, sd, Ga, Gb, ga, gb, ⟨_, by (repeat (first | with_reducible exact Ext.refl _ _ | assumption | with_reducible refine Ext.upN ?_ | with_reducible refine Ext.alloc ?_ _ | with_reducible refine Ext.upA (by assumption) ?_ | with_reducible refine Ext.upW ?_ | with_reducible refine Ext.drew ?_ | with_reducible refine Ext.drewN ?_ _ | with_reducible refine Ext.upF ?_ | with_reducible refine Ext.upFF (by first | omega | simp) ?_ | with_reducible refine Ext.setCellsF _ _ _ (by first | omega | simp) ?_ | with_reducible refine Ext.setCellF _ _ _ (by first | omega | simp) ?_ | with_reducible refine Ext.upFN (by first | omega | simp) ?_ | with_reducible refine Ext.up1F (by first | omega | simp) ?_ | with_reducible refine Ext.up1N (by first | omega | simp) ?_ | with_reducible refine Ext.setCell ?_ (.inr (by first | omega | simp)) _ | refine Ext.alloc ?_ _ | refine Ext.setCellF _ _ _ (by first | omega | simp) ?_ | refine Ext.setCell ?_ (.inr (by first | omega | simp)) _))⟩, rfl, by omega, rfl, by go_num, rfl, by omega, HW2, HV⟩
                · have hb0 : (kd == 0) = false := by simpa using h0
                  have HK0 : Hid (kindN k0 ≠ 0) := Go.Lib.hid (by rw [← HKD.out]; exact h0)
                  clear h0
                  go_wp2_with fail
                  refine Calls.ew (KD.out _) ?_
                  rintro e x7 rfl
                  have X57 : Ext Non x5.on x7.on := by (repeat (first | with_reducible exact Ext.refl _ _ | assumption | with_reducible refine Ext.upN ?_ | with_reducible refine Ext.alloc ?_ _ | with_reducible refine Ext.upA (by assumption) ?_ | with_reducible refine Ext.upW ?_ | with_reducible refine Ext.drew ?_ | with_reducible refine Ext.drewN ?_ _ | with_reducible refine Ext.upF ?_ | with_reducible refine Ext.upFF (by first | omega | simp) ?_ | with_reducible refine Ext.setCellsF _ _ _ (by first | omega | simp) ?_ | with_reducible refine Ext.setCellF _ _ _ (by first | omega | simp) ?_ | with_reducible refine Ext.upFN (by first | omega | simp) ?_ | with_reducible refine Ext.up1F (by first | omega | simp) ?_ | with_reducible refine Ext.up1N (by first | omega | simp) ?_ | with_reducible refine Ext.setCell ?_ (.inr (by first | omega | simp)) _ | refine Ext.alloc ?_ _ | refine Ext.setCellF _ _ _ (by first | omega | simp) ?_ | refine Ext.setCell ?_ (.inr (by first | omega | simp)) _))
                  have HW7 := Go.Lib.hid (HW1.out.extN X57)
                  have BO7 := Go.Lib.hid (BO.out.extN X57)
                  refine agree_ways (kd := kd) (h := hasB bad k1) ?wa ?wb ?wc
                  case' wa =>
                    intro h2
                    have hb2 : (kd == 2) = false := by simpa using h2
                    have HTL : Hid (tellsB bad ⟨k0, k1, k2, k3, kc, ks, kk, key, kb', kid, kw5⟩ = false) := Go.Lib.hid (by unfold tellsB; rw [decide_eq_false (by show ¬ kindN k0 = 2; rw [← HKD.out]; exact h2)]; rfl)
                    have HOD : Hid ((⟨k0, k1, k2, k3, kc, ks, kk, key, kb', kid, kw5⟩ : Stp) = doneO bad sd ⟨k0, k1, k2, k3, kc, ks, kk, key, kb', kid, kw5⟩ ∧ Stp.ok ⟨k0, k1, k2, k3, kc, ks, kk, key, kb', kid, kw5⟩) := Go.Lib.hid ⟨by unfold doneO; rw [if_neg (by rw [HTL.out]; simp)], HO.out⟩
                    have hsd' : (saidO bad sd ⟨k0, k1, k2, k3, kc, ks, kk, key, kb', kid, kw5⟩).length ≤ n0 + (i + 1) := by unfold saidO; rw [if_neg (by rw [HTL.out]; simp)]; omega
                    have HT7 : Hid (AgW w [.int .i64 ep, .slice a xs.length cap] [.slice p0 l0.length c0, .slice p1 l1.length c1] x7.on (.slice va sd.length vc) (saidO bad sd ⟨k0, k1, k2, k3, kc, ks, kk, key, kb', kid, kw5⟩) ba Ga ga bb Gb gb) := Go.Lib.hid (by unfold saidO; rw [if_neg (by rw [HTL.out]; simp)]; exact HW7.out)
                    clear h2
                    go_upto_region 29 with fail
                    obtain ⟨x9, hx9⟩ := (by (repeat (first | with_reducible exact Ext.refl _ _ | assumption | with_reducible refine Ext.upN ?_ | with_reducible refine Ext.alloc ?_ _ | with_reducible refine Ext.upA (by assumption) ?_ | with_reducible refine Ext.upW ?_ | with_reducible refine Ext.drew ?_ | with_reducible refine Ext.drewN ?_ _ | with_reducible refine Ext.upF ?_ | with_reducible refine Ext.upFF (by first | omega | simp) ?_ | with_reducible refine Ext.setCellsF _ _ _ (by first | omega | simp) ?_ | with_reducible refine Ext.setCellF _ _ _ (by first | omega | simp) ?_ | with_reducible refine Ext.upFN (by first | omega | simp) ?_ | with_reducible refine Ext.up1F (by first | omega | simp) ?_ | with_reducible refine Ext.up1N (by first | omega | simp) ?_ | with_reducible refine Ext.setCell ?_ (.inr (by first | omega | simp)) _ | refine Ext.alloc ?_ _ | refine Ext.setCellF _ _ _ (by first | omega | simp) ?_ | refine Ext.setCell ?_ (.inr (by first | omega | simp)) _)) : Ext Non w x7.on).ew
                    rw [hx9] at HT7 BO7 ⊢
                    have HT := HT7
                    obtain ⟨oc, hoc⟩ : ∃ oc : Stp, oc = ⟨k0, k1, k2, k3, kc, ks, kk, key, kb', kid, kw5⟩ := ⟨_, rfl⟩
                    rw [← hoc] at HT hsd'
                    have HOC := Go.Lib.hid hoc
                    clear hoc
                    obtain ⟨ec, rfl⟩ : ∃ e, e = kc := ⟨_, rfl⟩
                    obtain ⟨es, rfl⟩ : ∃ e, e = ks := ⟨_, rfl⟩
                    obtain ⟨ek, rfl⟩ : ∃ e, e = kk := ⟨_, rfl⟩
                    obtain ⟨ekey, rfl⟩ : ∃ e, e = key := ⟨_, rfl⟩
                    obtain ⟨eb, rfl⟩ : ∃ e, e = kb' := ⟨_, rfl⟩
                    obtain ⟨eid, rfl⟩ : ∃ e, e = kid := ⟨_, rfl⟩
                    have g0 : x9.on.cell? ⟨kx, 0, none⟩ = some (.int .i64 k0) := BO7.out.cell rfl
                    have g1 : x9.on.cell? ⟨kx, 1, none⟩ = some (.int .i64 k1) := BO7.out.cell rfl
                    have g2 : x9.on.cell? ⟨kx, 2, none⟩ = some (.int .i64 k2) := BO7.out.cell rfl
                    have g3 : x9.on.cell? ⟨kx, 3, none⟩ = some (.int .i64 k3) := BO7.out.cell rfl
                    have g4 : x9.on.cell? ⟨kx, 4, none⟩ = some (.int .i64 ec) := BO7.out.cell rfl
                    have g5 : x9.on.cell? ⟨kx, 5, none⟩ = some (.int .i64 es) := BO7.out.cell rfl
                    have g6 : x9.on.cell? ⟨kx, 6, none⟩ = some (.int .i64 ek) := BO7.out.cell rfl
                    have g7 : x9.on.cell? ⟨kx, 7, none⟩ = some (.string ekey) := BO7.out.cell rfl
                    have g8 : x9.on.cell? ⟨kx, 8, none⟩ = some (.int .u64 eb) := BO7.out.cell rfl
                    have g9 : x9.on.cell? ⟨kx, 9, none⟩ = some (.int .i64 eid) := BO7.out.cell rfl
                    have g10 : x9.on.cell? ⟨kx, 10, none⟩ = some (.bool kw5) := BO7.out.cell rfl
                    clear hx9 KD HW7 BO7 HT7 HW1 BO y0 y1 y2 y3 y4 y5 y6 y7 y8 y9 y10 X57 x5 x6 x7 HTL hb2 HO
                  case' wb =>
                    intro h2 hh
                    have hb2 : (kd == 2) = true := by simpa using h2
                    have HTL : Hid (tellsB bad ⟨k0, k1, k2, k3, kc, ks, kk, key, kb', kid, kw5⟩ = false) := Go.Lib.hid (by unfold tellsB; show (_ && !hasB bad k1) = false; rw [hh]; simp)
                    have HOD : Hid ((⟨k0, k1, k2, k3, kc, ks, kk, key, kb', kid, kw5⟩ : Stp) = doneO bad sd ⟨k0, k1, k2, k3, kc, ks, kk, key, kb', kid, kw5⟩ ∧ Stp.ok ⟨k0, k1, k2, k3, kc, ks, kk, key, kb', kid, kw5⟩) := Go.Lib.hid ⟨by unfold doneO; rw [if_neg (by rw [HTL.out]; simp)], HO.out⟩
                    have hsd' : (saidO bad sd ⟨k0, k1, k2, k3, kc, ks, kk, key, kb', kid, kw5⟩).length ≤ n0 + (i + 1) := by unfold saidO; rw [if_neg (by rw [HTL.out]; simp)]; omega
                    have HHh := Go.Lib.hid hh
                    clear h2 hh
                    go_wp2_with fail
                    refine Calls.ew (law14_has da dcap bad k1 _ (HB.out.extN (by (repeat (first | with_reducible exact Ext.refl _ _ | assumption | with_reducible refine Ext.upN ?_ | with_reducible refine Ext.alloc ?_ _ | with_reducible refine Ext.upA (by assumption) ?_ | with_reducible refine Ext.upW ?_ | with_reducible refine Ext.drew ?_ | with_reducible refine Ext.drewN ?_ _ | with_reducible refine Ext.upF ?_ | with_reducible refine Ext.upFF (by first | omega | simp) ?_ | with_reducible refine Ext.setCellsF _ _ _ (by first | omega | simp) ?_ | with_reducible refine Ext.setCellF _ _ _ (by first | omega | simp) ?_ | with_reducible refine Ext.upFN (by first | omega | simp) ?_ | with_reducible refine Ext.up1F (by first | omega | simp) ?_ | with_reducible refine Ext.up1N (by first | omega | simp) ?_ | with_reducible refine Ext.setCell ?_ (.inr (by first | omega | simp)) _ | refine Ext.alloc ?_ _ | refine Ext.setCellF _ _ _ (by first | omega | simp) ?_ | refine Ext.setCell ?_ (.inr (by first | omega | simp)) _))))) ?_
                    rintro e x8 rfl
                    have HT7 : Hid (AgW w [.int .i64 ep, .slice a xs.length cap] [.slice p0 l0.length c0, .slice p1 l1.length c1] x8.on (.slice va sd.length vc) (saidO bad sd ⟨k0, k1, k2, k3, kc, ks, kk, key, kb', kid, kw5⟩) ba Ga ga bb Gb gb) := Go.Lib.hid (by unfold saidO; rw [if_neg (by rw [HTL.out]; simp)]; exact HW7.out.extN x8.ext)
                    have BO8 := Go.Lib.hid (BO7.out.extN x8.ext)
                    rw [HHh.out]
                    go_upto_region 29 with fail
                    obtain ⟨x9, hx9⟩ := (by (repeat (first | with_reducible exact Ext.refl _ _ | assumption | with_reducible refine Ext.upN ?_ | with_reducible refine Ext.alloc ?_ _ | with_reducible refine Ext.upA (by assumption) ?_ | with_reducible refine Ext.upW ?_ | with_reducible refine Ext.drew ?_ | with_reducible refine Ext.drewN ?_ _ | with_reducible refine Ext.upF ?_ | with_reducible refine Ext.upFF (by first | omega | simp) ?_ | with_reducible refine Ext.setCellsF _ _ _ (by first | omega | simp) ?_ | with_reducible refine Ext.setCellF _ _ _ (by first | omega | simp) ?_ | with_reducible refine Ext.upFN (by first | omega | simp) ?_ | with_reducible refine Ext.up1F (by first | omega | simp) ?_ | with_reducible refine Ext.up1N (by first | omega | simp) ?_ | with_reducible refine Ext.setCell ?_ (.inr (by first | omega | simp)) _ | refine Ext.alloc ?_ _ | refine Ext.setCellF _ _ _ (by first | omega | simp) ?_ | refine Ext.setCell ?_ (.inr (by first | omega | simp)) _)) : Ext Non w x8.on).ew
                    rw [hx9] at HT7 BO8 ⊢
                    have HT := HT7
                    obtain ⟨oc, hoc⟩ : ∃ oc : Stp, oc = ⟨k0, k1, k2, k3, kc, ks, kk, key, kb', kid, kw5⟩ := ⟨_, rfl⟩
                    rw [← hoc] at HT hsd'
                    have HOC := Go.Lib.hid hoc
                    clear hoc
                    obtain ⟨ec, rfl⟩ : ∃ e, e = kc := ⟨_, rfl⟩
                    obtain ⟨es, rfl⟩ : ∃ e, e = ks := ⟨_, rfl⟩
                    obtain ⟨ek, rfl⟩ : ∃ e, e = kk := ⟨_, rfl⟩
                    obtain ⟨ekey, rfl⟩ : ∃ e, e = key := ⟨_, rfl⟩
                    obtain ⟨eb, rfl⟩ : ∃ e, e = kb' := ⟨_, rfl⟩
                    obtain ⟨eid, rfl⟩ : ∃ e, e = kid := ⟨_, rfl⟩
                    have g0 : x9.on.cell? ⟨kx, 0, none⟩ = some (.int .i64 k0) := BO8.out.cell rfl
                    have g1 : x9.on.cell? ⟨kx, 1, none⟩ = some (.int .i64 k1) := BO8.out.cell rfl
                    have g2 : x9.on.cell? ⟨kx, 2, none⟩ = some (.int .i64 k2) := BO8.out.cell rfl
                    have g3 : x9.on.cell? ⟨kx, 3, none⟩ = some (.int .i64 k3) := BO8.out.cell rfl
                    have g4 : x9.on.cell? ⟨kx, 4, none⟩ = some (.int .i64 ec) := BO8.out.cell rfl
                    have g5 : x9.on.cell? ⟨kx, 5, none⟩ = some (.int .i64 es) := BO8.out.cell rfl
                    have g6 : x9.on.cell? ⟨kx, 6, none⟩ = some (.int .i64 ek) := BO8.out.cell rfl
                    have g7 : x9.on.cell? ⟨kx, 7, none⟩ = some (.string ekey) := BO8.out.cell rfl
                    have g8 : x9.on.cell? ⟨kx, 8, none⟩ = some (.int .u64 eb) := BO8.out.cell rfl
                    have g9 : x9.on.cell? ⟨kx, 9, none⟩ = some (.int .i64 eid) := BO8.out.cell rfl
                    have g10 : x9.on.cell? ⟨kx, 10, none⟩ = some (.bool kw5) := BO8.out.cell rfl
                    clear hx9 KD HW7 BO7 BO8 HT7 HW1 BO y0 y1 y2 y3 y4 y5 y6 y7 y8 y9 y10 X57 x5 x6 x7 x8 HTL hb2 HHh HO
                  case' wc =>
                    intro h2 hh
                    have hb2 : (kd == 2) = true := by simpa using h2
                    have HTL : Hid (tellsB bad ⟨k0, k1, k2, k3, kc, ks, kk, key, kb', kid, kw5⟩ = true) := Go.Lib.hid (by unfold tellsB; rw [decide_eq_true (by show kindN k0 = 2; rw [← HKD.out]; exact h2)]; show (true && !hasB bad k1) = true; rw [hh]; rfl)
                    have HHh := Go.Lib.hid hh
                    clear h2 hh
                    go_wp2_with fail
                    refine Calls.ew (law14_has da dcap bad k1 _ (HB.out.extN (by (repeat (first | with_reducible exact Ext.refl _ _ | assumption | with_reducible refine Ext.upN ?_ | with_reducible refine Ext.alloc ?_ _ | with_reducible refine Ext.upA (by assumption) ?_ | with_reducible refine Ext.upW ?_ | with_reducible refine Ext.drew ?_ | with_reducible refine Ext.drewN ?_ _ | with_reducible refine Ext.upF ?_ | with_reducible refine Ext.upFF (by first | omega | simp) ?_ | with_reducible refine Ext.setCellsF _ _ _ (by first | omega | simp) ?_ | with_reducible refine Ext.setCellF _ _ _ (by first | omega | simp) ?_ | with_reducible refine Ext.upFN (by first | omega | simp) ?_ | with_reducible refine Ext.up1F (by first | omega | simp) ?_ | with_reducible refine Ext.up1N (by first | omega | simp) ?_ | with_reducible refine Ext.setCell ?_ (.inr (by first | omega | simp)) _ | refine Ext.alloc ?_ _ | refine Ext.setCellF _ _ _ (by first | omega | simp) ?_ | refine Ext.setCell ?_ (.inr (by first | omega | simp)) _))))) ?_
                    rintro e x8 rfl
                    rw [HHh.out]
                    have HW8 := Go.Lib.hid (HW7.out.extN x8.ext)
                    have BO8 := Go.Lib.hid (BO7.out.extN x8.ext)
                    have HST : Hid (Stps x8.on va vc sd) := Go.Lib.hid (by
                      obtain ⟨va', vc', e, h⟩ := stps_of_own sd HW8.out.ok HW8.out.row
                      injection e with e1 e2 e3
                      subst e1; subst e3; exact h)
                    clear HW7 BO7
                    go_wp2_with fail
                    refine Calls.ew (law14_first va vc sd k0 k1 k2 k3 kc ks kk key kb' kid kw5 _ HST.out) ?_
                    rintro e x10 rfl
                    have HW10 := Go.Lib.hid (HW8.out.extN x10.ext)
                    have BO10 := Go.Lib.hid (BO8.out.extN x10.ext)
                    have X510 : Ext Non x5.on x10.on := by (repeat (first | with_reducible exact Ext.refl _ _ | assumption | with_reducible refine Ext.upN ?_ | with_reducible refine Ext.alloc ?_ _ | with_reducible refine Ext.upA (by assumption) ?_ | with_reducible refine Ext.upW ?_ | with_reducible refine Ext.drew ?_ | with_reducible refine Ext.drewN ?_ _ | with_reducible refine Ext.upF ?_ | with_reducible refine Ext.upFF (by first | omega | simp) ?_ | with_reducible refine Ext.setCellsF _ _ _ (by first | omega | simp) ?_ | with_reducible refine Ext.setCellF _ _ _ (by first | omega | simp) ?_ | with_reducible refine Ext.upFN (by first | omega | simp) ?_ | with_reducible refine Ext.up1F (by first | omega | simp) ?_ | with_reducible refine Ext.up1N (by first | omega | simp) ?_ | with_reducible refine Ext.setCell ?_ (.inr (by first | omega | simp)) _ | refine Ext.alloc ?_ _ | refine Ext.setCellF _ _ _ (by first | omega | simp) ?_ | refine Ext.setCell ?_ (.inr (by first | omega | simp)) _))
                    have hkx10 : kx < x10.on.heap.size := BO10.out.lt
                    have hw10 : w.heap.size + 2 ≤ x10.on.heap.size := by have := HW10.out.bs.lt; omega
                    clear HW8 BO8 HST
                    refine (fun (h1 : firstN sd k1 k2 = none → _) (h2 : ∀ q, firstN sd k1 k2 = some q → _) => by cases hf : firstN sd k1 k2; exact h1 hf; exact h2 _ hf) ?wca ?wcb
                    case' wca =>
                      intro hf
                      have HOD : Hid ((⟨k0, k1, k2, k3, kc, ks, kk, key, kb', kid, kw5⟩ : Stp) = doneO bad sd ⟨k0, k1, k2, k3, kc, ks, kk, key, kb', kid, kw5⟩ ∧ Stp.ok ⟨k0, k1, k2, k3, kc, ks, kk, key, kb', kid, kw5⟩) := Go.Lib.hid ⟨by unfold doneO; rw [if_pos HTL.out]; show _ = (match firstN sd k1 k2 with | some p => _ | none => _); rw [hf], HO.out⟩
                      have HSD : Hid (saidO bad sd ⟨k0, k1, k2, k3, kc, ks, kk, key, kb', kid, kw5⟩ = sd ++ [⟨k0, k1, k2, k3, kc, ks, kk, key, kb', kid, kw5⟩]) := Go.Lib.hid (by unfold saidO; rw [if_pos HTL.out]; show (match firstN sd k1 k2 with | some _ => sd | none => sd ++ [_]) = _; rw [hf])
                      have hsd' : (saidO bad sd ⟨k0, k1, k2, k3, kc, ks, kk, key, kb', kid, kw5⟩).length ≤ n0 + (i + 1) := by rw [HSD.out, List.length_append]; simp; omega
                      clear hf
                      simp only [firstV, zeroOp]
                      go_upto_region 26 with (refine wpList_store_box rfl 75 _ _ rfl x10.on.heap.size _ [.int .i64 0, .int .i64 0, .int .i64 0, .int .i64 0, .int .i64 0, .int .i64 0, .int .i64 0, .string ByteArray.empty, .int .u64 0, .int .i64 0, .bool false] _ rfl rfl (Bx.newAt _ _ _ _ rfl) rfl info_op14 (by simp [Value.oneCell']) (fun W hB => ?_); clear hB)
                      have XW : Ext Non x10.on W.on := by (repeat (first | with_reducible exact Ext.refl _ _ | assumption | with_reducible refine Ext.upN ?_ | with_reducible refine Ext.alloc ?_ _ | with_reducible refine Ext.upA (by assumption) ?_ | with_reducible refine Ext.upW ?_ | with_reducible refine Ext.drew ?_ | with_reducible refine Ext.drewN ?_ _ | with_reducible refine Ext.upF ?_ | with_reducible refine Ext.upFF (by first | omega | simp) ?_ | with_reducible refine Ext.setCellsF _ _ _ (by first | omega | simp) ?_ | with_reducible refine Ext.setCellF _ _ _ (by first | omega | simp) ?_ | with_reducible refine Ext.upFN (by first | omega | simp) ?_ | with_reducible refine Ext.up1F (by first | omega | simp) ?_ | with_reducible refine Ext.up1N (by first | omega | simp) ?_ | with_reducible refine Ext.setCell ?_ (.inr (by first | omega | simp)) _ | refine Ext.alloc ?_ _ | refine Ext.setCellF _ _ _ (by first | omega | simp) ?_ | refine Ext.setCell ?_ (.inr (by first | omega | simp)) _))
                      have HW11 := Go.Lib.hid (HW10.out.extN XW)
                      have BO11 := Go.Lib.hid (BO10.out.extN XW)
                      obtain ⟨x11, hx11⟩ := ((x5.ext.trans X510).trans XW).ew
                      rw [hx11] at HW11 BO11 ⊢
                      have hkx11 : kx < x11.on.heap.size := BO11.out.lt
                      have hw11 : w.heap.size + 2 ≤ x11.on.heap.size := by have := HW11.out.bs.lt; omega
                      clear hx11 XW HW10 BO10 W y0 y1 y2 y3 y4 y5 y6 y7 y8 y9 y10 X510 hkx10
                      try simp only [Act.put]
                      have y0 : x11.on.cell? ⟨kx, 0, none⟩ = some (.int .i64 k0) := BO11.out.cell rfl
                      have y1 : x11.on.cell? ⟨kx, 1, none⟩ = some (.int .i64 k1) := BO11.out.cell rfl
                      have y2 : x11.on.cell? ⟨kx, 2, none⟩ = some (.int .i64 k2) := BO11.out.cell rfl
                      have y3 : x11.on.cell? ⟨kx, 3, none⟩ = some (.int .i64 k3) := BO11.out.cell rfl
                      have y4 : x11.on.cell? ⟨kx, 4, none⟩ = some (.int .i64 kc) := BO11.out.cell rfl
                      have y5 : x11.on.cell? ⟨kx, 5, none⟩ = some (.int .i64 ks) := BO11.out.cell rfl
                      have y6 : x11.on.cell? ⟨kx, 6, none⟩ = some (.int .i64 kk) := BO11.out.cell rfl
                      have y7 : x11.on.cell? ⟨kx, 7, none⟩ = some (.string key) := BO11.out.cell rfl
                      have y8 : x11.on.cell? ⟨kx, 8, none⟩ = some (.int .u64 kb') := BO11.out.cell rfl
                      have y9 : x11.on.cell? ⟨kx, 9, none⟩ = some (.int .i64 kid) := BO11.out.cell rfl
                      have y10 : x11.on.cell? ⟨kx, 10, none⟩ = some (.bool kw5) := BO11.out.cell rfl
                      go_upto_region 29 with (at_builtin; refine wpList_append_row rfl _ _ 69 rfl (w.heap.size + 2) 75 11 96 _ Try.underlying69 info_op3 (by rfl) (by omega) (by omega) (.slice va sd.length vc) sd.length _ rfl (ownR_extN HW11.out.row (by (repeat (first | with_reducible exact Ext.refl _ _ | assumption | with_reducible refine Ext.upN ?_ | with_reducible refine Ext.alloc ?_ _ | with_reducible refine Ext.upA (by assumption) ?_ | with_reducible refine Ext.upW ?_ | with_reducible refine Ext.drew ?_ | with_reducible refine Ext.drewN ?_ _ | with_reducible refine Ext.upF ?_ | with_reducible refine Ext.upFF (by first | omega | simp) ?_ | with_reducible refine Ext.setCellsF _ _ _ (by first | omega | simp) ?_ | with_reducible refine Ext.setCellF _ _ _ (by first | omega | simp) ?_ | with_reducible refine Ext.upFN (by first | omega | simp) ?_ | with_reducible refine Ext.up1F (by first | omega | simp) ?_ | with_reducible refine Ext.up1N (by first | omega | simp) ?_ | with_reducible refine Ext.setCell ?_ (.inr (by first | omega | simp)) _ | refine Ext.alloc ?_ _ | refine Ext.setCellF _ _ _ (by first | omega | simp) ?_ | refine Ext.setCell ?_ (.inr (by first | omega | simp)) _)))) x11.on.heap.size [.int .i64 k0, .int .i64 k1, .int .i64 k2, .int .i64 k3, .int .i64 kc, .int .i64 ks, .int .i64 kk, .string key, .int .u64 kb', .int .i64 kid, .bool kw5] 75 rfl (Bx.newAt _ _ _ _ rfl) rfl (by simp [Value.oneCell']) (by omega) (by simp; omega) (fun v' W2 hO hrow => ?_); have HO2 := Go.Lib.hid hO; have HRW2 := Go.Lib.hid hrow; clear hO hrow)
                      have XA : Ext Non w (x11.on.alloc (.cells [.int .i64 k0, .int .i64 k1, .int .i64 k2, .int .i64 k3, .int .i64 kc, .int .i64 ks, .int .i64 kk, .string key, .int .u64 kb', .int .i64 kid, .bool kw5].toArray 75)) := by (repeat (first | with_reducible exact Ext.refl _ _ | assumption | with_reducible refine Ext.upN ?_ | with_reducible refine Ext.alloc ?_ _ | with_reducible refine Ext.upA (by assumption) ?_ | with_reducible refine Ext.upW ?_ | with_reducible refine Ext.drew ?_ | with_reducible refine Ext.drewN ?_ _ | with_reducible refine Ext.upF ?_ | with_reducible refine Ext.upFF (by first | omega | simp) ?_ | with_reducible refine Ext.setCellsF _ _ _ (by first | omega | simp) ?_ | with_reducible refine Ext.setCellF _ _ _ (by first | omega | simp) ?_ | with_reducible refine Ext.upFN (by first | omega | simp) ?_ | with_reducible refine Ext.up1F (by first | omega | simp) ?_ | with_reducible refine Ext.up1N (by first | omega | simp) ?_ | with_reducible refine Ext.setCell ?_ (.inr (by first | omega | simp)) _ | refine Ext.alloc ?_ _ | refine Ext.setCellF _ _ _ (by first | omega | simp) ?_ | refine Ext.setCell ?_ (.inr (by first | omega | simp)) _))
                      have HT7 : Hid (AgW w [.int .i64 ep, .slice a xs.length cap] [.slice p0 l0.length c0, .slice p1 l1.length c1] W2.on v' (saidO bad sd ⟨k0, k1, k2, k3, kc, ks, kk, key, kb', kid, kw5⟩) ba Ga ga bb Gb gb) := Go.Lib.hid (by
                        rw [HSD.out]
                        exact (HW11.out.extN ((Ext.refl Non x11.on).alloc (.cells [.int .i64 k0, .int .i64 k1, .int .i64 k2, .int .i64 k3, .int .i64 kc, .int .i64 ks, .int .i64 kk, .string key, .int .u64 kb', .int .i64 kid, .bool kw5].toArray 75))).app HO.out W2.ext HO2.out HRW2.out)
                      have BO9 := Go.Lib.hid ((BO11.out.extN ((Ext.refl Non x11.on).alloc (.cells [.int .i64 k0, .int .i64 k1, .int .i64 k2, .int .i64 k3, .int .i64 kc, .int .i64 ks, .int .i64 kk, .string key, .int .u64 kb', .int .i64 kid, .bool kw5].toArray 75))).ext W2.ext (fun e => by have := HRW.out kx e; omega))
                      obtain ⟨x9, hx9⟩ := (XA.own W2.ext (fun k e => by have := (own_row HW11.out.row k e).1; omega)).ew
                      rw [hx9] at HT7 BO9 ⊢
                      have HT := HT7
                      obtain ⟨oc, hoc⟩ : ∃ oc : Stp, oc = ⟨k0, k1, k2, k3, kc, ks, kk, key, kb', kid, kw5⟩ := ⟨_, rfl⟩
                      rw [← hoc] at HT hsd'
                      have HOC := Go.Lib.hid hoc
                      clear hoc hx9 HT7 HW11 BO11 HO2 HRW2 W2 XA y0 y1 y2 y3 y4 y5 y6 y7 y8 y9 y10 hkx11 hw11 HSD HO KD HW1 BO
                      obtain ⟨ec, rfl⟩ : ∃ e, e = kc := ⟨_, rfl⟩
                      obtain ⟨es, rfl⟩ : ∃ e, e = ks := ⟨_, rfl⟩
                      obtain ⟨ek, rfl⟩ : ∃ e, e = kk := ⟨_, rfl⟩
                      obtain ⟨ekey, rfl⟩ : ∃ e, e = key := ⟨_, rfl⟩
                      obtain ⟨eb, rfl⟩ : ∃ e, e = kb' := ⟨_, rfl⟩
                      obtain ⟨eid, rfl⟩ : ∃ e, e = kid := ⟨_, rfl⟩
                      have g0 : x9.on.cell? ⟨kx, 0, none⟩ = some (.int .i64 k0) := BO9.out.cell rfl
                      have g1 : x9.on.cell? ⟨kx, 1, none⟩ = some (.int .i64 k1) := BO9.out.cell rfl
                      have g2 : x9.on.cell? ⟨kx, 2, none⟩ = some (.int .i64 k2) := BO9.out.cell rfl
                      have g3 : x9.on.cell? ⟨kx, 3, none⟩ = some (.int .i64 k3) := BO9.out.cell rfl
                      have g4 : x9.on.cell? ⟨kx, 4, none⟩ = some (.int .i64 ec) := BO9.out.cell rfl
                      have g5 : x9.on.cell? ⟨kx, 5, none⟩ = some (.int .i64 es) := BO9.out.cell rfl
                      have g6 : x9.on.cell? ⟨kx, 6, none⟩ = some (.int .i64 ek) := BO9.out.cell rfl
                      have g7 : x9.on.cell? ⟨kx, 7, none⟩ = some (.string ekey) := BO9.out.cell rfl
                      have g8 : x9.on.cell? ⟨kx, 8, none⟩ = some (.int .u64 eb) := BO9.out.cell rfl
                      have g9 : x9.on.cell? ⟨kx, 9, none⟩ = some (.int .i64 eid) := BO9.out.cell rfl
                      have g10 : x9.on.cell? ⟨kx, 10, none⟩ = some (.bool kw5) := BO9.out.cell rfl
                      clear BO9
                      try simp only [Act.put]
                    case' wcb =>
                      intro q hf
                      have hq := HW10.out.ok _ (first_mem hf)
                      obtain ⟨m0, m1, m2, m3, ec, es, ek, ekey, eb, eid, mw⟩ := q
                      have HOD : Hid ((⟨k0, k1, k2, k3, ec, es, ek, ekey, eb, eid, kw5⟩ : Stp) = doneO bad sd ⟨k0, k1, k2, k3, kc, ks, kk, key, kb', kid, kw5⟩ ∧ Stp.ok ⟨k0, k1, k2, k3, ec, es, ek, ekey, eb, eid, kw5⟩) := Go.Lib.hid ⟨by unfold doneO; rw [if_pos HTL.out]; show _ = (match firstN sd k1 k2 with | some p => _ | none => _); rw [hf]; rfl, HO.out.1, HO.out.2.1, HO.out.2.2.1, HO.out.2.2.2.1, hq.2.2.2.2⟩
                      have HSD : Hid (saidO bad sd ⟨k0, k1, k2, k3, kc, ks, kk, key, kb', kid, kw5⟩ = sd) := Go.Lib.hid (by unfold saidO; rw [if_pos HTL.out]; show (match firstN sd k1 k2 with | some _ => sd | none => sd ++ [_]) = _; rw [hf])
                      have hsd' : (saidO bad sd ⟨k0, k1, k2, k3, kc, ks, kk, key, kb', kid, kw5⟩).length ≤ n0 + (i + 1) := by rw [HSD.out]; omega
                      clear hf hq
                      simp only [firstV, Stp.cells]
                      go_upto_region 26 with (refine wpList_store_box rfl 75 _ _ rfl x10.on.heap.size _ [.int .i64 m0, .int .i64 m1, .int .i64 m2, .int .i64 m3, .int .i64 ec, .int .i64 es, .int .i64 ek, .string ekey, .int .u64 eb, .int .i64 eid, .bool mw] _ rfl rfl (Bx.newAt _ _ _ _ rfl) rfl info_op14 (by simp [Value.oneCell']) (fun W hB => ?_); have BP := Go.Lib.hid hB; clear hB)
                      have XW : Ext Non x10.on W.on := by (repeat (first | with_reducible exact Ext.refl _ _ | assumption | with_reducible refine Ext.upN ?_ | with_reducible refine Ext.alloc ?_ _ | with_reducible refine Ext.upA (by assumption) ?_ | with_reducible refine Ext.upW ?_ | with_reducible refine Ext.drew ?_ | with_reducible refine Ext.drewN ?_ _ | with_reducible refine Ext.upF ?_ | with_reducible refine Ext.upFF (by first | omega | simp) ?_ | with_reducible refine Ext.setCellsF _ _ _ (by first | omega | simp) ?_ | with_reducible refine Ext.setCellF _ _ _ (by first | omega | simp) ?_ | with_reducible refine Ext.upFN (by first | omega | simp) ?_ | with_reducible refine Ext.up1F (by first | omega | simp) ?_ | with_reducible refine Ext.up1N (by first | omega | simp) ?_ | with_reducible refine Ext.setCell ?_ (.inr (by first | omega | simp)) _ | refine Ext.alloc ?_ _ | refine Ext.setCellF _ _ _ (by first | omega | simp) ?_ | refine Ext.setCell ?_ (.inr (by first | omega | simp)) _))
                      have HW11 := Go.Lib.hid (HW10.out.extN XW)
                      have BO11 := Go.Lib.hid (BO10.out.extN XW)
                      obtain ⟨x11, hx11⟩ := ((x5.ext.trans X510).trans XW).ew
                      rw [hx11] at HW11 BO11 BP ⊢
                      generalize x10.on.heap.size = kp at *
                      have hw11 : w.heap.size + 2 ≤ x11.on.heap.size := by have := HW11.out.bs.lt; omega
                      clear hx11 XW HW10 BO10 W y0 y1 y2 y3 y4 y5 y6 y7 y8 y9 y10 X510
                      try simp only [Act.put]
                      have y0 : x11.on.cell? ⟨kx, 0, none⟩ = some (.int .i64 k0) := BO11.out.cell rfl
                      have y1 : x11.on.cell? ⟨kx, 1, none⟩ = some (.int .i64 k1) := BO11.out.cell rfl
                      have y2 : x11.on.cell? ⟨kx, 2, none⟩ = some (.int .i64 k2) := BO11.out.cell rfl
                      have y3 : x11.on.cell? ⟨kx, 3, none⟩ = some (.int .i64 k3) := BO11.out.cell rfl
                      have y4 : x11.on.cell? ⟨kx, 4, none⟩ = some (.int .i64 kc) := BO11.out.cell rfl
                      have y5 : x11.on.cell? ⟨kx, 5, none⟩ = some (.int .i64 ks) := BO11.out.cell rfl
                      have y6 : x11.on.cell? ⟨kx, 6, none⟩ = some (.int .i64 kk) := BO11.out.cell rfl
                      have y7 : x11.on.cell? ⟨kx, 7, none⟩ = some (.string key) := BO11.out.cell rfl
                      have y8 : x11.on.cell? ⟨kx, 8, none⟩ = some (.int .u64 kb') := BO11.out.cell rfl
                      have y9 : x11.on.cell? ⟨kx, 9, none⟩ = some (.int .i64 kid) := BO11.out.cell rfl
                      have y10 : x11.on.cell? ⟨kx, 10, none⟩ = some (.bool kw5) := BO11.out.cell rfl
                      have f0 : x11.on.cell? ⟨kp, 0, none⟩ = some (.int .i64 m0) := BP.out.cell rfl
                      have f1 : x11.on.cell? ⟨kp, 1, none⟩ = some (.int .i64 m1) := BP.out.cell rfl
                      have f2 : x11.on.cell? ⟨kp, 2, none⟩ = some (.int .i64 m2) := BP.out.cell rfl
                      have f3 : x11.on.cell? ⟨kp, 3, none⟩ = some (.int .i64 m3) := BP.out.cell rfl
                      have f4 : x11.on.cell? ⟨kp, 4, none⟩ = some (.int .i64 ec) := BP.out.cell rfl
                      have f5 : x11.on.cell? ⟨kp, 5, none⟩ = some (.int .i64 es) := BP.out.cell rfl
                      have f6 : x11.on.cell? ⟨kp, 6, none⟩ = some (.int .i64 ek) := BP.out.cell rfl
                      have f7 : x11.on.cell? ⟨kp, 7, none⟩ = some (.string ekey) := BP.out.cell rfl
                      have f8 : x11.on.cell? ⟨kp, 8, none⟩ = some (.int .u64 eb) := BP.out.cell rfl
                      have f9 : x11.on.cell? ⟨kp, 9, none⟩ = some (.int .i64 eid) := BP.out.cell rfl
                      have f10 : x11.on.cell? ⟨kp, 10, none⟩ = some (.bool mw) := BP.out.cell rfl
                      go_upto_region 29 with (refine wpList_store_at rfl 57 _ _ rfl kx 4 [.int .i64 ec, .int .i64 es, .int .i64 ek, .string ekey, .int .u64 eb, .int .i64 eid] rfl rfl (there_sub (BO11.out.there rfl) (by omega) (by simp)) info_ask14 (by simp [Value.oneCell']) (fun W hr hap hth => ?_); have HR := Go.Lib.hid (And.intro hr hap); clear hr hap hth)
                      have HT7 : Hid (AgW w [.int .i64 ep, .slice a xs.length cap] [.slice p0 l0.length c0, .slice p1 l1.length c1] W.on (.slice va sd.length vc) (saidO bad sd ⟨k0, k1, k2, k3, kc, ks, kk, key, kb', kid, kw5⟩) ba Ga ga bb Gb gb) := Go.Lib.hid (by
                        rw [HSD.out]
                        exact HW11.out.one W.ext (by omega) (fun e => by have := HRW.out kx e; omega) (fun e => by have := HFR.out.1 kx e; omega) (fun e => by have := HFR.out.2 kx e; omega))
                      have g0 : W.on.cell? ⟨kx, 0, none⟩ = some (.int .i64 k0) := HR.out.2 0 _ (.inl (by simp)) (range1 y0) 0 _ rfl
                      have g1 : W.on.cell? ⟨kx, 1, none⟩ = some (.int .i64 k1) := HR.out.2 1 _ (.inl (by simp)) (range1 y1) 0 _ rfl
                      have g2 : W.on.cell? ⟨kx, 2, none⟩ = some (.int .i64 k2) := HR.out.2 2 _ (.inl (by simp)) (range1 y2) 0 _ rfl
                      have g3 : W.on.cell? ⟨kx, 3, none⟩ = some (.int .i64 k3) := HR.out.2 3 _ (.inl (by simp)) (range1 y3) 0 _ rfl
                      have g4 : W.on.cell? ⟨kx, 4, none⟩ = some (.int .i64 ec) := HR.out.1 0 _ rfl
                      have g5 : W.on.cell? ⟨kx, 5, none⟩ = some (.int .i64 es) := HR.out.1 1 _ rfl
                      have g6 : W.on.cell? ⟨kx, 6, none⟩ = some (.int .i64 ek) := HR.out.1 2 _ rfl
                      have g7 : W.on.cell? ⟨kx, 7, none⟩ = some (.string ekey) := HR.out.1 3 _ rfl
                      have g8 : W.on.cell? ⟨kx, 8, none⟩ = some (.int .u64 eb) := HR.out.1 4 _ rfl
                      have g9 : W.on.cell? ⟨kx, 9, none⟩ = some (.int .i64 eid) := HR.out.1 5 _ rfl
                      have g10 : W.on.cell? ⟨kx, 10, none⟩ = some (.bool kw5) := HR.out.2 10 _ (.inr (by simp)) (range1 y10) 0 _ rfl
                      obtain ⟨x9, hx9⟩ := (x11.ext.own W.ext (fun k e => by have : k = kx := e; omega)).ew
                      rw [hx9] at HT7 g0 g1 g2 g3 g4 g5 g6 g7 g8 g9 g10 ⊢
                      have HT := HT7
                      obtain ⟨oc, hoc⟩ : ∃ oc : Stp, oc = ⟨k0, k1, k2, k3, kc, ks, kk, key, kb', kid, kw5⟩ := ⟨_, rfl⟩
                      rw [← hoc] at HT hsd'
                      have HOC := Go.Lib.hid hoc
                      clear hoc hx9 HT7 HW11 BO11 BP HR W y0 y1 y2 y3 y4 y5 y6 y7 y8 y9 y10 f0 f1 f2 f3 f4 f5 f6 f7 f8 f9 f10 hw11 HSD HO KD HW1 BO
                      try simp only [Act.put]
                  all_goals
                    have hod : (⟨k0, k1, k2, k3, ec, es, ek, ekey, eb, eid, kw5⟩ : Stp) = doneO bad sd oc := by rw [HOC.out]; exact HOD.out.1
                    have HDO := Go.Lib.hid hod
                    clear hod
                    by_cases hk0 : k = 0
                    · subst hk0
                      have qc : x9.on.cell? ⟨w.heap.size, 0, none⟩ = some (.int .i64 ep) := HT.out.bc.cell rfl
                      go_wp2_with fail
                      refine (law14_call ba Ga ga ep HE.out ⟨k0, k1, k2, k3, ec, es, ek, ekey, eb, eid, kw5⟩ HOD.out.2 _ HT.out.la).mono ?_
                      rintro e _ ⟨rfl, G2, hL2, hG2, hx2⟩
                      obtain ⟨st1, st2⟩ := step_ok HV.out.1.1 ep ⟨k0, k1, k2, k3, ec, es, ek, ekey, eb, eid, kw5⟩
                      have ag := step_ag HV.out.2.2.1 ep oc (by rw [HOC.out]; exact HK0.out)
                      rw [← HDO.out] at ag
                      have HT2 := Go.Lib.hid (HT.out.callA hx2 hL2 hG2)
                      have HV2 := Go.Lib.hid (And.intro (And.intro st1 (And.intro (st2.ep.trans HV.out.1.2.1) (st2.mem.trans HV.out.1.2.2))) (And.intro HV.out.2.1 (And.intro ag (HV.out.2.2.2.said oc))))
                      obtain ⟨x10, hx10⟩ := (x9.ext.own hx2 (fun j e => by have := (HT.out.da j e).1; omega)).ew
                      subst hx10
                      clear hL2 hG2 hx2 st1 st2 ag HT HV qc g0 g1 g2 g3 g4 g5 g6 g7 g8 g9 g10
                      go_wp2_with fail
                      go_roundg (l.length - (i + 1))
                      case measure => have := HIN.out; omega
                      case rel => exact ⟨_, i + 1, saidO bad sd oc, G2, Gb, _, gb, x10, rfl, by omega, rfl, by go_num, rfl, hsd', HT2, HV2⟩
                    · have hk1 : k = 1 := by omega
                      subst hk1
                      have qc : x9.on.cell? ⟨w.heap.size, 0, none⟩ = some (.int .i64 ep) := HT.out.bc.cell rfl
                      go_wp2_with fail
                      refine (law14_call bb Gb gb ep HE.out ⟨k0, k1, k2, k3, ec, es, ek, ekey, eb, eid, kw5⟩ HOD.out.2 _ HT.out.lb).mono ?_
                      rintro e _ ⟨rfl, G2, hL2, hG2, hx2⟩
                      obtain ⟨st1, st2⟩ := step_ok HV.out.2.1.1 ep ⟨k0, k1, k2, k3, ec, es, ek, ekey, eb, eid, kw5⟩
                      have ag := step_ag HV.out.2.2.2 ep oc (by rw [HOC.out]; exact HK0.out)
                      rw [← HDO.out] at ag
                      have HT2 := Go.Lib.hid (HT.out.callB hx2 hL2 hG2)
                      have HV2 := Go.Lib.hid (And.intro HV.out.1 (And.intro (And.intro st1 (And.intro (st2.ep.trans HV.out.2.1.2.1) (st2.mem.trans HV.out.2.1.2.2))) (And.intro (HV.out.2.2.1.said oc) ag)))
                      obtain ⟨x10, hx10⟩ := (x9.ext.own hx2 (fun j e => by have := (HT.out.db j e).1; omega)).ew
                      subst hx10
                      clear hL2 hG2 hx2 st1 st2 ag HT HV qc g0 g1 g2 g3 g4 g5 g6 g7 g8 g9 g10
                      go_wp2_with fail
                      go_roundg (l.length - (i + 1))
                      case measure => have := HIN.out; omega
                      case rel => exact ⟨_, i + 1, saidO bad sd oc, Ga, G2, ga, _, x10, rfl, by omega, rfl, by go_num, rfl, hsd', HT2, HV2⟩
              · have HNX : Hid (k + 1 = 1 → sd.length ≤ l0.length) := Go.Lib.hid (fun e => by
                  have h0 : k = 0 := by omega
                  have h1 := HNE.out h0; have h2 := HH0.out.1 h0
                  omega)
                go_wp2_with fail
                go_roundg (2 - (k + 1))
                case measure => have := HN.out; omega
                case rel => exact ⟨_, k + 1, sd, Ga, Gb, ga, gb, z, rfl, by omega, rfl, by go_num, rfl, fun e => by omega, HNX.out, HW, HV⟩
            --D]
          · go_wp2_with fail
            refine (log_Certs ba Ga ga _ (HW.out.la.extN (by (repeat (first | with_reducible exact Ext.refl _ _ | assumption | with_reducible refine Ext.upN ?_ | with_reducible refine Ext.alloc ?_ _ | with_reducible refine Ext.upA (by assumption) ?_ | with_reducible refine Ext.upW ?_ | with_reducible refine Ext.drew ?_ | with_reducible refine Ext.drewN ?_ _ | with_reducible refine Ext.upF ?_ | with_reducible refine Ext.upFF (by first | omega | simp) ?_ | with_reducible refine Ext.setCellsF _ _ _ (by first | omega | simp) ?_ | with_reducible refine Ext.setCellF _ _ _ (by first | omega | simp) ?_ | with_reducible refine Ext.upFN (by first | omega | simp) ?_ | with_reducible refine Ext.up1F (by first | omega | simp) ?_ | with_reducible refine Ext.up1N (by first | omega | simp) ?_ | with_reducible refine Ext.setCell ?_ (.inr (by first | omega | simp)) _ | refine Ext.alloc ?_ _ | refine Ext.setCellF _ _ _ (by first | omega | simp) ?_ | refine Ext.setCell ?_ (.inr (by first | omega | simp)) _)))) HV.out.1.1.sigsB).mono ?_
            rintro e _ ⟨xa, xc, rfl, hC, hx⟩
            obtain ⟨x5, rfl⟩ := hx.ew
            have HCa := Go.Lib.hid hC
            clear hC hx
            go_wp2_with fail
            refine (log_Certs bb Gb gb _ (HW.out.lb.extN (by (repeat (first | with_reducible exact Ext.refl _ _ | assumption | with_reducible refine Ext.upN ?_ | with_reducible refine Ext.alloc ?_ _ | with_reducible refine Ext.upA (by assumption) ?_ | with_reducible refine Ext.upW ?_ | with_reducible refine Ext.drew ?_ | with_reducible refine Ext.drewN ?_ _ | with_reducible refine Ext.upF ?_ | with_reducible refine Ext.upFF (by first | omega | simp) ?_ | with_reducible refine Ext.setCellsF _ _ _ (by first | omega | simp) ?_ | with_reducible refine Ext.setCellF _ _ _ (by first | omega | simp) ?_ | with_reducible refine Ext.upFN (by first | omega | simp) ?_ | with_reducible refine Ext.up1F (by first | omega | simp) ?_ | with_reducible refine Ext.up1N (by first | omega | simp) ?_ | with_reducible refine Ext.setCell ?_ (.inr (by first | omega | simp)) _ | refine Ext.alloc ?_ _ | refine Ext.setCellF _ _ _ (by first | omega | simp) ?_ | refine Ext.setCell ?_ (.inr (by first | omega | simp)) _)))) HV.out.2.1.1.sigsB).mono ?_
            rintro e _ ⟨ya, yc, rfl, hC, hx⟩
            obtain ⟨x6, rfl⟩ := hx.ew
            have HCb := Go.Lib.hid hC
            have HCa6 := Go.Lib.hid (HCa.out.extN x6.ext)
            have LAW : Hid (∀ x ∈ certsG ga, ∀ y ∈ certsG gb, x.slot = y.slot → sameT x.req y.req = true) := Go.Lib.hid (fun x hx y hy hs => agree_law HV.out.1.1 HV.out.2.1.1 (by rw [HV.out.1.2.1, HV.out.2.1.2.1]) (by rw [HV.out.1.2.2, HV.out.2.1.2.2]) HV.out.2.2.1 HV.out.2.2.2 (by rw [HV.out.1.2.2]; exact HKF.out) hx hy hs)
            have hca := HCa.out.le; have hcas := HCa.out.small; have hcb := hC.le; have hcbs := hC.small
            clear hC hx HCa
            obtain ⟨x7, hx7⟩ := (by (repeat (first | with_reducible exact Ext.refl _ _ | assumption | with_reducible refine Ext.upN ?_ | with_reducible refine Ext.alloc ?_ _ | with_reducible refine Ext.upA (by assumption) ?_ | with_reducible refine Ext.upW ?_ | with_reducible refine Ext.drew ?_ | with_reducible refine Ext.drewN ?_ _ | with_reducible refine Ext.upF ?_ | with_reducible refine Ext.upFF (by first | omega | simp) ?_ | with_reducible refine Ext.setCellsF _ _ _ (by first | omega | simp) ?_ | with_reducible refine Ext.setCellF _ _ _ (by first | omega | simp) ?_ | with_reducible refine Ext.upFN (by first | omega | simp) ?_ | with_reducible refine Ext.up1F (by first | omega | simp) ?_ | with_reducible refine Ext.up1N (by first | omega | simp) ?_ | with_reducible refine Ext.setCell ?_ (.inr (by first | omega | simp)) _ | refine Ext.alloc ?_ _ | refine Ext.setCellF _ _ _ (by first | omega | simp) ?_ | refine Ext.setCell ?_ (.inr (by first | omega | simp)) _)) : Ext Non w x6.on).ew
            rw [hx7] at HCb HCa6 ⊢
            clear hx7 x6 x5 HW
            go_wp2_with fail
            go_loopg [21, 22] (certsG ga).length (fun n iv kv wr => ∃ (i : Nat) (z : EW Non w), i ≤ (certsG ga).length ∧ n = (certsG ga).length - i ∧ iv = .int .i64 i ∧ wr = z.on ∧ Hid (Certs wr xa xc (certsG ga)) ∧ Hid (Certs wr ya yc (certsG gb)))
            case atStart => exact ⟨0, x7, Nat.zero_le _, rfl, rfl, rfl, HCa6, HCb⟩
            case round =>
              clear HCa6 HCb
              obtain ⟨i, z, hi, hin, rfl, rfl, HA, HC'⟩ := hrel
              have HIN := Go.Lib.hid hin; clear hin
              by_cases hlt : i < (certsG ga).length
              · go_wp2_with fail
                go_loopg [22] (certsG gb).length (fun n kv wr => ∃ (j : Nat) (z : EW Non w), j ≤ (certsG gb).length ∧ n = (certsG gb).length - j ∧ kv = .int .i64 j ∧ wr = z.on ∧ Hid (Certs wr xa xc (certsG ga)) ∧ Hid (Certs wr ya yc (certsG gb)))
                case atStart => exact ⟨0, z, Nat.zero_le _, rfl, rfl, rfl, HA, HC'⟩
                case round =>
                  clear HA HC'
                  obtain ⟨j, z, hj, hjn, rfl, rfl, HA, HC'⟩ := hrel
                  have HJN := Go.Lib.hid hjn; clear hjn
                  by_cases hjl : j < (certsG gb).length
                  · obtain ⟨ab, ao, sa, scap, rfl, hab, ak, -, aro, -, -⟩ := HA.out.at_ i hlt
                    obtain ⟨bb', bo, sb, sbcap, rfl, hbb, bk, -, bro, -, -⟩ := HC'.out.at_ j hjl
                    have HL : Hid ((ctAt (certsG ga) i).slot = (ctAt (certsG gb) j).slot → sameT (ctAt (certsG ga) i).req (ctAt (certsG gb) j).req = true) := Go.Lib.hid (fun h => LAW.out _ (by rw [ctAt_get hlt]; exact List.getElem_mem hlt) _ (by rw [ctAt_get hjl]; exact List.getElem_mem hjl) h)
                    generalize ctAt (certsG ga) i = u at *
                    generalize ctAt (certsG gb) j = t at *
                    obtain ⟨u0, u1, ⟨u2, u3, ⟨u4, u5, u6, u7⟩⟩, ul⟩ := u
                    obtain ⟨t0, t1, ⟨t2, t3, ⟨t4, t5, t6, t7⟩⟩, tl⟩ := t
                    have HRO := Go.Lib.hid (And.intro aro bro)
                    have a1 : z.on.cell? ⟨ab, ao + i * 9 + 1, none⟩ = some (.int .i64 u1) := ak 1 _ rfl
                    have a2 : z.on.cell? ⟨ab, ao + i * 9 + 2, none⟩ = some (.int .i64 u2) := ak 2 _ rfl
                    have a3 : z.on.cell? ⟨ab, ao + i * 9 + 3, none⟩ = some (.int .i64 u3) := ak 3 _ rfl
                    have a4 : z.on.cell? ⟨ab, ao + i * 9 + 4, none⟩ = some (.int .i64 u4) := ak 4 _ rfl
                    have a5 : z.on.cell? ⟨ab, ao + i * 9 + 5, none⟩ = some (.string u5) := ak 5 _ rfl
                    have a6 : z.on.cell? ⟨ab, ao + i * 9 + 6, none⟩ = some (.float .f64 u6) := ak 6 _ rfl
                    have a7 : z.on.cell? ⟨ab, ao + i * 9 + 7, none⟩ = some (.int .i64 u7) := ak 7 _ rfl
                    have b1 : z.on.cell? ⟨bb', bo + j * 9 + 1, none⟩ = some (.int .i64 t1) := bk 1 _ rfl
                    have b2 : z.on.cell? ⟨bb', bo + j * 9 + 2, none⟩ = some (.int .i64 t2) := bk 2 _ rfl
                    have b3 : z.on.cell? ⟨bb', bo + j * 9 + 3, none⟩ = some (.int .i64 t3) := bk 3 _ rfl
                    have b4 : z.on.cell? ⟨bb', bo + j * 9 + 4, none⟩ = some (.int .i64 t4) := bk 4 _ rfl
                    have b5 : z.on.cell? ⟨bb', bo + j * 9 + 5, none⟩ = some (.string t5) := bk 5 _ rfl
                    have b6 : z.on.cell? ⟨bb', bo + j * 9 + 6, none⟩ = some (.float .f64 t6) := bk 6 _ rfl
                    have b7 : z.on.cell? ⟨bb', bo + j * 9 + 7, none⟩ = some (.int .i64 t7) := bk 7 _ rfl
                    clear ak bk aro bro
                    by_cases hs : u1 = t1
                    · subst hs
                      have HSM : Hid (sameT ⟨u2, u3, ⟨u4, u5, u6, u7⟩⟩ ⟨t2, t3, ⟨t4, t5, t6, t7⟩⟩ = true) := Go.Lib.hid (HL.out rfl)
                      have c1 : (u1 == u1) = true := by simp
                      go_upto_region 39 with fail
                      (refine wp_region_ext_lit (by kernel_rfl) (by kernel_rfl) ?_; (repeat (go_big_quiet_step ((go_at_call 32; exact Calls.ext_ofv (ref11_Same u2 u3 u4 u5 u6 u7 t2 t3 t4 t5 t6 t7 HRO.out.1 HRO.out.2 _) (congrArg Value.bool HSM.out))))); refine wpQuiet_nil ?_; intro _ hw'; obtain ⟨xq, hw''⟩ := hw'; subst hw'')
                      have HAq := Go.Lib.hid (HA.out.extN xq.ext); have HCq := Go.Lib.hid (HC'.out.extN xq.ext)
                      go_wp2_with fail
                      go_roundg ((certsG gb).length - (j + 1))
                      case measure => have := HJN.out; omega
                      case rel => exact ⟨j + 1, ⟨_, by (repeat (first | with_reducible exact Ext.refl _ _ | assumption | with_reducible refine Ext.upN ?_ | with_reducible refine Ext.alloc ?_ _ | with_reducible refine Ext.upA (by assumption) ?_ | with_reducible refine Ext.upW ?_ | with_reducible refine Ext.drew ?_ | with_reducible refine Ext.drewN ?_ _ | with_reducible refine Ext.upF ?_ | with_reducible refine Ext.upFF (by first | omega | simp) ?_ | with_reducible refine Ext.setCellsF _ _ _ (by first | omega | simp) ?_ | with_reducible refine Ext.setCellF _ _ _ (by first | omega | simp) ?_ | with_reducible refine Ext.upFN (by first | omega | simp) ?_ | with_reducible refine Ext.up1F (by first | omega | simp) ?_ | with_reducible refine Ext.up1N (by first | omega | simp) ?_ | with_reducible refine Ext.setCell ?_ (.inr (by first | omega | simp)) _ | refine Ext.alloc ?_ _ | refine Ext.setCellF _ _ _ (by first | omega | simp) ?_ | refine Ext.setCell ?_ (.inr (by first | omega | simp)) _))⟩, by omega, rfl, by go_num, rfl, HAq, HCq⟩
                    · have c1 : (u1 == t1) = false := by simpa using hs
                      go_upto_region 39 with fail
                      (refine wp_region_ext_lit (by kernel_rfl) (by kernel_rfl) ?_; (repeat (go_big_quiet_step ((fail)))); refine wpQuiet_nil ?_; intro _ hw'; obtain ⟨xq, hw''⟩ := hw'; subst hw'')
                      have HAq := Go.Lib.hid (HA.out.extN xq.ext); have HCq := Go.Lib.hid (HC'.out.extN xq.ext)
                      go_wp2_with fail
                      go_roundg ((certsG gb).length - (j + 1))
                      case measure => have := HJN.out; omega
                      case rel => exact ⟨j + 1, ⟨_, by (repeat (first | with_reducible exact Ext.refl _ _ | assumption | with_reducible refine Ext.upN ?_ | with_reducible refine Ext.alloc ?_ _ | with_reducible refine Ext.upA (by assumption) ?_ | with_reducible refine Ext.upW ?_ | with_reducible refine Ext.drew ?_ | with_reducible refine Ext.drewN ?_ _ | with_reducible refine Ext.upF ?_ | with_reducible refine Ext.upFF (by first | omega | simp) ?_ | with_reducible refine Ext.setCellsF _ _ _ (by first | omega | simp) ?_ | with_reducible refine Ext.setCellF _ _ _ (by first | omega | simp) ?_ | with_reducible refine Ext.upFN (by first | omega | simp) ?_ | with_reducible refine Ext.up1F (by first | omega | simp) ?_ | with_reducible refine Ext.up1N (by first | omega | simp) ?_ | with_reducible refine Ext.setCell ?_ (.inr (by first | omega | simp)) _ | refine Ext.alloc ?_ _ | refine Ext.setCellF _ _ _ (by first | omega | simp) ?_ | refine Ext.setCell ?_ (.inr (by first | omega | simp)) _))⟩, by omega, rfl, by go_num, rfl, HAq, HCq⟩
                  · go_wp2_with fail
                    go_roundg ((certsG ga).length - (i + 1))
                    case measure => have := HIN.out; omega
                    case rel => exact ⟨i + 1, z, by omega, rfl, by go_num, rfl, HA, HC'⟩
              · go_wp2
                go_ret
                exact ⟨rfl, by (repeat (first | with_reducible exact Ext.refl _ _ | assumption | with_reducible refine Ext.upN ?_ | with_reducible refine Ext.alloc ?_ _ | with_reducible refine Ext.upA (by assumption) ?_ | with_reducible refine Ext.upW ?_ | with_reducible refine Ext.drew ?_ | with_reducible refine Ext.drewN ?_ _ | with_reducible refine Ext.upF ?_ | with_reducible refine Ext.upFF (by first | omega | simp) ?_ | with_reducible refine Ext.setCellsF _ _ _ (by first | omega | simp) ?_ | with_reducible refine Ext.setCellF _ _ _ (by first | omega | simp) ?_ | with_reducible refine Ext.upFN (by first | omega | simp) ?_ | with_reducible refine Ext.up1F (by first | omega | simp) ?_ | with_reducible refine Ext.up1N (by first | omega | simp) ?_ | with_reducible refine Ext.setCell ?_ (.inr (by first | omega | simp)) _ | refine Ext.alloc ?_ _ | refine Ext.setCellF _ _ _ (by first | omega | simp) ?_ | refine Ext.setCell ?_ (.inr (by first | omega | simp)) _))⟩
  · have HC := Go.Lib.hid (show confB ep xs = false by simpa using hc); clear hc
    go_enter Try.func9, Try.ntmps9
    go_wp2_with fail
    refine Calls.ew (law14_lives _) ?_
    rintro e x1 rfl
    go_wp2_with fail
    refine Calls.ew (slots_New_no ep a cap xs HC.out _ (HI.out.extN (by (repeat (first | with_reducible exact Ext.refl _ _ | assumption | with_reducible refine Ext.upN ?_ | with_reducible refine Ext.alloc ?_ _ | with_reducible refine Ext.upA (by assumption) ?_ | with_reducible refine Ext.upW ?_ | with_reducible refine Ext.drew ?_ | with_reducible refine Ext.drewN ?_ _ | with_reducible refine Ext.upF ?_ | with_reducible refine Ext.upFF (by first | omega | simp) ?_ | with_reducible refine Ext.setCellsF _ _ _ (by first | omega | simp) ?_ | with_reducible refine Ext.setCellF _ _ _ (by first | omega | simp) ?_ | with_reducible refine Ext.upFN (by first | omega | simp) ?_ | with_reducible refine Ext.up1F (by first | omega | simp) ?_ | with_reducible refine Ext.up1N (by first | omega | simp) ?_ | with_reducible refine Ext.setCell ?_ (.inr (by first | omega | simp)) _ | refine Ext.alloc ?_ _ | refine Ext.setCellF _ _ _ (by first | omega | simp) ?_ | refine Ext.setCell ?_ (.inr (by first | omega | simp)) _))))) ?_
    rintro e x2 rfl
    go_wp2_with fail
    refine Calls.ew (slots_New_no ep a cap xs HC.out _ (HI.out.extN (by (repeat (first | with_reducible exact Ext.refl _ _ | assumption | with_reducible refine Ext.upN ?_ | with_reducible refine Ext.alloc ?_ _ | with_reducible refine Ext.upA (by assumption) ?_ | with_reducible refine Ext.upW ?_ | with_reducible refine Ext.drew ?_ | with_reducible refine Ext.drewN ?_ _ | with_reducible refine Ext.upF ?_ | with_reducible refine Ext.upFF (by first | omega | simp) ?_ | with_reducible refine Ext.setCellsF _ _ _ (by first | omega | simp) ?_ | with_reducible refine Ext.setCellF _ _ _ (by first | omega | simp) ?_ | with_reducible refine Ext.upFN (by first | omega | simp) ?_ | with_reducible refine Ext.up1F (by first | omega | simp) ?_ | with_reducible refine Ext.up1N (by first | omega | simp) ?_ | with_reducible refine Ext.setCell ?_ (.inr (by first | omega | simp)) _ | refine Ext.alloc ?_ _ | refine Ext.setCellF _ _ _ (by first | omega | simp) ?_ | refine Ext.setCell ?_ (.inr (by first | omega | simp)) _))))) ?_
    rintro e x3 rfl
    go_wp2
    go_ret
    exact ⟨rfl, by (repeat (first | with_reducible exact Ext.refl _ _ | assumption | with_reducible refine Ext.upN ?_ | with_reducible refine Ext.alloc ?_ _ | with_reducible refine Ext.upA (by assumption) ?_ | with_reducible refine Ext.upW ?_ | with_reducible refine Ext.drew ?_ | with_reducible refine Ext.drewN ?_ _ | with_reducible refine Ext.upF ?_ | with_reducible refine Ext.upFF (by first | omega | simp) ?_ | with_reducible refine Ext.setCellsF _ _ _ (by first | omega | simp) ?_ | with_reducible refine Ext.setCellF _ _ _ (by first | omega | simp) ?_ | with_reducible refine Ext.upFN (by first | omega | simp) ?_ | with_reducible refine Ext.up1F (by first | omega | simp) ?_ | with_reducible refine Ext.up1N (by first | omega | simp) ?_ | with_reducible refine Ext.setCell ?_ (.inr (by first | omega | simp)) _ | refine Ext.alloc ?_ _ | refine Ext.setCellF _ _ _ (by first | omega | simp) ?_ | refine Ext.setCell ?_ (.inr (by first | omega | simp)) _))⟩
end Go.Proofs.Ytakbkpklfihfiaa
