/- Joined texts: Slots9, Slots10. What each proves stands at its head; no conditions beside those in its theorems. -/
import Derived.Test.YtakbkpklfihfiaaPjBD
/- Contracts of layer 14: Log.Proposed, Log.Committed, Log.Prepared. -/
namespace Go.Proofs.Ytakbkpklfihfiaa
open Go.RowKit Go.Lib F64
set_option linter.unusedSimpArgs false
set_option linter.unusedVariables false
attribute [local go_sem] run_store_float
attribute [local go_sem low] EW.cellN EW.frozN alloc_cell_or alloc_froz_or EW.cellF EW.frozF EW.cell1 EW.froz1
attribute [local go_sem] relAt relUpon
set_option maxHeartbeats 1000000 in
set_option maxRecDepth 100000 in
theorem log_Proposed (b : Nat) (G : Nat → Prop) (g : Lo) (n : Int) (hn : I64 n) (w : World) (h : LoW w b G g) : Calls Try.prog 47 #[.pointer (some ⟨b, 0, none⟩), .int .i64 n] w fun e w' => e = .returned (toldV (proposedO g n)) ∧ Ext Non w w' := by
  obtain ⟨a, cc, pt, P⟩ := h.parts
  have HP := Go.Lib.hid P
  have c0 := P.c0
  have HE := Go.Lib.hid h.epb
  have DP : Hid (proposedO g n = match idxN g.ep n with | none => none | some i => (g.sl i).prop) := Go.Lib.hid rfl
  clear P h
  cases hio : idxN g.ep n with
  | none =>
    have HZ : Hid (toldV (proposedO g n) = .tuple #[.agg #[.int .i64 0, .int .i64 0, .int .i64 0, .string ByteArray.empty, .float .f64 0, .int .i64 0], .bool false]) := Go.Lib.hid (by rw [DP.out, hio]; rfl)
    have HIO := Go.Lib.hid hio
    clear hio
    go_enter Try.func47, Try.ntmps47
    go_wp2_with fail
    refine (slots_at b g.ep n HE.out hn _ (by simp only [alloc_cell_or, c0, Option.some_or])).mono ?_
    rintro e _ ⟨rfl, rfl⟩
    rw [HIO.out]
    unfold atV
    go_wp2
    go_returns
    exact ⟨by rw [HZ.out]; rfl, by (repeat (first | with_reducible (first | exact Ext.refl _ _ | assumption | refine Ext.upN ?_ | refine Ext.alloc ?_ _ | refine Ext.drew ?_ | refine Ext.drewN ?_ _ | refine Ext.up1N (by first | omega | simp) ?_) | refine Ext.alloc ?_ _ | refine Ext.setCell ?_ (.inr (by first | omega | simp)) _))⟩
  | some i =>
    obtain ⟨hi, -⟩ := idxN_lt hio
    have HQ := Go.Lib.hid (HP.out.sl i hi)
    have s0 : w.cell? ⟨b, 3 + i * 5, none⟩ = some (ptV (pt i).pp) := HP.out.cs hi (show 0 < 5 by omega) rfl
    have HZ : Hid (toldV (proposedO g n) = toldV (g.sl i).prop) := Go.Lib.hid (by rw [DP.out, hio])
    have HIO := Go.Lib.hid hio
    clear hio
    go_enter Try.func47, Try.ntmps47
    go_wp2_with fail
    refine (slots_at b g.ep n HE.out hn _ (by simp only [alloc_cell_or, c0, Option.some_or])).mono ?_
    rintro e _ ⟨rfl, rfl⟩
    rw [HIO.out]
    unfold atV
    go_wp2_with fail
    refine Calls.ew (slots_told G (pt i).pp (g.sl i).prop _ (HQ.out.prop.ext (by (repeat (first | with_reducible (first | exact Ext.refl _ _ | assumption | refine Ext.upN ?_ | refine Ext.alloc ?_ _ | refine Ext.drew ?_ | refine Ext.drewN ?_ _ | refine Ext.up1N (by first | omega | simp) ?_) | refine Ext.alloc ?_ _ | refine Ext.setCell ?_ (.inr (by first | omega | simp)) _)) : Ext Non w _) (fun _ _ _ _ _ f => f) (fun _ h => h))) ?_
    rintro e x1 rfl
    have HT : Hid (toldV (g.sl i).prop = .tuple #[reqV ((g.sl i).prop.getD nullR), .bool (g.sl i).prop.isSome]) := Go.Lib.hid rfl
    rw [HT.out]
    generalize (g.sl i).prop.isSome = fs at *
    generalize (g.sl i).prop.getD nullR = fr at *
    obtain ⟨fc, fst, ⟨fk, fkey, fx, fid⟩⟩ := fr
    unfold reqV
    have hsz : w.heap.size < x1.on.heap.size := by have := x1.ext.size; simp at this; omega
    go_wp2_with (refine wpList_store_box rfl 49 _ _ rfl w.heap.size _ [.int .i64 fc, .int .i64 fst, .int .i64 fk, .string fkey, .float .f64 fx, .int .i64 fid] _ rfl rfl (Bx.extN (Bx.newAt _ _ _ _ rfl) x1.ext) rfl info_req6 (by simp [Value.oneCell']) (fun W hB => ?_); have BZ := Go.Lib.hid hB; clear hB)
    have r0 : W.on.cell? ⟨w.heap.size, 0, none⟩ = some (.int .i64 fc) := BZ.out.cell rfl
    have r1 : W.on.cell? ⟨w.heap.size, 1, none⟩ = some (.int .i64 fst) := BZ.out.cell rfl
    have r2 : W.on.cell? ⟨w.heap.size, 2, none⟩ = some (.int .i64 fk) := BZ.out.cell rfl
    have r3 : W.on.cell? ⟨w.heap.size, 3, none⟩ = some (.string fkey) := BZ.out.cell rfl
    have r4 : W.on.cell? ⟨w.heap.size, 4, none⟩ = some (.float .f64 fx) := BZ.out.cell rfl
    have r5 : W.on.cell? ⟨w.heap.size, 5, none⟩ = some (.int .i64 fid) := BZ.out.cell rfl
    exact bodyPost_ret (v := .tuple #[.agg #[.int .i64 fc, .int .i64 fst, .int .i64 fk, .string fkey, .float .f64 fx, .int .i64 fid], .bool fs]) (by simp [results, Try.results47, go_sem, r0, r1, r2, r3, r4, r5]) rfl ⟨by rw [HZ.out, HT.out]; rfl, by (repeat (first | with_reducible (first | exact Ext.refl _ _ | assumption | refine Ext.upN ?_ | refine Ext.alloc ?_ _ | refine Ext.drew ?_ | refine Ext.drewN ?_ _ | refine Ext.up1N (by first | omega | simp) ?_) | refine Ext.alloc ?_ _ | refine Ext.setCell ?_ (.inr (by first | omega | simp)) _))⟩
set_option maxHeartbeats 1000000 in
set_option maxRecDepth 100000 in
theorem log_Committed (b : Nat) (G : Nat → Prop) (g : Lo) (n : Int) (hn : I64 n) (w : World) (h : LoW w b G g) : Calls Try.prog 42 #[.pointer (some ⟨b, 0, none⟩), .int .i64 n] w fun e w' => e = .returned (toldV (committedO g n)) ∧ Ext Non w w' := by
  obtain ⟨a, cc, pt, P⟩ := h.parts
  have HP := Go.Lib.hid P
  have c0 := P.c0
  have HE := Go.Lib.hid h.epb
  have DP : Hid (committedO g n = match idxN g.ep n with | none => none | some i => (g.sl i).done) := Go.Lib.hid rfl
  clear P h
  cases hio : idxN g.ep n with
  | none =>
    have HZ : Hid (toldV (committedO g n) = .tuple #[.agg #[.int .i64 0, .int .i64 0, .int .i64 0, .string ByteArray.empty, .float .f64 0, .int .i64 0], .bool false]) := Go.Lib.hid (by rw [DP.out, hio]; rfl)
    have HIO := Go.Lib.hid hio
    clear hio
    go_enter Try.func42, Try.ntmps42
    go_wp2_with fail
    refine (slots_at b g.ep n HE.out hn _ (by simp only [alloc_cell_or, c0, Option.some_or])).mono ?_
    rintro e _ ⟨rfl, rfl⟩
    rw [HIO.out]
    unfold atV
    go_wp2
    go_returns
    exact ⟨by rw [HZ.out]; rfl, by (repeat (first | with_reducible (first | exact Ext.refl _ _ | assumption | refine Ext.upN ?_ | refine Ext.alloc ?_ _ | refine Ext.drew ?_ | refine Ext.drewN ?_ _ | refine Ext.up1N (by first | omega | simp) ?_) | refine Ext.alloc ?_ _ | refine Ext.setCell ?_ (.inr (by first | omega | simp)) _))⟩
  | some i =>
    obtain ⟨hi, -⟩ := idxN_lt hio
    have HQ := Go.Lib.hid (HP.out.sl i hi)
    have s0 : w.cell? ⟨b, 3 + i * 5 + 4, none⟩ = some (ptV (pt i).pd) := HP.out.cs hi (show 4 < 5 by omega) rfl
    have HZ : Hid (toldV (committedO g n) = toldV (g.sl i).done) := Go.Lib.hid (by rw [DP.out, hio])
    have HIO := Go.Lib.hid hio
    clear hio
    go_enter Try.func42, Try.ntmps42
    go_wp2_with fail
    refine (slots_at b g.ep n HE.out hn _ (by simp only [alloc_cell_or, c0, Option.some_or])).mono ?_
    rintro e _ ⟨rfl, rfl⟩
    rw [HIO.out]
    unfold atV
    go_wp2_with fail
    refine Calls.ew (slots_told G (pt i).pd (g.sl i).done _ (HQ.out.done.ext (by (repeat (first | with_reducible (first | exact Ext.refl _ _ | assumption | refine Ext.upN ?_ | refine Ext.alloc ?_ _ | refine Ext.drew ?_ | refine Ext.drewN ?_ _ | refine Ext.up1N (by first | omega | simp) ?_) | refine Ext.alloc ?_ _ | refine Ext.setCell ?_ (.inr (by first | omega | simp)) _)) : Ext Non w _) (fun _ _ _ _ _ f => f) (fun _ h => h))) ?_
    rintro e x1 rfl
    have HT : Hid (toldV (g.sl i).done = .tuple #[reqV ((g.sl i).done.getD nullR), .bool (g.sl i).done.isSome]) := Go.Lib.hid rfl
    rw [HT.out]
    generalize (g.sl i).done.isSome = fs at *
    generalize (g.sl i).done.getD nullR = fr at *
    obtain ⟨fc, fst, ⟨fk, fkey, fx, fid⟩⟩ := fr
    unfold reqV
    have hsz : w.heap.size < x1.on.heap.size := by have := x1.ext.size; simp at this; omega
    go_wp2_with (refine wpList_store_box rfl 49 _ _ rfl w.heap.size _ [.int .i64 fc, .int .i64 fst, .int .i64 fk, .string fkey, .float .f64 fx, .int .i64 fid] _ rfl rfl (Bx.extN (Bx.newAt _ _ _ _ rfl) x1.ext) rfl info_req6 (by simp [Value.oneCell']) (fun W hB => ?_); have BZ := Go.Lib.hid hB; clear hB)
    have r0 : W.on.cell? ⟨w.heap.size, 0, none⟩ = some (.int .i64 fc) := BZ.out.cell rfl
    have r1 : W.on.cell? ⟨w.heap.size, 1, none⟩ = some (.int .i64 fst) := BZ.out.cell rfl
    have r2 : W.on.cell? ⟨w.heap.size, 2, none⟩ = some (.int .i64 fk) := BZ.out.cell rfl
    have r3 : W.on.cell? ⟨w.heap.size, 3, none⟩ = some (.string fkey) := BZ.out.cell rfl
    have r4 : W.on.cell? ⟨w.heap.size, 4, none⟩ = some (.float .f64 fx) := BZ.out.cell rfl
    have r5 : W.on.cell? ⟨w.heap.size, 5, none⟩ = some (.int .i64 fid) := BZ.out.cell rfl
    exact bodyPost_ret (v := .tuple #[.agg #[.int .i64 fc, .int .i64 fst, .int .i64 fk, .string fkey, .float .f64 fx, .int .i64 fid], .bool fs]) (by simp [results, Try.results42, go_sem, r0, r1, r2, r3, r4, r5]) rfl ⟨by rw [HZ.out, HT.out]; rfl, by (repeat (first | with_reducible (first | exact Ext.refl _ _ | assumption | refine Ext.upN ?_ | refine Ext.alloc ?_ _ | refine Ext.drew ?_ | refine Ext.drewN ?_ _ | refine Ext.up1N (by first | omega | simp) ?_) | refine Ext.alloc ?_ _ | refine Ext.setCell ?_ (.inr (by first | omega | simp)) _))⟩
set_option maxHeartbeats 1000000 in
set_option maxRecDepth 100000 in
theorem log_Prepared (b : Nat) (G : Nat → Prop) (g : Lo) (n : Int) (hn : I64 n) (w : World) (h : LoW w b G g) : Calls Try.prog 52 #[.pointer (some ⟨b, 0, none⟩), .int .i64 n] w fun e w' => e = .returned (.bool (preparedB g n)) ∧ Ext Non w w' := by
  obtain ⟨a, cc, pt, P⟩ := h.parts
  have HP := Go.Lib.hid P
  have c0 := P.c0
  have c1 := P.c1
  have hml := h.len
  have HE := Go.Lib.hid h.epb
  have DP : Hid (preparedB g n = match idxN g.ep n with | none => false | some i => enoughB g.mem (agreeO (g.sl i).prep (g.sl i).prop g.mem).length) := Go.Lib.hid rfl
  clear P h
  cases hio : idxN g.ep n with
  | none =>
    have HZ : Hid (preparedB g n = false) := Go.Lib.hid (by rw [DP.out, hio])
    have HIO := Go.Lib.hid hio
    clear hio
    go_enter Try.func52, Try.ntmps52
    go_wp2_with fail
    refine (slots_at b g.ep n HE.out hn _ c0).mono ?_
    rintro e _ ⟨rfl, rfl⟩
    rw [HIO.out]
    unfold atV
    go_wp2
    go_ret
    exact ⟨ret_bool HZ.out.symm, by (repeat (first | with_reducible (first | exact Ext.refl _ _ | assumption | refine Ext.upN ?_ | refine Ext.alloc ?_ _ | refine Ext.drew ?_ | refine Ext.drewN ?_ _ | refine Ext.up1N (by first | omega | simp) ?_) | refine Ext.alloc ?_ _ | refine Ext.setCell ?_ (.inr (by first | omega | simp)) _))⟩
  | some i =>
    obtain ⟨hi, -⟩ := idxN_lt hio
    have HQ := Go.Lib.hid (HP.out.sl i hi)
    have s0 : w.cell? ⟨b, 3 + i * 5, none⟩ = some (ptV (pt i).pp) := HP.out.cs hi (show 0 < 5 by omega) rfl
    have s1 : w.cell? ⟨b, 3 + i * 5 + 1, none⟩ = some (.map (some (pt i).m1)) := HP.out.cs hi (show 1 < 5 by omega) rfl
    have HZ : Hid (preparedB g n = enoughB g.mem (agreeO (g.sl i).prep (g.sl i).prop g.mem).length) := Go.Lib.hid (by rw [DP.out, hio])
    have HIO := Go.Lib.hid hio
    have AG := Go.Lib.hid (slots_agree b (3 + i * 5) a cc g.mem (by omega) (pt i).m1 (g.sl i).prep HQ.out.ok1 G (pt i).pp (g.sl i).prop w c1 HP.out.ints s0 HQ.out.prop HQ.out.prep)
    clear hio s0
    go_enter Try.func52, Try.ntmps52
    go_wp2_with fail
    refine (slots_at b g.ep n HE.out hn _ c0).mono ?_
    rintro e _ ⟨rfl, rfl⟩
    rw [HIO.out]
    unfold atV
    go_wp2_with fail
    refine AG.out.mono ?_
    rintro e _ ⟨sa, scap, rfl, hS, hx, hf⟩
    obtain ⟨x1, rfl⟩ := hx.ew
    clear hS hx hf AG
    generalize hal : (agreeO (g.sl i).prep (g.sl i).prop g.mem).length = al at *
    clear hal
    go_wp2_with fail
    refine (slots_enough b a cc g.mem (by omega) sa al scap _ (by simp only [EW.cellN, c1, Option.some_or])).mono ?_
    rintro e _ ⟨rfl, rfl⟩
    generalize enoughB g.mem al = eb at *
    go_wp2
    go_ret
    exact ⟨ret_bool HZ.out.symm, by (repeat (first | with_reducible (first | exact Ext.refl _ _ | assumption | refine Ext.upN ?_ | refine Ext.alloc ?_ _ | refine Ext.drew ?_ | refine Ext.drewN ?_ _ | refine Ext.up1N (by first | omega | simp) ?_) | refine Ext.alloc ?_ _ | refine Ext.setCell ?_ (.inr (by first | omega | simp)) _))⟩
end Go.Proofs.Ytakbkpklfihfiaa

/- Contracts of layer 14: Log.Size. -/
namespace Go.Proofs.Ytakbkpklfihfiaa
open Go.RowKit Go.Lib F64
set_option linter.unusedSimpArgs false
set_option linter.unusedVariables false
attribute [local go_sem] run_store_float
attribute [local go_sem low] EW.cellN EW.frozN alloc_cell_or alloc_froz_or EW.cellF EW.frozF EW.cell1 EW.froz1
attribute [local go_sem] relAt relUpon
def slotV (p : Pt) : Value := .agg #[ptV p.pp, .map (some p.m1), .map (some p.m2), ptV p.pc, ptV p.pd]
theorem run_index4 (pt : Nat → Pt) : ∀ (k : Nat) (hk : k < 4) (w : World), (Instr.index 127 (.agg #[ptV (pt 0).pp, .map (some (pt 0).m1), .map (some (pt 0).m2), ptV (pt 0).pc, ptV (pt 0).pd, ptV (pt 1).pp, .map (some (pt 1).m1), .map (some (pt 1).m2), ptV (pt 1).pc, ptV (pt 1).pd, ptV (pt 2).pp, .map (some (pt 2).m1), .map (some (pt 2).m2), ptV (pt 2).pc, ptV (pt 2).pd, ptV (pt 3).pp, .map (some (pt 3).m1), .map (some (pt 3).m2), ptV (pt 3).pc, ptV (pt 3).pd]) (.int .i64 (k : Int))).run Try.prog w = .ok (slotV (pt k)) w
  | 0, _, w => by kernel_rfl
  | 1, _, w => by kernel_rfl
  | 2, _, w => by kernel_rfl
  | 3, _, w => by kernel_rfl
theorem info_slot : (Try.prog.info? 126).map (·.size) = some 5 := by kernel_rfl
theorem info_arr4 : (Try.prog.info? 127).map (·.size) = some 20 := by kernel_rfl
def sizeTo (g : Lo) : Nat → Nat
  | 0 => 0
  | k + 1 => sizeTo g k + sizeS (g.sl k)
theorem sizeTo_four (g : Lo) : sizeTo g 4 = sizeG g := by unfold sizeG; simp [sizeTo]
/-- No more votes than a count holds. -/
def FewB (g : Lo) : Prop := ∀ i, i < 4 → (g.sl i).prep.length ≤ 1000 ∧ (g.sl i).com.length ≤ 1000
theorem sizeTo_le {g : Lo} (h : FewB g) : ∀ k, k ≤ 4 → sizeTo g k ≤ k * 2001
  | 0, _ => Nat.zero_le _
  | k + 1, hk => by
    have := sizeTo_le h k (by omega)
    have hh := h k (by omega)
    unfold sizeTo sizeS
    split <;> omega
set_option maxHeartbeats 2000000 in
set_option maxRecDepth 100000 in
theorem log_Size (b : Nat) (G : Nat → Prop) (g : Lo) (w : World) (h : LoW w b G g) (hf : FewB g) : Calls Try.prog 40 #[.pointer (some ⟨b, 0, none⟩)] w fun e w' => e = .returned (.int .i64 (sizeG g)) ∧ Ext Non w w' := by
  obtain ⟨a, cc, pt, P⟩ := h.parts
  have HP := Go.Lib.hid P
  have HF := Go.Lib.hid hf
  obtain ⟨R, hR⟩ : ∃ R, R = (pt 0).row ++ ((pt 1).row ++ ((pt 2).row ++ (pt 3).row)) := ⟨_, rfl⟩
  have hrg : w.rangeAt b 3 R := fun j v hv => cell_of_heap P.h (by
    rw [hR] at hv
    rw [Nat.add_comm]
    exact hv)
  have hix0 : ∀ (k : Nat) (hk : k < 4) (w : World), (Instr.index 127 (.agg R.toArray) (.int .i64 (k : Int))).run Try.prog w = .ok (slotV (pt k)) w := by rw [hR]; exact run_index4 pt
  have hsz : (Try.prog.info? 127).map (·.size) = some R.length := by rw [hR]; exact info_arr4
  have HIX := Go.Lib.hid hix0; have HRG := Go.Lib.hid (And.intro hrg hsz)
  clear P h hf hR hrg hix0 hsz
  go_enter Try.func40, Try.ntmps40
  go_upto_region 5 with (refine wpList_load_mid rfl 127 _ rfl b 3 rfl R _ HRG.out.1 Try.underlying127 rfl HRG.out.2 ?_)
  go_loopg [3, 12] 4 (fun gg nv iv wr => ∃ (k : Nat) (z : EW Non w), k ≤ 4 ∧ gg = 4 - k ∧ nv = .int .i64 (sizeTo g k : Nat) ∧ iv = .int .i64 k ∧ wr = z.on)
  case atStart => exact ⟨0, ⟨_, by (repeat (first | with_reducible (first | exact Ext.refl _ _ | assumption | refine Ext.upN ?_ | refine Ext.alloc ?_ _ | refine Ext.drew ?_ | refine Ext.drewN ?_ _ | refine Ext.up1N (by first | omega | simp) ?_) | refine Ext.alloc ?_ _ | refine Ext.setCell ?_ (.inr (by first | omega | simp)) _))⟩, by omega, rfl, rfl, rfl, rfl⟩
  case round =>
    obtain ⟨k, z, hk, hg, rfl, rfl, rfl⟩ := hrel
    have HG := Go.Lib.hid hg; clear hg
    by_cases hlt : k < 4
    · have Q := HP.out.sl k hlt
      have HQ := Go.Lib.hid Q
      have hix := HIX.out k hlt z.on
      have HST : Hid (sizeTo g (k + 1) = sizeTo g k + sizeS (g.sl k)) := Go.Lib.hid rfl
      have HSS : Hid (sizeS (g.sl k) = (g.sl k).prep.length + (g.sl k).com.length + (if (g.sl k).prop.isSome then 1 else 0)) := Go.Lib.hid rfl
      obtain ⟨b1, b2⟩ := HF.out k hlt
      have b3 := sizeTo_le HF.out k (by omega)
      unfold slotV at hix
      go_upto_region 7 with (refine wpList_store_box rfl 126 _ _ rfl z.on.heap.size _ [ptV (pt k).pp, .map (some (pt k).m1), .map (some (pt k).m2), ptV (pt k).pc, ptV (pt k).pd] _ rfl rfl (Bx.newAt _ _ _ _ rfl) rfl info_slot (by simp [Value.oneCell', ptV]) (fun W hB => ?_); have BZ := Go.Lib.hid hB; clear hB)
      obtain ⟨x5, hx5⟩ := (by (repeat (first | with_reducible (first | exact Ext.refl _ _ | assumption | refine Ext.upN ?_ | refine Ext.alloc ?_ _ | refine Ext.drew ?_ | refine Ext.drewN ?_ _ | refine Ext.up1N (by first | omega | simp) ?_) | refine Ext.alloc ?_ _ | refine Ext.setCell ?_ (.inr (by first | omega | simp)) _)) : Ext Non z.on W.on).ew
      rw [hx5] at BZ ⊢
      clear hx5 hix
      simp only [Act.put]
      have r0 : x5.on.cell? ⟨z.on.heap.size, 0, none⟩ = some (ptV (pt k).pp) := BZ.out.cell rfl
      have r1 : x5.on.cell? ⟨z.on.heap.size, 1, none⟩ = some (.map (some (pt k).m1)) := BZ.out.cell rfl
      have r2 : x5.on.cell? ⟨z.on.heap.size, 2, none⟩ = some (.map (some (pt k).m2)) := BZ.out.cell rfl
      have hl1 : (Builtin.len_ #[123] 3 #[.map (some (pt k).m1)]).run Try.prog x5.on = .ok (.int .i64 (g.sl k).prep.length) x5.on := MapG.len Try.underlying123 ((HQ.out.prep.extN z.ext).extN x5.ext) _
      have hl2 : (Builtin.len_ #[123] 3 #[.map (some (pt k).m2)]).run Try.prog x5.on = .ok (.int .i64 (g.sl k).com.length) x5.on := MapG.len Try.underlying123 ((HQ.out.com.extN z.ext).extN x5.ext) _
      have HPC : Hid (((pt k).pp = none ∧ sizeTo g (k + 1) = sizeTo g k + ((g.sl k).prep.length + (g.sl k).com.length)) ∨ (∃ kr, (pt k).pp = some kr ∧ sizeTo g (k + 1) = sizeTo g k + ((g.sl k).prep.length + (g.sl k).com.length) + 1)) := Go.Lib.hid (by
        rcases Q.prop with ⟨q1, q2⟩ | ⟨kr, r, q1, q2, -⟩
        · exact .inl ⟨q1, by rw [HST.out, HSS.out, q2]; rfl⟩
        · exact .inr ⟨kr, q1, by rw [HST.out, HSS.out, q2]; rfl⟩)
      clear Q HST HSS HQ
      generalize (g.sl k).prep.length = pl at *
      generalize (g.sl k).com.length = cl at *
      generalize sizeTo g k = sz at *
      have hw1 : IntKind.i64.wrap ((pl : Int) + (cl : Int)) = (pl : Int) + (cl : Int) := IntWalk.i64_in _ (by omega)
      have hw2 : IntKind.i64.wrap ((sz : Int) + ((pl : Int) + (cl : Int))) = (sz : Int) + ((pl : Int) + (cl : Int)) := IntWalk.i64_in _ (by omega)
      have hw3 : IntKind.i64.wrap ((sz : Int) + ((pl : Int) + (cl : Int)) + 1) = (sz : Int) + ((pl : Int) + (cl : Int)) + 1 := IntWalk.i64_in _ (by omega)
      rcases HPC.out with ⟨q1, HN⟩ | ⟨kr, q1, HN⟩
      · have HN := Go.Lib.hid HN
        have r0' : x5.on.cell? ⟨z.on.heap.size, 0, none⟩ = some (.pointer none) := by rw [r0, q1]; rfl
        clear r0 q1
        go_wp2_with fail
        go_roundg (4 - (k + 1))
        case measure => have := HG.out; omega
        case rel => exact ⟨k + 1, ⟨_, by (repeat (first | with_reducible (first | exact Ext.refl _ _ | assumption | refine Ext.upN ?_ | refine Ext.alloc ?_ _ | refine Ext.drew ?_ | refine Ext.drewN ?_ _ | refine Ext.up1N (by first | omega | simp) ?_) | refine Ext.alloc ?_ _ | refine Ext.setCell ?_ (.inr (by first | omega | simp)) _))⟩, by omega, rfl, by rw [HN.out]; go_num, by go_num, rfl⟩
      · have HN := Go.Lib.hid HN
        have r0' : x5.on.cell? ⟨z.on.heap.size, 0, none⟩ = some (.pointer (some ⟨kr, 0, none⟩)) := by rw [r0, q1]; rfl
        clear r0 q1
        go_wp2_with fail
        go_roundg (4 - (k + 1))
        case measure => have := HG.out; omega
        case rel => exact ⟨k + 1, ⟨_, by (repeat (first | with_reducible (first | exact Ext.refl _ _ | assumption | refine Ext.upN ?_ | refine Ext.alloc ?_ _ | refine Ext.drew ?_ | refine Ext.drewN ?_ _ | refine Ext.up1N (by first | omega | simp) ?_) | refine Ext.alloc ?_ _ | refine Ext.setCell ?_ (.inr (by first | omega | simp)) _))⟩, by omega, rfl, by rw [HN.out]; go_num, by go_num, rfl⟩
    · obtain rfl : k = 4 := by omega
      have HS4 := Go.Lib.hid (sizeTo_four g)
      go_wp2
      go_ret
      exact ⟨ret_int (by rw [HS4.out]), by (repeat (first | with_reducible (first | exact Ext.refl _ _ | assumption | refine Ext.upN ?_ | refine Ext.alloc ?_ _ | refine Ext.drew ?_ | refine Ext.drewN ?_ _ | refine Ext.up1N (by first | omega | simp) ?_) | refine Ext.alloc ?_ _ | refine Ext.setCell ?_ (.inr (by first | omega | simp)) _))⟩
end Go.Proofs.Ytakbkpklfihfiaa
