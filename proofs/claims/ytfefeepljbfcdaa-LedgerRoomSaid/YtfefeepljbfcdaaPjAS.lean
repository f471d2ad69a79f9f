/- Joined texts: Ew5, Rd01. What each proves stands at its head; no conditions beside those in its theorems. -/
import Derived.Maps.AppendAt
import Derived.Test.YtfefeepljbfcdaaPjAA
import Derived.Test.YtfefeepljbfcdaaPjAB
import Derived.Test.YtfefeepljbfcdaaPjAE
import Derived.Test.YtfefeepljbfcdaaPjAI
import Derived.Test.YtfefeepljbfcdaaPjAM
import Derived.Test.YtfefeepljbfcdaaPjAF
import Derived.Test.YtfefeepljbfcdaaPjAJ
import Derived.Test.YtfefeepljbfcdaaPjAK
import Derived.Test.YtfefeepljbfcdaaPjAN
import Derived.Test.YtfefeepljbfcdaaPjAR
import Derived.Test.YtfefeepljbfcdaaPjAC
/- Footprints: an append writes its own row alone, or a new block. -/
namespace Go.Proofs.Ytfefeepljbfcdaa
open Go.RowKit
set_option linter.unusedVariables false

/-- The block of a row. -/
def Row (v : Value) : Nat → Prop := fun k => v.ownBlock = some k
theorem Bx.drew {w : World} {k : Nat} {vs : List Value} {t : TypeId} (h : Bx w k vs t) : Bx w.drew k vs t := ⟨h.h⟩
theorem own_row {w : World} {base : Nat} {e : TypeId} {size : Nat} {v : Value} {n : Nat} {xs : List Value} (h : w.ownsRow base e size v n xs) : ∀ k, Row v k → base ≤ k ∧ k < w.heap.size := fun k hk => h.lt k hk
end Go.Proofs.Ytfefeepljbfcdaa

/- The reference of layer 1 (pack): its reader. -/
namespace Go.Proofs.Ytfefeepljbfcdaa
open Go.RowKit Go.Lib
set_option linter.unusedSimpArgs false
set_option linter.unusedVariables false
attribute [local go_sem] run_store_float
attribute [local go_sem low] EW.cellN EW.frozN alloc_cell_or alloc_froz_or EW.cellF EW.frozF EW.cell1 EW.froz1
/-- A reader of the reference, in its box. -/
structure RdW (w : World) (b : Nat) (r : Rd) : Prop where
  box : Bx w b [.string (sB r.s), .bool r.bad] 105
  small : r.s.length ≤ 4611686018427387904
theorem RdW.extN {w w' : World} {b : Nat} {r : Rd} (h : RdW w b r) (x : Ext Non w w') : RdW w' b r := ⟨h.box.extN x, h.small⟩
theorem RdW.ext {S : Nat → Prop} {w w' : World} {b : Nat} {r : Rd} (h : RdW w b r) (x : Ext S w w') (hs : ¬ S b) : RdW w' b r := ⟨h.box.ext x hs, h.small⟩
theorem sB_extract (l : List UInt8) (a b : Nat) : (sB l).extract a b = sB ((l.drop a).take (b - a)) := by
  apply ByteArray.ext
  apply Array.ext'
  rw [sB_toList]
  simp [sB, ByteArray.data_extract]
theorem sB_drop (l : List UInt8) (a : Nat) : (sB l).extract a (sB l).size = sB (l.drop a) := by
  rw [sB_extract, sB_size, List.take_of_length_le (by simp)]
theorem sB_get (l : List UInt8) (i : Nat) (h : i < (sB l).size) : (sB l)[i] = l[i]'(by rw [sB_size] at h; exact h) := by
  unfold sB; rfl
set_option maxHeartbeats 1000000 in
set_option maxRecDepth 100000 in
theorem rd_Bits (b : Nat) (r : Rd) (k : Nat) (hk : k ≤ 8) (w : World) (h : RdW w b r) : Calls Try.prog 54 #[.pointer (some ⟨b, 0, none⟩), .int .i64 (k : Int)] w fun e w' =>
    e = .returned (.int .u64 (numV k r : Nat)) ∧ Ext (One b) w w' ∧ RdW w' b (numR k r) := by
  obtain ⟨l, bad⟩ := r
  have HB := Go.Lib.hid h.box
  have hsm : (sB l).size ≤ 4611686018427387904 := by rw [sB_size]; exact h.small
  have HSM := Go.Lib.hid h.small
  have HSZ := Go.Lib.hid (sB_size l)
  have q0 : w.cell? ⟨b, 0, none⟩ = some (.string (sB l)) := h.box.cell rfl
  have q1 : w.cell? ⟨b, 1, none⟩ = some (.bool bad) := h.box.cell rfl
  have z0 : w.frozen? ⟨b, 0, none⟩ = false := froz_of_heap h.box.h
  have z1 : w.frozen? ⟨b, 1, none⟩ = false := froz_of_heap h.box.h
  clear h
  cases hc : canR k ⟨l, bad⟩
  · have HV : Hid (numV k ⟨l, bad⟩ = 0 ∧ numR k ⟨l, bad⟩ = ⟨l, true⟩) := Go.Lib.hid (by unfold numV numR; rw [hc]; exact ⟨rfl, rfl⟩)
    have X : Ext (One b) w (w.setCell ⟨b, 1, none⟩ (.bool true)) := (Ext.refl _ _).set1 _
    have HE : Hid (RdW (w.setCell ⟨b, 1, none⟩ (.bool true)) b ⟨l, true⟩) := Go.Lib.hid ⟨HB.out.set (j := 1) (.bool true), HSM.out⟩
    cases bad
    · have hlt : (sB l).size < k := by
        rw [sB_size]
        unfold canR at hc
        simpa using hc
      have dd : decide ((sB l).size < k) = true := decide_eq_true hlt
      clear hc hlt
      generalize sB l = s at *
      go_enter Try.func54, Try.ntmps54
      go_wp2
      go_returns
      exact ⟨by rw [HV.out.1]; rfl, X, by rw [HV.out.2]; exact HE.out⟩
    · clear hc
      generalize sB l = s at *
      go_enter Try.func54, Try.ntmps54
      go_wp2
      go_returns
      exact ⟨by rw [HV.out.1]; rfl, X, by rw [HV.out.2]; exact HE.out⟩
  · have hc2 : bad = false ∧ k ≤ l.length := by unfold canR at hc; simpa using hc
    obtain ⟨rfl, hkl⟩ := hc2
    have HV : Hid (numV k ⟨l, false⟩ = beN (l.take k) ∧ numR k ⟨l, false⟩ = ⟨l.drop k, false⟩) := Go.Lib.hid (by unfold numV numR; rw [hc]; exact ⟨rfl, rfl⟩)
    have dd : decide ((sB l).size < k) = false := decide_eq_false (by rw [sB_size]; omega)
    have HDR := Go.Lib.hid (sB_drop l k)
    have hks : k ≤ (sB l).size := by rw [sB_size]; exact hkl
    clear hc
    go_enter Try.func54, Try.ntmps54
    go_wp2_with fail
    go_loopg [5, 6] k (fun g nv iv wr => ∃ i : Nat, i ≤ k ∧ g = k - i ∧ nv = .int .u64 (beN (l.take i) : Nat) ∧ iv = .int .i64 i ∧ w = wr)
    case atStart => exact ⟨0, Nat.zero_le _, rfl, rfl, rfl, rfl⟩
    case round =>
      obtain ⟨i, hi, hg, rfl, rfl, rfl⟩ := hrel
      have HG := Go.Lib.hid hg; clear hg
      by_cases hlt : i < k
      · have hil : i < l.length := by omega
        have his : i < (sB l).size := by omega
        have HT := Go.Lib.hid (beN_take hil)
        have hge := sB_get l i his
        have hb := beN_lt i (l.take i) (by rw [List.length_take]; omega)
        have hp : 256 ^ i ≤ 256 ^ 7 := Nat.pow_le_pow_right (by decide) (by omega)
        have hp7 : (256 : Nat) ^ 7 = 72057594037927936 := by decide
        generalize beN (l.take i) = n at *
        have hcl : (l[i]).toNat < 256 := UInt8.toNat_lt _
        have hbn : n ≤ 72057594037927936 := by omega
        have HGE := Go.Lib.hid hge
        have w1 : IntKind.u64.wrap ((n : Int) * 256) = (n : Int) * 256 := by show ((n : Int) * 256) % 18446744073709551616 = _; omega
        have w0 : IntKind.u64.wrap ((sB l)[i].toNat : Int) = ((sB l)[i].toNat : Int) := by rw [hge]; show ((l[i]).toNat : Int) % 18446744073709551616 = _; omega
        have w2 : IntKind.u64.wrap ((n : Int) * 256 + ((sB l)[i].toNat : Int)) = (n : Int) * 256 + ((sB l)[i].toNat : Int) := by rw [hge]; show ((n : Int) * 256 + ((l[i]).toNat : Int)) % 18446744073709551616 = _; omega
        clear hb hp hp7 hge
        go_wp2_with fail
        go_roundg (k - (i + 1))
        case measure => have := HG.out; omega
        case rel => exact ⟨i + 1, hlt, rfl, by rw [HT.out, ← HGE.out]; go_num, by go_num, rfl⟩
      · obtain rfl : i = k := by omega
        go_wp2
        go_returns
        have X : Ext (One b) w (w.setCell ⟨b, 0, none⟩ (.string (sB (l.drop i)))) := (Ext.refl _ _).set1 _
        rw [HDR.out]
        refine ⟨by rw [HV.out.1]; rfl, X, ?_⟩
        rw [HV.out.2]
        exact ⟨HB.out.set (j := 0) (.string (sB (l.drop i))), by show (l.drop i).length ≤ _; rw [List.length_drop]; have : l.length ≤ 4611686018427387904 := HSM.out; omega⟩
theorem rd_Num (b : Nat) (r : Rd) (k : Nat) (hk : k ≤ 4) (w : World) (h : RdW w b r) : Calls Try.prog 51 #[.pointer (some ⟨b, 0, none⟩), .int .i64 (k : Int)] w fun e w' =>
    e = .returned (.int .i64 (numV k r : Nat)) ∧ Ext (One b) w w' ∧ RdW w' b (numR k r) := by
  have HH := Go.Lib.hid h
  have hv := numV_lt k r
  have hp : 256 ^ k ≤ 256 ^ 4 := Nat.pow_le_pow_right (by decide) hk
  have hp4 : (256 : Nat) ^ 4 = 4294967296 := by decide
  generalize hn : numV k r = n at *
  have HN := Go.Lib.hid hn
  have hw1 : IntKind.i64.wrap (n : Int) = (n : Int) := IntWalk.i64_in _ (by omega)
  clear h hv hp hp4 hn
  go_enter Try.func51, Try.ntmps51
  go_wp2_with fail
  refine (rd_Bits b r k (by omega) _ HH.out).mono ?_
  rintro e w2 ⟨rfl, hx, hr⟩
  rw [HN.out]
  go_wp2
  go_returns
  exact ⟨rfl, hx, hr⟩
theorem cut_mid (s : ByteArray) (n : Nat) (h : 2 + n ≤ s.size) (W : World) : (Instr.slice 9 (.string s) (some (.int .i64 2)) (some (.int .i64 (2 + (n : Int)))) none).run Try.prog W = .ok (.string (s.extract 2 (2 + n))) W := by
  rw [run_slice_string W 9 s .i64 .i64 2 (2 + (n : Int)) Try.underlying9 (by omega) (by omega) (by omega)]
  rw [show ((2 : Int) + (n : Int)).toNat = 2 + n by omega]; rfl
theorem cut_end (s : ByteArray) (n : Nat) (h : 2 + n ≤ s.size) (W : World) : (Instr.slice 9 (.string s) (some (.int .i64 (2 + (n : Int)))) none none).run Try.prog W = .ok (.string (s.extract (2 + n) s.size)) W := by
  have := run_slice_string_from_if (P := Try.prog) W 9 s .i64 (2 + (n : Int)) Try.underlying9
  rw [this, if_pos (by omega)]
  rw [show ((2 : Int) + (n : Int)).toNat = 2 + n by omega]
set_option maxHeartbeats 1000000 in
set_option maxRecDepth 100000 in
theorem rd_Text (b : Nat) (r : Rd) (w : World) (h : RdW w b r) : Calls Try.prog 53 #[.pointer (some ⟨b, 0, none⟩)] w fun e w' =>
    e = .returned (.string (sB (textV r))) ∧ Ext (One b) w w' ∧ RdW w' b (textR r) := by
  obtain ⟨l, bad⟩ := r
  have HB := Go.Lib.hid h.box
  have hsm : (sB l).size ≤ 4611686018427387904 := by rw [sB_size]; exact h.small
  have HSM := Go.Lib.hid h.small
  have q0 : w.cell? ⟨b, 0, none⟩ = some (.string (sB l)) := h.box.cell rfl
  have q1 : w.cell? ⟨b, 1, none⟩ = some (.bool bad) := h.box.cell rfl
  have z0 : w.frozen? ⟨b, 0, none⟩ = false := froz_of_heap h.box.h
  have z1 : w.frozen? ⟨b, 1, none⟩ = false := froz_of_heap h.box.h
  clear h
  have X1 : Ext (One b) w (w.setCell ⟨b, 1, none⟩ (.bool true)) := (Ext.refl _ _).set1 _
  have HE : Hid (RdW (w.setCell ⟨b, 1, none⟩ (.bool true)) b ⟨l, true⟩) := Go.Lib.hid ⟨HB.out.set (j := 1) (.bool true), HSM.out⟩
  have HX1 := Go.Lib.hid X1
  clear X1
  have hem : Hid (sB [] = (⟨#[]⟩ : ByteArray)) := Go.Lib.hid rfl
  cases hc : canT ⟨l, bad⟩
  · have HV : Hid (textV ⟨l, bad⟩ = [] ∧ textR ⟨l, bad⟩ = ⟨l, true⟩) := Go.Lib.hid (by unfold textV textR; rw [hc]; exact ⟨rfl, rfl⟩)
    cases bad
    · by_cases h2 : (sB l).size < 2
      · have dd : decide (((sB l).size : Int) < 2) = true := decide_eq_true (by omega)
        clear hc h2
        generalize sB l = s at *
        go_enter Try.func53, Try.ntmps53
        go_wp2
        go_returns
        exact ⟨by rw [HV.out.1]; rfl, HX1.out, by rw [HV.out.2]; exact HE.out⟩
      · have h2' : 2 ≤ l.length := by rw [sB_size] at h2; omega
        have hn : (sB l).size - 2 < txtN ⟨l, false⟩ := by
          rw [sB_size]
          unfold canT canR at hc
          simp at hc
          exact hc h2'
        have htx : txtN ⟨l, false⟩ = (l[0]).toNat * 256 + (l[1]).toNat := by
          match l, h2' with
          | a :: c :: t, _ => unfold txtN beN; simp
        have hg0 := sB_get l 0 (by rw [sB_size]; omega)
        have hg1 := sB_get l 1 (by rw [sB_size]; omega)
        have c0 : (l[0]).toNat < 256 := UInt8.toNat_lt _
        have c1 : (l[1]).toNat < 256 := UInt8.toNat_lt _
        rw [← hg0, ← hg1] at htx
        rw [← hg0] at c0
        rw [← hg1] at c1
        have d2 : decide (((sB l).size : Int) < 2) = false := decide_eq_false (by rw [sB_size]; omega)
        have hs0 : 0 < (sB l).size := by rw [sB_size]; omega
        have hs1 : 1 < (sB l).size := by rw [sB_size]; omega
        have hs2 : (1 : Int) < ((sB l).size : Int) := by omega
        have hs3 : (2 : Int) ≤ ((sB l).size : Int) := by omega
        have hs4 : 2 ≤ (sB l).size := by omega
        generalize txtN ⟨l, false⟩ = n at *
        have w1 : IntKind.i64.wrap (((sB l)[0].toNat : Int) * (256 : Int)) = ((sB l)[0].toNat : Int) * (256 : Int) := IntWalk.i64_in _ (by omega)
        have w2 : IntKind.i64.wrap (((sB l)[0].toNat : Int) * (256 : Int) + ((sB l)[1].toNat : Int)) = (n : Int) := (IntWalk.i64_in _ (by omega)).trans (by omega)
        have W2 : Hid (wrap64 (((sB l)[0].toNat : Int) * (256 : Int) + ((sB l)[1].toNat : Int)) = (n : Int)) := Go.Lib.hid ((IntWalk.wrap64_in _ (by omega)).trans (by omega))
        have w3 : IntKind.i64.wrap (((sB l)[0].toNat : Int)) = ((sB l)[0].toNat : Int) := IntWalk.i64_in _ (by omega)
        have w4 : IntKind.i64.wrap (((sB l)[1].toNat : Int)) = ((sB l)[1].toNat : Int) := IntWalk.i64_in _ (by omega)
        have w5 : IntKind.i64.wrap (((sB l).size : Int) - 2) = ((sB l).size : Int) - 2 := IntWalk.i64_in _ (by omega)
        have dn : decide (((sB l).size : Int) - 2 < (n : Int)) = true := decide_eq_true (by omega)
        clear hc htx hg0 hg1 c0 c1 hn h2
        generalize sB l = s at *
        go_enter Try.func53, Try.ntmps53
        go_wp2_with fail
        go_quiet (fail)
        go_wp2
        go_returns
        exact ⟨by rw [HV.out.1]; rfl, HX1.out.drewN _, by rw [HV.out.2]; exact HE.out.extN ((Ext.refl _ _).drewN _)⟩
    · clear hc
      generalize sB l = s at *
      go_enter Try.func53, Try.ntmps53
      go_wp2
      go_returns
      exact ⟨by rw [HV.out.1]; rfl, HX1.out, by rw [HV.out.2]; exact HE.out⟩
  · have hc2 : bad = false ∧ 2 ≤ l.length ∧ txtN ⟨l, bad⟩ ≤ l.length - 2 := by unfold canT canR at hc; simp at hc; exact ⟨hc.1.1, hc.1.2, hc.2⟩
    obtain ⟨rfl, h2', hn⟩ := hc2
    have HV : Hid (textV ⟨l, false⟩ = (l.drop 2).take (txtN ⟨l, false⟩) ∧ textR ⟨l, false⟩ = ⟨l.drop (2 + txtN ⟨l, false⟩), false⟩) := Go.Lib.hid (by unfold textV textR; rw [hc]; exact ⟨rfl, rfl⟩)
    have htx : txtN ⟨l, false⟩ = (l[0]).toNat * 256 + (l[1]).toNat := by
      match l, h2' with
      | a :: c :: t, _ => unfold txtN beN; simp
    have hg0 := sB_get l 0 (by rw [sB_size]; omega)
    have hg1 := sB_get l 1 (by rw [sB_size]; omega)
    have c0 : (l[0]).toNat < 256 := UInt8.toNat_lt _
    have c1 : (l[1]).toNat < 256 := UInt8.toNat_lt _
    rw [← hg0, ← hg1] at htx
    rw [← hg0] at c0
    rw [← hg1] at c1
    have d2 : decide (((sB l).size : Int) < 2) = false := decide_eq_false (by rw [sB_size]; omega)
    have hs0 : 0 < (sB l).size := by rw [sB_size]; omega
    have hs1 : 1 < (sB l).size := by rw [sB_size]; omega
    have hs2 : (1 : Int) < ((sB l).size : Int) := by omega
    have hs3 : (2 : Int) ≤ ((sB l).size : Int) := by omega
    have hs4 : 2 ≤ (sB l).size := by omega
    generalize txtN ⟨l, false⟩ = n at *
    have w1 : IntKind.i64.wrap (((sB l)[0].toNat : Int) * (256 : Int)) = ((sB l)[0].toNat : Int) * (256 : Int) := IntWalk.i64_in _ (by omega)
    have w2 : IntKind.i64.wrap (((sB l)[0].toNat : Int) * (256 : Int) + ((sB l)[1].toNat : Int)) = (n : Int) := (IntWalk.i64_in _ (by omega)).trans (by omega)
    have W2 : Hid (wrap64 (((sB l)[0].toNat : Int) * (256 : Int) + ((sB l)[1].toNat : Int)) = (n : Int)) := Go.Lib.hid ((IntWalk.wrap64_in _ (by omega)).trans (by omega))
    have w3 : IntKind.i64.wrap (((sB l)[0].toNat : Int)) = ((sB l)[0].toNat : Int) := IntWalk.i64_in _ (by omega)
    have w4 : IntKind.i64.wrap (((sB l)[1].toNat : Int)) = ((sB l)[1].toNat : Int) := IntWalk.i64_in _ (by omega)
    have w5 : IntKind.i64.wrap (((sB l).size : Int) - 2) = ((sB l).size : Int) - 2 := IntWalk.i64_in _ (by omega)
    have hsz := sB_size l
    have dn : decide (((sB l).size : Int) - 2 < (n : Int)) = false := decide_eq_false (by omega)
    have w6 : IntKind.i64.wrap (2 + (n : Int)) = ((2 + n : Nat) : Int) := (IntWalk.i64_in _ (by omega)).trans (by omega)
    have hn2 : 2 + n ≤ (sB l).size := by omega
    have hn3 : (2 : Int) + (n : Int) ≤ ((sB l).size : Int) := by omega
    have hcm := cut_mid (sB l) n hn2
    have hce := cut_end (sB l) n hn2
    have HE1 : Hid ((sB l).extract 2 (2 + n) = sB ((l.drop 2).take n)) := Go.Lib.hid (by rw [sB_extract, Nat.add_sub_cancel_left])
    have HE2 : Hid ((sB l).extract (2 + n) (sB l).size = sB (l.drop (2 + n))) := Go.Lib.hid (sB_drop l (2 + n))
    clear hc htx hg0 hg1 c0 c1 hn hsz HE hem HX1
    generalize sB l = s at *
    go_enter Try.func53, Try.ntmps53
    go_wp2_with fail
    go_quiet (fail)
    go_wp2
    go_returns
    rw [HE2.out]
    refine ⟨by rw [HV.out.1, ← HE1.out]; rfl, ((Ext.refl _ _).drewN _).set1 _, ?_⟩
    rw [HV.out.2]
    exact ⟨(HB.out.extN ((Ext.refl _ _).drewN _)).set (j := 0) (.string (sB (l.drop (2 + n)))), by show (l.drop (2 + n)).length ≤ _; rw [List.length_drop]; have : l.length ≤ 4611686018427387904 := HSM.out; omega⟩
theorem rd_End (b : Nat) (r : Rd) (w : World) (h : RdW w b r) : Calls Try.prog 56 #[.pointer (some ⟨b, 0, none⟩)] w fun e w' => e = .returned (.int .i64 (endE r)) ∧ w = w' := by
  obtain ⟨l, bad⟩ := r
  have q0 : w.cell? ⟨b, 0, none⟩ = some (.string (sB l)) := h.box.cell rfl
  have q1 : w.cell? ⟨b, 1, none⟩ = some (.bool bad) := h.box.cell rfl
  have hsm : (sB l).size ≤ 4611686018427387904 := by rw [sB_size]; exact h.small
  clear h
  cases bad
  · by_cases hl : l = []
    · have HV : Hid (endE ⟨l, false⟩ = 0) := Go.Lib.hid (by unfold endE; simp [hl])
      have hz : (sB l).size = 0 := by rw [sB_size, hl]; rfl
      have dd : decide (0 < (sB l).size) = false := decide_eq_false (by omega)
      clear hz hl
      generalize sB l = s at *
      go_enter Try.func56, Try.ntmps56
      go_wp2
      go_returns
      exact ⟨by rw [HV.out]; rfl, rfl⟩
    · have HV : Hid (endE ⟨l, false⟩ = 5) := Go.Lib.hid (by unfold endE; simp [hl])
      have dd : decide (0 < (sB l).size) = true := decide_eq_true (by rw [sB_size]; exact List.length_pos_iff.2 hl)
      clear hl
      generalize sB l = s at *
      go_enter Try.func56, Try.ntmps56
      go_wp2
      go_returns
      exact ⟨by rw [HV.out]; rfl, rfl⟩
  · have HV : Hid (endE ⟨l, true⟩ = 2) := Go.Lib.hid rfl
    go_enter Try.func56, Try.ntmps56
    go_wp2
    go_returns
    exact ⟨by rw [HV.out]; rfl, rfl⟩
end Go.Proofs.Ytfefeepljbfcdaa
