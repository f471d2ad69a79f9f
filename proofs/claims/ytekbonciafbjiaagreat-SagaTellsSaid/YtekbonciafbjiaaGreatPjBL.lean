/- Joined texts: Saga16. What each proves stands at its head; no conditions beside those in its theorems. -/
import Derived.Test.YtekbonciafbjiaaGreatPjAA
import Derived.Test.YtekbonciafbjiaaGreatPjAC
import Derived.Test.YtekbonciafbjiaaGreatPjAD
import Derived.Test.YtekbonciafbjiaaGreatPjAG
import Derived.Test.YtekbonciafbjiaaGreatPjAH
import Derived.Test.YtekbonciafbjiaaGreatPjAI
import Derived.Test.YtekbonciafbjiaaGreatPjAN
import Derived.Test.YtekbonciafbjiaaGreatPjAJ
import Derived.Test.YtekbonciafbjiaaGreatPjAS
import Derived.Test.YtekbonciafbjiaaGreatPjAT
import Derived.Test.YtekbonciafbjiaaGreatPjAU
import Derived.Test.YtekbonciafbjiaaGreatPjAV
import Derived.Test.YtekbonciafbjiaaGreatPjAY
import Derived.Test.YtekbonciafbjiaaGreatPjAL
import Derived.Test.YtekbonciafbjiaaGreatPjAM
import Derived.Test.YtekbonciafbjiaaGreatPjAO
import Derived.Test.YtekbonciafbjiaaGreatPjAR
import Derived.Test.YtekbonciafbjiaaGreatPjAW
import Derived.Test.YtekbonciafbjiaaGreatPjBC
import Derived.Test.YtekbonciafbjiaaGreatPjAE
import Derived.Test.YtekbonciafbjiaaGreatPjAP
import Derived.Test.YtekbonciafbjiaaGreatPjBA
import Derived.Test.YtekbonciafbjiaaGreatPjBI
import Derived.Test.YtekbonciafbjiaaGreatPjBJ
import Derived.Test.YtekbonciafbjiaaGreatPjBK
import Derived.Test.YtekbonciafbjiaaGreatPjAX
import Derived.Test.YtekbonciafbjiaaGreatPjAQ
/- Contracts of layer 22: what a saga tells: any epoch's Conf; Sound. -/
namespace Go.Proofs.YtekbonciafbjiaaGreat
open Go.RowKit Go.Lib F64
set_option linter.unusedSimpArgs false
set_option linter.unusedVariables false
attribute [local go_sem] run_store_float
attribute [local go_sem low] EW.cellN EW.frozN alloc_cell_or alloc_froz_or EW.cellF EW.frozF EW.cell1 EW.froz1
attribute [local go_sem] relAt relUpon
theorem info_confS : (Tryz.prog.info? 24).map (·.size) = some 2 := by kernel_rfl
def cfE (len : Nat) (n : Int) : Int := if cfB len n = true then n else 0
theorem cfB_iff {len : Nat} {n : Int} : cfB len n = true ↔ 0 ≤ n ∧ n ≤ 60 ∧ 4 * n ≤ len := by
  unfold cfB; simp only [Bool.and_eq_true, decide_eq_true_eq]; omega
theorem saga_ConfA (base s : Nat) (v1 v2 : Value) (xs : List Int) (l : List Req) (bs : List (Nat × Nat)) (hm : membersB xs = true) (hl : l.length ≤ 244) (hq : ∀ q ∈ l, AskOk q) (n : Int) (hn : I64 n) (w : World) (h : SgW base w s v1 v2 xs l bs) :
    Calls Tryz.prog 10 #[.pointer (some ⟨s, 0, none⟩), .int .i64 n] w fun e w' => ∃ a cap ys, e = .returned (.tuple #[.agg #[.int .i64 (cfE l.length n), .slice a (ys : List Int).length cap], .bool (cfB l.length n)]) ∧ Ints w' a cap ys ∧ Ext Non w w' ∧ (cfB l.length n = true → ys = memN xs l n.toNat) := by
  by_cases hc : cfB l.length n = true
  · obtain ⟨h0, h1, h2⟩ := cfB_iff.1 hc
    obtain ⟨k, rfl⟩ : ∃ k : Nat, n = k := ⟨n.toNat, by omega⟩
    refine (saga_Conf_yes base s v1 v2 xs l bs hm hl hq k (by omega) (by omega) w h).mono fun e w' ⟨a, cap, he, hI, hx⟩ => ⟨a, cap, memN xs l k, ?_, hI, hx, fun _ => rfl⟩
    rw [he, hc]; unfold cfE; rw [if_pos hc]
  · have hf : cfB l.length n = false := by simpa using hc
    have hno : n < 0 ∨ 60 < n ∨ (l.length : Int) < 4 * n := by
      rcases Classical.em (n < 0 ∨ 60 < n ∨ (l.length : Int) < 4 * n) with h | h
      · exact h
      · exact absurd (cfB_iff.2 (by omega)) hc
    refine (saga_Conf_no base s v1 v2 xs l bs n hn hno w h).mono fun e w' ⟨he, hx⟩ => ⟨none, 0, [], ?_, Ints.nil' w', hx, fun h => absurd h hc⟩
    rw [he, hf]; unfold cfE; rw [if_neg hc]; rfl
set_option maxHeartbeats 2000000 in
set_option maxRecDepth 100000 in
theorem saga_Sound (base s : Nat) (v1 v2 : Value) (xs : List Int) (l : List Req) (bs : List (Nat × Nat)) (hm : membersB xs = true) (hl : l.length ≤ 244) (hq : ∀ q ∈ l, AskOk q) (ba : Option Addr) (bc : Nat) (bad : List Int) (w : World) (h : SgW base w s v1 v2 xs l bs) (hb : Ints w ba bc bad) :
    Calls Tryz.prog 18 #[.pointer (some ⟨s, 0, none⟩), .slice ba bad.length bc] w fun e w' => e = .returned (.bool (soundB xs l bad)) ∧ Ext Non w w' := by
  have HS := Go.Lib.hid h; have HB := Go.Lib.hid hb; have HM := Go.Lib.hid hm; have HQ := Go.Lib.hid hq
  clear h hb hm hq
  have hN : epN l.length ≤ 61 := by unfold epN; omega
  have HNd : Hid (epN l.length = min 60 (l.length / 4) + 1) := Go.Lib.hid rfl
  have HSB : Hid (soundB xs l bad = soundTo xs l bad (epN l.length)) := Go.Lib.hid rfl
  generalize epN l.length = N at *
  go_enter Tryz.func18, Tryz.ntmps18
  go_wp2_with fail
  go_loopg [5, 6, 7, 8, 10] N (fun g ev v6 v7 v8 v10 wr => ∃ (e : Nat) (z : EW Non w), e ≤ N ∧ g = N - e ∧ ev = .int .i64 e ∧ wr = z.on ∧ Hid (soundTo xs l bad e = true))
  case atStart => exact ⟨0, ⟨_, by (repeat (first | with_reducible (first | exact Ext.refl _ _ | assumption | refine Ext.upN ?_ | refine Ext.alloc ?_ _ | refine Ext.drew ?_ | refine Ext.drewN ?_ _ | refine Ext.up1N (by first | omega | simp) ?_) | refine Ext.alloc ?_ _ | refine Ext.setCell ?_ (.inr (by first | omega | simp)) _))⟩, Nat.zero_le _, rfl, rfl, rfl, Go.Lib.hid rfl⟩
  case round =>
    obtain ⟨e, z, he, hg, rfl, rfl, HD⟩ := hrel
    have HG := Go.Lib.hid hg; clear hg
    go_wp2_with fail
    refine (saga_ConfA base s v1 v2 xs l bs HM.out hl HQ.out e (by unfold I64; omega) _ (HS.out.extN (by (repeat (first | with_reducible (first | exact Ext.refl _ _ | assumption | refine Ext.upN ?_ | refine Ext.alloc ?_ _ | refine Ext.drew ?_ | refine Ext.drewN ?_ _ | refine Ext.up1N (by first | omega | simp) ?_) | refine Ext.alloc ?_ _ | refine Ext.setCell ?_ (.inr (by first | omega | simp)) _))))).mono ?_
    rintro r _ ⟨ca, cc, ys, rfl, hI, hx, hys⟩
    obtain ⟨x1, rfl⟩ := hx.ew
    have HI := Go.Lib.hid hI; have HY := Go.Lib.hid hys
    have hys1 := hI.small; have hys2 := hI.le
    clear hx hI hys
    generalize cfE l.length (e : Int) = ce at *
    go_upto_region 6 with (refine wpList_store_box rfl 24 _ _ rfl x1.on.heap.size _ [.int .i64 ce, .slice ca ys.length cc] _ rfl rfl (Bx.newAt _ _ _ _ rfl) rfl info_confS (by simp [Value.oneCell']) (fun W hB => ?_); have BK := Go.Lib.hid hB; clear hB)
    have XW : Ext Non x1.on W.on := by (repeat (first | with_reducible (first | exact Ext.refl _ _ | assumption | refine Ext.upN ?_ | refine Ext.alloc ?_ _ | refine Ext.drew ?_ | refine Ext.drewN ?_ _ | refine Ext.up1N (by first | omega | simp) ?_) | refine Ext.alloc ?_ _ | refine Ext.setCell ?_ (.inr (by first | omega | simp)) _))
    have HI2 := Go.Lib.hid (HI.out.extN XW)
    obtain ⟨x2, hx2⟩ := ((z.ext.trans x1.ext).trans XW).ew
    rw [hx2] at HI2 BK ⊢
    clear hx2 XW W HI
    try simp only [Act.put]
    generalize x1.on.heap.size = kc at *
    have y1 : x2.on.cell? ⟨kc, 1, none⟩ = some (.slice ca ys.length cc) := BK.out.cell rfl
    by_cases hlt : e < N
    · have hc : cfB l.length (e : Int) = true := cfB_iff.2 (by have := HNd.out; omega)
      have hyy := HY.out hc
      rw [Int.toNat_natCast] at hyy
      have HYY := Go.Lib.hid hyy
      have hyl : ys.length ≤ 10 := by
        rw [hyy]; exact (members_facts (gAt_inv HM.out HQ.out (4 * e) : Inv (gAt xs l (4 * e))).mn).2.2.2
      have HSC := Go.Lib.hid (soundTo_succ xs l bad e)
      have HNO := Go.Lib.hid (@soundTo_no xs l bad e N hlt)
      rw [hc]
      clear hc hyy HY
      go_wp2_with fail
      go_loopg [8, 10, 26] ys.length (fun g nv iv2 iv wr => ∃ (i : Nat) (u : EW Non x2.on), i ≤ ys.length ∧ g = ys.length - i ∧ iv = .int .i64 i ∧ nv = .int .i64 (badN bad (ys.take i)) ∧ wr = u.on)
      case atStart => exact ⟨0, ⟨_, by (repeat (first | with_reducible (first | exact Ext.refl _ _ | assumption | refine Ext.upN ?_ | refine Ext.alloc ?_ _ | refine Ext.drew ?_ | refine Ext.drewN ?_ _ | refine Ext.up1N (by first | omega | simp) ?_) | refine Ext.alloc ?_ _ | refine Ext.setCell ?_ (.inr (by first | omega | simp)) _))⟩, Nat.zero_le _, rfl, rfl, rfl, rfl⟩
      case round =>
        obtain ⟨i, u, hi, hg2, rfl, rfl, rfl⟩ := hrel
        have HG2 := Go.Lib.hid hg2; clear hg2
        have hbn : badN bad (ys.take i) ≤ ys.length := by
          unfold badN; exact Nat.le_trans (List.length_filter_le _ _) (by rw [List.length_take]; omega)
        by_cases hlt2 : i < ys.length
        · obtain ⟨ab, ao, rfl, hcell, hx64⟩ := HI2.out.at_ i hlt2
          have HT := Go.Lib.hid (badN_take bad ys i hlt2)
          have hbn2 : badN bad (ys.take i) + 1 ≤ 9223372036854775807 := by
            have : badN bad (ys.take i) ≤ i := by unfold badN; exact Nat.le_trans (List.length_filter_le _ _) (by rw [List.length_take]; omega)
            omega
          generalize ys[i] = x at *
          go_wp2_with fail
          refine (slices_Contains ba bc bad x _ (HB.out.extN (by (repeat (first | with_reducible (first | exact Ext.refl _ _ | assumption | refine Ext.upN ?_ | refine Ext.alloc ?_ _ | refine Ext.drew ?_ | refine Ext.drewN ?_ _ | refine Ext.up1N (by first | omega | simp) ?_) | refine Ext.alloc ?_ _ | refine Ext.setCell ?_ (.inr (by first | omega | simp)) _))))).mono ?_
          rintro r _ ⟨rfl, rfl⟩
          cases hh : hasB bad x
          · have HF : Hid (badN bad (ys.take (i + 1)) = badN bad (ys.take i)) := Go.Lib.hid (by rw [HT.out, hh]; simp)
            clear hh
            go_wp2_with fail
            go_roundg (ys.length - (i + 1))
            case measure => have := HG2.out; omega
            case rel => exact ⟨i + 1, ⟨_, by (repeat (first | with_reducible (first | exact Ext.refl _ _ | assumption | refine Ext.upN ?_ | refine Ext.alloc ?_ _ | refine Ext.drew ?_ | refine Ext.drewN ?_ _ | refine Ext.up1N (by first | omega | simp) ?_) | refine Ext.alloc ?_ _ | refine Ext.setCell ?_ (.inr (by first | omega | simp)) _))⟩, hlt2, rfl, by go_num, by rw [HF.out], rfl⟩
          · have HF : Hid (badN bad (ys.take (i + 1)) = badN bad (ys.take i) + 1) := Go.Lib.hid (by rw [HT.out, hh]; simp)
            clear hh
            generalize badN bad (ys.take i) = bn at *
            have hw1 : IntKind.i64.wrap ((bn : Int) + 1) = (bn : Int) + 1 := IntWalk.i64_in _ (by omega)
            go_wp2_with fail
            go_roundg (ys.length - (i + 1))
            case measure => have := HG2.out; omega
            case rel => exact ⟨i + 1, ⟨_, by (repeat (first | with_reducible (first | exact Ext.refl _ _ | assumption | refine Ext.upN ?_ | refine Ext.alloc ?_ _ | refine Ext.drew ?_ | refine Ext.drewN ?_ _ | refine Ext.up1N (by first | omega | simp) ?_) | refine Ext.alloc ?_ _ | refine Ext.setCell ?_ (.inr (by first | omega | simp)) _))⟩, hlt2, rfl, by go_num, by rw [HF.out]; rfl, rfl⟩
        · obtain rfl : i = ys.length := by omega
          rw [List.take_length] at hbn ⊢
          have HFW : Hid (fewS bad ys = decide ((badN bad ys : Int) ≤ faultsI (ys.length : Int))) := Go.Lib.hid rfl
          generalize badN bad ys = bn at *
          have y1u : u.on.cell? ⟨kc, 1, none⟩ = some (.slice ca ys.length cc) := (u.ext.cell (lt_of_cell y1) (fun f => f)).trans y1
          clear y1
          go_wp2_with fail
          refine (council_Faults (ys.length : Int) (by omega) (by omega) _).mono ?_
          rintro r _ ⟨rfl, rfl⟩
          generalize faultsI (ys.length : Int) = fa at *
          by_cases hle : (bn : Int) ≤ fa
          · have HF : Hid (soundTo xs l bad (e + 1) = true) := Go.Lib.hid (by rw [HSC.out, HD.out, ← HYY.out, HFW.out, decide_eq_true hle]; rfl)
            have dd : decide (fa < (bn : Int)) = false := decide_eq_false (by omega)
            go_wp2_with fail
            go_roundg (N - (e + 1))
            case measure => have := HG.out; omega
            case rel => exact ⟨e + 1, ⟨_, by (repeat (first | with_reducible (first | exact Ext.refl _ _ | assumption | refine Ext.upN ?_ | refine Ext.alloc ?_ _ | refine Ext.drew ?_ | refine Ext.drewN ?_ _ | refine Ext.up1N (by first | omega | simp) ?_) | refine Ext.alloc ?_ _ | refine Ext.setCell ?_ (.inr (by first | omega | simp)) _))⟩, hlt, rfl, by go_num, rfl, HF⟩
          · have HF : Hid (soundB xs l bad = false) := Go.Lib.hid (by rw [HSB.out]; exact HNO.out (by rw [← HYY.out, HFW.out, decide_eq_false hle]))
            have dd : decide (fa < (bn : Int)) = true := decide_eq_true (by omega)
            go_wp2
            go_ret
            exact ⟨by rw [HF.out]; rfl, by (repeat (first | with_reducible (first | exact Ext.refl _ _ | assumption | refine Ext.upN ?_ | refine Ext.alloc ?_ _ | refine Ext.drew ?_ | refine Ext.drewN ?_ _ | refine Ext.up1N (by first | omega | simp) ?_) | refine Ext.alloc ?_ _ | refine Ext.setCell ?_ (.inr (by first | omega | simp)) _))⟩
    · obtain rfl : e = N := by omega
      have hc : cfB l.length (e : Int) = false := by
        rw [Bool.eq_false_iff]
        intro hh
        have := cfB_iff.1 hh; have := HNd.out; omega
      have HF : Hid (soundB xs l bad = true) := Go.Lib.hid (by rw [HSB.out]; exact HD.out)
      rw [hc]
      clear hc
      go_wp2
      go_ret
      exact ⟨by rw [HF.out]; rfl, by (repeat (first | with_reducible (first | exact Ext.refl _ _ | assumption | refine Ext.upN ?_ | refine Ext.alloc ?_ _ | refine Ext.drew ?_ | refine Ext.drewN ?_ _ | refine Ext.up1N (by first | omega | simp) ?_) | refine Ext.alloc ?_ _ | refine Ext.setCell ?_ (.inr (by first | omega | simp)) _))⟩
end Go.Proofs.YtekbonciafbjiaaGreat
