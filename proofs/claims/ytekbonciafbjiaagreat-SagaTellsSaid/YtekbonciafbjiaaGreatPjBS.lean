/- Joined texts: R22a. What each proves stands at its head; no conditions beside those in its theorems. -/
import Derived.Test.YtekbonciafbjiaaGreatPjAA
import Derived.Test.YtekbonciafbjiaaGreatPjAC
import Derived.Test.YtekbonciafbjiaaGreatPjAD
import Derived.Test.YtekbonciafbjiaaGreatPjAG
import Derived.Test.YtekbonciafbjiaaGreatPjAH
import Derived.Test.YtekbonciafbjiaaGreatPjAI
import Derived.Test.YtekbonciafbjiaaGreatPjAN
import Derived.Test.YtekbonciafbjiaaGreatPjAJ
import Derived.Test.YtekbonciafbjiaaGreatPjAS
import Derived.Test.YtekbonciafbjiaaGreatPjAT
import Derived.Test.YtekbonciafbjiaaGreatPjAU
import Derived.Test.YtekbonciafbjiaaGreatPjAV
import Derived.Test.YtekbonciafbjiaaGreatPjAY
import Derived.Test.YtekbonciafbjiaaGreatPjAL
import Derived.Test.YtekbonciafbjiaaGreatPjAM
import Derived.Test.YtekbonciafbjiaaGreatPjAO
import Derived.Test.YtekbonciafbjiaaGreatPjAR
import Derived.Test.YtekbonciafbjiaaGreatPjAW
import Derived.Test.YtekbonciafbjiaaGreatPjBC
import Derived.Test.YtekbonciafbjiaaGreatPjAE
import Derived.Test.YtekbonciafbjiaaGreatPjAP
import Derived.Test.YtekbonciafbjiaaGreatPjBA
import Derived.Test.YtekbonciafbjiaaGreatPjBI
import Derived.Test.YtekbonciafbjiaaGreatPjBJ
import Derived.Test.YtekbonciafbjiaaGreatPjBK
import Derived.Test.YtekbonciafbjiaaGreatPjAX
import Derived.Test.YtekbonciafbjiaaGreatPjBM
import Derived.Test.YtekbonciafbjiaaGreatPjAB
import Derived.Test.YtekbonciafbjiaaGreatPjBN
import Derived.Test.YtekbonciafbjiaaGreatPjBP
import Derived.Test.YtekbonciafbjiaaGreatPjAQ
import Derived.Test.YtekbonciafbjiaaGreatPjBL
import Derived.Test.YtekbonciafbjiaaGreatPjAK
import Derived.Test.YtekbonciafbjiaaGreatPjBB
import Derived.Test.YtekbonciafbjiaaGreatPjBD
import Derived.Test.YtekbonciafbjiaaGreatPjBE
import Derived.Test.YtekbonciafbjiaaGreatPjBF
import Derived.Test.YtekbonciafbjiaaGreatPjAZ
import Derived.Test.YtekbonciafbjiaaGreatPjBG
import Derived.Test.YtekbonciafbjiaaGreatPjBH
import Derived.Test.YtekbonciafbjiaaGreatPjBO
import Derived.Test.YtekbonciafbjiaaGreatPjBQ
/- The reference of layer 22: which beginnings are right; the ledger behind n requests; states; configurations. -/
namespace Go.Proofs.YtekbonciafbjiaaGreat
open Go.RowKit Go.Lib F64
set_option linter.unusedSimpArgs false
set_option linter.unusedVariables false
attribute [local go_sem] run_store_float
attribute [local go_sem low] EW.cellN EW.frozN alloc_cell_or alloc_froz_or EW.cellF EW.frozF EW.cell1 EW.froz1
attribute [local go_sem] relAt relUpon
theorem ref13_Asked22 (c s k : Int) (key : ByteArray) (x : Nat) (id : Int) (w : World) :
    Calls Tryz.prog 26 #[.agg #[.int .i64 c, .int .i64 s, .int .i64 k, .string key, .float .f64 x, .int .i64 id]] w fun e w' => e = .returned (.bool (askedB ⟨c, s, ⟨k, key, x, id⟩⟩)) ∧ Ext Non w w' := by
  have DA : Hid (askedB ⟨c, s, ⟨k, key, x, id⟩⟩ = (rightB ⟨c, s, ⟨k, key, x, id⟩⟩ || nullB ⟨c, s, ⟨k, key, x, id⟩⟩)) := Go.Lib.hid rfl
  go_enter Tryz.func26, Tryz.ntmps26
  go_wp2_with fail
  refine Calls.ew (ref_Right c s k key x id _) ?_
  rintro e x1 rfl
  cases hr : rightB ⟨c, s, ⟨k, key, x, id⟩⟩
  · have HH := Go.Lib.hid hr; clear hr
    go_wp2_with fail
    refine Calls.ew (ref_Null c s k key x id _) ?_
    rintro e x2 rfl
    go_wp2
    go_ret
    exact ⟨ret_bool (by rw [DA.out, HH.out]; rfl), by (repeat (first | with_reducible (first | exact Ext.refl _ _ | assumption | refine Ext.upN ?_ | refine Ext.alloc ?_ _ | refine Ext.drew ?_ | refine Ext.drewN ?_ _ | refine Ext.up1N (by first | omega | simp) ?_) | refine Ext.alloc ?_ _ | refine Ext.setCell ?_ (.inr (by first | omega | simp)) _))⟩
  · have HH := Go.Lib.hid hr; clear hr
    go_wp2
    go_ret
    exact ⟨ret_bool (by rw [DA.out, HH.out]; rfl), by (repeat (first | with_reducible (first | exact Ext.refl _ _ | assumption | refine Ext.upN ?_ | refine Ext.alloc ?_ _ | refine Ext.drew ?_ | refine Ext.drewN ?_ _ | refine Ext.up1N (by first | omega | simp) ?_) | refine Ext.alloc ?_ _ | refine Ext.setCell ?_ (.inr (by first | omega | simp)) _))⟩
set_option maxHeartbeats 2000000 in
set_option maxRecDepth 100000 in
theorem ref22_Right (ep : Int) (a : Option Addr) (cap : Nat) (xs : List Int) (la : Option Addr) (lc : Nat) (l : List Req) (w : World) (h : Ints w a cap xs) (hr : Reqs w la lc l) :
    Calls Tryz.prog 7 #[.agg #[.int .i64 ep, .slice a xs.length cap], .slice la l.length lc] w fun e w' => e = .returned (.int .i64 (newE ep xs l)) ∧ Ext Non w w' := by
  have HI := Go.Lib.hid h; have HL := Go.Lib.hid hr
  have s1 := hr.small; have s2 := hr.le
  clear h hr
  by_cases hc : confB ep xs = true ∧ ep = 0
  · obtain ⟨hc1, rfl⟩ := hc
    have HC := Go.Lib.hid hc1
    have HN : Hid (newE 0 xs l = if allAsked l = true then (if 244 < l.length then 3 else 0) else 1) := Go.Lib.hid (by unfold newE; rw [if_pos ⟨hc1, rfl⟩])
    clear hc1
    go_enter Tryz.func7, Tryz.ntmps7
    go_wp2_with fail
    have B0 := Go.Lib.hid (Bx.newAt w [.int .i64 0, .slice a xs.length cap] 24 _ rfl)
    refine Calls.ew (ref_Right07 0 a cap xs _ (HI.out.extN (by (repeat (first | with_reducible (first | exact Ext.refl _ _ | assumption | refine Ext.upN ?_ | refine Ext.alloc ?_ _ | refine Ext.drew ?_ | refine Ext.drewN ?_ _ | refine Ext.up1N (by first | omega | simp) ?_) | refine Ext.alloc ?_ _ | refine Ext.setCell ?_ (.inr (by first | omega | simp)) _))))) ?_
    rintro e x1 rfl
    rw [HC.out]
    have B1 := Go.Lib.hid (B0.out.extN x1.ext)
    have c0 : x1.on.cell? ⟨w.heap.size, 0, none⟩ = some (.int .i64 0) := B1.out.cell rfl
    go_wp2_with fail
    go_loopg [5] l.length (fun n iv wr => ∃ (i : Nat) (z : EW Non w), i ≤ l.length ∧ n = l.length - i ∧ iv = .int .i64 i ∧ wr = z.on ∧ Hid (allAsked (l.take i) = true))
    case atStart => exact ⟨0, ⟨_, by (repeat (first | with_reducible (first | exact Ext.refl _ _ | assumption | refine Ext.upN ?_ | refine Ext.alloc ?_ _ | refine Ext.drew ?_ | refine Ext.drewN ?_ _ | refine Ext.up1N (by first | omega | simp) ?_) | refine Ext.alloc ?_ _ | refine Ext.setCell ?_ (.inr (by first | omega | simp)) _))⟩, Nat.zero_le _, rfl, rfl, rfl, Go.Lib.hid rfl⟩
    case round =>
      obtain ⟨i, z, hi, hn, rfl, rfl, HD⟩ := hrel
      have HG := Go.Lib.hid hn; clear hn
      by_cases hlt : i < l.length
      · obtain ⟨ab, ao, rfl, hab, hcc⟩ := HL.out.at_ i hlt
        have HT := Go.Lib.hid (allAsked_take hlt)
        have HB : Hid (askedB l[i] = false → allAsked l = false) := Go.Lib.hid (fun e => by
          unfold allAsked
          rw [List.all_eq_false]
          exact ⟨l[i], List.getElem_mem hlt, by rw [e]; simp⟩)
        generalize l[i] = o at *
        obtain ⟨c, st, ⟨k, key, x, id⟩⟩ := o
        have q0 : w.cell? ⟨ab, ao + i * 6, none⟩ = some (.int .i64 c) := hcc 0 _ rfl
        have q1 : w.cell? ⟨ab, ao + i * 6 + 1, none⟩ = some (.int .i64 st) := hcc 1 _ rfl
        have q2 : w.cell? ⟨ab, ao + i * 6 + 2, none⟩ = some (.int .i64 k) := hcc 2 _ rfl
        have q3 : w.cell? ⟨ab, ao + i * 6 + 3, none⟩ = some (.string key) := hcc 3 _ rfl
        have q4 : w.cell? ⟨ab, ao + i * 6 + 4, none⟩ = some (.float .f64 x) := hcc 4 _ rfl
        have q5 : w.cell? ⟨ab, ao + i * 6 + 5, none⟩ = some (.int .i64 id) := hcc 5 _ rfl
        clear hcc
        go_wp2_with fail
        refine Calls.ew (ref13_Asked22 c st k key x id _) ?_
        rintro e x2 rfl
        cases hs : askedB ⟨c, st, ⟨k, key, x, id⟩⟩
        · have HF : Hid (newE 0 xs l = 1) := Go.Lib.hid (by rw [HN.out, HB.out hs]; rfl)
          clear hs
          go_wp2
          go_ret
          exact ⟨by rw [HF.out]; rfl, by (repeat (first | with_reducible (first | exact Ext.refl _ _ | assumption | refine Ext.upN ?_ | refine Ext.alloc ?_ _ | refine Ext.drew ?_ | refine Ext.drewN ?_ _ | refine Ext.up1N (by first | omega | simp) ?_) | refine Ext.alloc ?_ _ | refine Ext.setCell ?_ (.inr (by first | omega | simp)) _))⟩
        · have HF : Hid (allAsked (l.take (i + 1)) = true) := Go.Lib.hid (by rw [HT.out, HD.out, hs]; rfl)
          clear hs
          go_wp2_with fail
          go_roundg (l.length - (i + 1))
          case measure => have := HG.out; omega
          case rel => exact ⟨i + 1, ⟨_, by (repeat (first | with_reducible (first | exact Ext.refl _ _ | assumption | refine Ext.upN ?_ | refine Ext.alloc ?_ _ | refine Ext.drew ?_ | refine Ext.drewN ?_ _ | refine Ext.up1N (by first | omega | simp) ?_) | refine Ext.alloc ?_ _ | refine Ext.setCell ?_ (.inr (by first | omega | simp)) _))⟩, hlt, rfl, by go_num, rfl, HF⟩
      · obtain rfl : i = l.length := by omega
        have hd := HD.out
        rw [List.take_length] at hd
        by_cases h244 : 244 < l.length
        · have HF : Hid (newE 0 xs l = 3) := Go.Lib.hid (by rw [HN.out, if_pos hd, if_pos h244])
          have dd : decide ((244 : Int) < (l.length : Int)) = true := decide_eq_true (by omega)
          clear hd
          go_wp2
          go_ret
          exact ⟨by rw [HF.out]; rfl, by (repeat (first | with_reducible (first | exact Ext.refl _ _ | assumption | refine Ext.upN ?_ | refine Ext.alloc ?_ _ | refine Ext.drew ?_ | refine Ext.drewN ?_ _ | refine Ext.up1N (by first | omega | simp) ?_) | refine Ext.alloc ?_ _ | refine Ext.setCell ?_ (.inr (by first | omega | simp)) _))⟩
        · have HF : Hid (newE 0 xs l = 0) := Go.Lib.hid (by rw [HN.out, if_pos hd, if_neg h244])
          have dd : decide ((244 : Int) < (l.length : Int)) = false := decide_eq_false (by omega)
          clear hd
          go_wp2
          go_ret
          exact ⟨by rw [HF.out]; rfl, by (repeat (first | with_reducible (first | exact Ext.refl _ _ | assumption | refine Ext.upN ?_ | refine Ext.alloc ?_ _ | refine Ext.drew ?_ | refine Ext.drewN ?_ _ | refine Ext.up1N (by first | omega | simp) ?_) | refine Ext.alloc ?_ _ | refine Ext.setCell ?_ (.inr (by first | omega | simp)) _))⟩
  · have HE : Hid (newE ep xs l = 1) := Go.Lib.hid (by unfold newE; rw [if_neg hc])
    cases hcb : confB ep xs
    · have HC := Go.Lib.hid hcb
      clear hc hcb
      go_enter Tryz.func7, Tryz.ntmps7
      go_wp2_with fail
      refine Calls.ew (ref_Right07 ep a cap xs _ (HI.out.extN (by (repeat (first | with_reducible (first | exact Ext.refl _ _ | assumption | refine Ext.upN ?_ | refine Ext.alloc ?_ _ | refine Ext.drew ?_ | refine Ext.drewN ?_ _ | refine Ext.up1N (by first | omega | simp) ?_) | refine Ext.alloc ?_ _ | refine Ext.setCell ?_ (.inr (by first | omega | simp)) _))))) ?_
      rintro e x1 rfl
      rw [HC.out]
      go_wp2
      go_ret
      exact ⟨by rw [HE.out]; rfl, by (repeat (first | with_reducible (first | exact Ext.refl _ _ | assumption | refine Ext.upN ?_ | refine Ext.alloc ?_ _ | refine Ext.drew ?_ | refine Ext.drewN ?_ _ | refine Ext.up1N (by first | omega | simp) ?_) | refine Ext.alloc ?_ _ | refine Ext.setCell ?_ (.inr (by first | omega | simp)) _))⟩
    · have HC := Go.Lib.hid hcb
      have hne : (ep != 0) = true := by simpa using fun e => hc ⟨hcb, e⟩
      clear hc hcb
      go_enter Tryz.func7, Tryz.ntmps7
      go_wp2_with fail
      have B0 := Go.Lib.hid (Bx.newAt w [.int .i64 ep, .slice a xs.length cap] 24 _ rfl)
      refine Calls.ew (ref_Right07 ep a cap xs _ (HI.out.extN (by (repeat (first | with_reducible (first | exact Ext.refl _ _ | assumption | refine Ext.upN ?_ | refine Ext.alloc ?_ _ | refine Ext.drew ?_ | refine Ext.drewN ?_ _ | refine Ext.up1N (by first | omega | simp) ?_) | refine Ext.alloc ?_ _ | refine Ext.setCell ?_ (.inr (by first | omega | simp)) _))))) ?_
      rintro e x1 rfl
      rw [HC.out]
      have B1 := Go.Lib.hid (B0.out.extN x1.ext)
      have c0 : x1.on.cell? ⟨w.heap.size, 0, none⟩ = some (.int .i64 ep) := B1.out.cell rfl
      go_wp2
      go_ret
      exact ⟨by rw [HE.out]; rfl, by (repeat (first | with_reducible (first | exact Ext.refl _ _ | assumption | refine Ext.upN ?_ | refine Ext.alloc ?_ _ | refine Ext.drew ?_ | refine Ext.drewN ?_ _ | refine Ext.up1N (by first | omega | simp) ?_) | refine Ext.alloc ?_ _ | refine Ext.setCell ?_ (.inr (by first | omega | simp)) _))⟩
set_option maxHeartbeats 2000000 in
set_option maxRecDepth 100000 in
theorem ref22_Ledger (a : Option Addr) (cap : Nat) (xs : List Int) (hm : membersB xs = true) (la : Option Addr) (lc : Nat) (l : List Req) (hx64 : ∀ q ∈ l, q.op.real < 18446744073709551616) (n : Nat) (hn : n ≤ l.length) (w : World) (h : Ints w a cap xs) (hr : Reqs w la lc l) :
    Calls Tryz.prog 30 #[.agg #[.int .i64 0, .slice a xs.length cap], .slice la l.length lc, .int .i64 n] w fun e w' => ∃ b sb rb, e = .returned (.pointer (some ⟨b, 0, none⟩)) ∧ RL w' b sb rb (gAt xs l n) ∧ Ext Non w w' ∧ w.heap.size ≤ b ∧ w.heap.size ≤ sb ∧ w.heap.size ≤ rb := by
  have HI := Go.Lib.hid h; have HL := Go.Lib.hid hr; have HM := Go.Lib.hid hm
  have HX := Go.Lib.hid hx64
  have HG : Hid (∀ i, Inv (gAt xs l i)) := Go.Lib.hid (gAt_inv' hm hx64)
  have s1 := hr.small; have s2 := hr.le
  clear h hr hm hx64
  go_enter Tryz.func30, Tryz.ntmps30
  go_wp2_with fail
  refine (ref12_New a cap xs HM.out _ (HI.out.extN (by (repeat (first | with_reducible (first | exact Ext.refl _ _ | assumption | refine Ext.upN ?_ | refine Ext.alloc ?_ _ | refine Ext.drew ?_ | refine Ext.drewN ?_ _ | refine Ext.up1N (by first | omega | simp) ?_) | refine Ext.alloc ?_ _ | refine Ext.setCell ?_ (.inr (by first | omega | simp)) _))))).mono ?_
  rintro e _ ⟨b, sb, rb, rfl, hL, hx, hb1, hb2, hb3⟩
  obtain ⟨x1, rfl⟩ := hx.ew
  have HL0 : Hid (RL x1.on b sb rb (gAt xs l 0)) := Go.Lib.hid hL
  have HBS : Hid (w.heap.size ≤ b ∧ w.heap.size ≤ sb ∧ w.heap.size ≤ rb) := Go.Lib.hid (by simp at hb1 hb2 hb3; omega)
  clear hL hx hb1 hb2 hb3
  go_wp2_with fail
  go_loopg [9] n (fun g iv wr => ∃ (i : Nat) (z : EW Non w), i ≤ n ∧ g = n - i ∧ iv = .int .i64 i ∧ wr = z.on ∧ Hid (RL wr b sb rb (gAt xs l i)))
  case atStart => exact ⟨0, ⟨_, by (repeat (first | with_reducible (first | exact Ext.refl _ _ | assumption | refine Ext.upN ?_ | refine Ext.alloc ?_ _ | refine Ext.drew ?_ | refine Ext.drewN ?_ _ | refine Ext.up1N (by first | omega | simp) ?_) | refine Ext.alloc ?_ _ | refine Ext.setCell ?_ (.inr (by first | omega | simp)) _))⟩, Nat.zero_le _, rfl, rfl, rfl, HL0⟩
  case round =>
    clear HL0
    obtain ⟨i, z, hi, hg, rfl, rfl, HR⟩ := hrel
    have HGN := Go.Lib.hid hg; clear hg
    by_cases hlt : i < n
    · have hlt2 : i < l.length := by omega
      obtain ⟨ab, ao, rfl, hab, hcc⟩ := HL.out.at_ i hlt2
      have HS := Go.Lib.hid (gAt_succ xs l hlt2)
      have I := Go.Lib.hid (HG.out i)
      have HXi := Go.Lib.hid (HX.out _ (List.getElem_mem hlt2))
      generalize l[i] = o at *
      obtain ⟨c, st, ⟨k, key, x, id⟩⟩ := o
      have q0 : w.cell? ⟨ab, ao + i * 6, none⟩ = some (.int .i64 c) := hcc 0 _ rfl
      have q1 : w.cell? ⟨ab, ao + i * 6 + 1, none⟩ = some (.int .i64 st) := hcc 1 _ rfl
      have q2 : w.cell? ⟨ab, ao + i * 6 + 2, none⟩ = some (.int .i64 k) := hcc 2 _ rfl
      have q3 : w.cell? ⟨ab, ao + i * 6 + 3, none⟩ = some (.string key) := hcc 3 _ rfl
      have q4 : w.cell? ⟨ab, ao + i * 6 + 4, none⟩ = some (.float .f64 x) := hcc 4 _ rfl
      have q5 : w.cell? ⟨ab, ao + i * 6 + 5, none⟩ = some (.int .i64 id) := hcc 5 _ rfl
      clear hcc
      obtain ⟨gi, hgi⟩ : ∃ gi, gi = gAt xs l i := ⟨_, rfl⟩
      rw [← hgi] at HS I HR
      clear hgi
      go_wp2_with fail
      refine Calls.ewD (ref12_Full b sb rb gi I.out _ HR.out) ?_
      rintro e x2 rfl
      cases hf : fullB gi
      · have HS2 : Hid (gAt xs l (i + 1) = doL gi ⟨c, st, ⟨k, key, x, id⟩⟩) := Go.Lib.hid (by rw [HS.out]; unfold stepL fulL; rw [hf]; rfl)
        clear hf
        go_wp2_with fail
        refine (ref12_Do b sb rb gi I.out c st k key x id HXi.out _ (HR.out.extN x2.ext)).mono ?_
        rintro e w5 ⟨rfl, hx5, hL5⟩
        rw [← HS2.out] at hL5
        have HL5 := Go.Lib.hid hL5
        obtain ⟨x5, hx6⟩ := ((z.ext.trans x2.ext).own hx5 (fun j e => by have := HBS.out; rcases e with rfl | rfl | rfl <;> omega)).ew
        subst hx6
        clear hx5 hL5
        go_wp2_with fail
        go_roundg (n - (i + 1))
        case measure => have := HGN.out; omega
        case rel => exact ⟨i + 1, x5, hlt, rfl, by go_num, rfl, HL5⟩
      · have HS2 : Hid (gAt xs l (i + 1) = doL (turnL gi) ⟨c, st, ⟨k, key, x, id⟩⟩) := Go.Lib.hid (by rw [HS.out]; unfold stepL fulL; rw [hf]; rfl)
        have IT := Go.Lib.hid (inv_turn I.out)
        clear hf
        go_wp2_with fail
        refine (ref12_Turn b sb rb gi I.out _ (HR.out.extN x2.ext)).mono ?_
        rintro e w4 ⟨rfl, hx4, hL4⟩
        have HL4 := Go.Lib.hid hL4
        obtain ⟨x4, hx6⟩ := ((z.ext.trans x2.ext).own hx4 (fun j e => by have := HBS.out; have e : j = b := e; omega)).ew
        subst hx6
        clear hx4 hL4
        generalize turnE gi = te at *
        go_wp2_with fail
        refine (ref12_Do b sb rb _ IT.out c st k key x id HXi.out _ HL4.out).mono ?_
        rintro e w5 ⟨rfl, hx5, hL5⟩
        rw [← HS2.out] at hL5
        have HL5 := Go.Lib.hid hL5
        obtain ⟨x5, hx6⟩ := (x4.ext.own hx5 (fun j e => by have := HBS.out; rcases e with rfl | rfl | rfl <;> omega)).ew
        subst hx6
        clear hx5 hL5
        go_wp2_with fail
        go_roundg (n - (i + 1))
        case measure => have := HGN.out; omega
        case rel => exact ⟨i + 1, x5, hlt, rfl, by go_num, rfl, HL5⟩
    · obtain rfl : i = n := by omega
      have XF : Ext Non w z.on := z.ext
      go_wp2
      go_ret
      exact ⟨b, sb, rb, rfl, HR.out, XF, HBS.out⟩
set_option maxHeartbeats 2000000 in
set_option maxRecDepth 100000 in
theorem ref22_State (a : Option Addr) (cap : Nat) (xs : List Int) (hm : membersB xs = true) (la : Option Addr) (lc : Nat) (l : List Req) (hx64 : ∀ q ∈ l, q.op.real < 18446744073709551616) (n : Nat) (hn : n ≤ l.length) (t : Bool) (w : World) (h : Ints w a cap xs) (hr : Reqs w la lc l) :
    Calls Tryz.prog 9 #[.agg #[.int .i64 0, .slice a xs.length cap], .slice la l.length lc, .int .i64 n, .bool t] w fun e w' => e = .returned (.tuple #[.string (stS (gAt xs l n) t), .bool (stB (gAt xs l n) t)]) ∧ Ext Non w w' := by
  have HI := Go.Lib.hid h; have HL := Go.Lib.hid hr; have HM := Go.Lib.hid hm
  have HX := Go.Lib.hid hx64
  have I := Go.Lib.hid (gAt_inv' (xs := xs) (l := l) hm hx64 n)
  have s1 := hr.small; have s2 := hr.le
  have d1 : decide ((n : Int) < 0) = false := decide_eq_false (by omega)
  have d2 : decide ((l.length : Int) < (n : Int)) = false := decide_eq_false (by omega)
  have d2' : decide (l.length < n) = false := decide_eq_false (by omega)
  obtain ⟨g, hg⟩ : ∃ g, g = gAt xs l n := ⟨_, rfl⟩
  rw [← hg] at I ⊢
  have HGQ := Go.Lib.hid hg
  clear h hr hm hx64 hg
  go_enter Tryz.func9, Tryz.ntmps9
  go_wp2_with fail
  refine (ref22_Ledger a cap xs HM.out la lc l HX.out n hn _ (HI.out.extN (by (repeat (first | with_reducible (first | exact Ext.refl _ _ | assumption | refine Ext.upN ?_ | refine Ext.alloc ?_ _ | refine Ext.drew ?_ | refine Ext.drewN ?_ _ | refine Ext.up1N (by first | omega | simp) ?_) | refine Ext.alloc ?_ _ | refine Ext.setCell ?_ (.inr (by first | omega | simp)) _)))) (HL.out.extN (by (repeat (first | with_reducible (first | exact Ext.refl _ _ | assumption | refine Ext.upN ?_ | refine Ext.alloc ?_ _ | refine Ext.drew ?_ | refine Ext.drewN ?_ _ | refine Ext.up1N (by first | omega | simp) ?_) | refine Ext.alloc ?_ _ | refine Ext.setCell ?_ (.inr (by first | omega | simp)) _))))).mono ?_
  rintro e _ ⟨b, sb, rb, rfl, hL, hx, hb1, hb2, hb3⟩
  obtain ⟨x1, rfl⟩ := hx.ew
  rw [← HGQ.out] at hL
  have HL1 := Go.Lib.hid hL
  have HBS : Hid (w.heap.size ≤ b) := Go.Lib.hid (by simp at hb1; omega)
  clear hL hx hb1 hb2 hb3
  cases t
  · have HS : Hid (ledgS g = stS g false) := Go.Lib.hid rfl
    have HB : Hid (stB g false = true) := Go.Lib.hid rfl
    go_wp2_with fail
    refine Calls.ew (ref12_Text b sb rb g I.out _ HL1.out) ?_
    rintro e x2 rfl
    rw [HS.out]
    go_wp2
    go_returns
    exact ⟨by rw [HB.out]; rfl, by (repeat (first | with_reducible (first | exact Ext.refl _ _ | assumption | refine Ext.upN ?_ | refine Ext.alloc ?_ _ | refine Ext.drew ?_ | refine Ext.drewN ?_ _ | refine Ext.up1N (by first | omega | simp) ?_) | refine Ext.alloc ?_ _ | refine Ext.setCell ?_ (.inr (by first | omega | simp)) _))⟩
  · have IT := Go.Lib.hid (inv_turn I.out)
    by_cases ht : turnE g = 0
    · have HS : Hid (ledgS (turnL g) = stS g true) := Go.Lib.hid (by unfold stS; rw [if_pos rfl, if_pos ht])
      have HB : Hid (stB g true = true) := Go.Lib.hid (by unfold stB; rw [decide_eq_true ht]; rfl)
      have HT := Go.Lib.hid ht
      clear ht
      go_wp2_with fail
      refine (ref12_Turn b sb rb g I.out _ HL1.out).mono ?_
      rintro e w5 ⟨rfl, hT, hLT⟩
      have HLT := Go.Lib.hid hLT
      rw [HT.out]
      obtain ⟨x5, hx5⟩ := ((by (repeat (first | with_reducible (first | exact Ext.refl _ _ | assumption | refine Ext.upN ?_ | refine Ext.alloc ?_ _ | refine Ext.drew ?_ | refine Ext.drewN ?_ _ | refine Ext.up1N (by first | omega | simp) ?_) | refine Ext.alloc ?_ _ | refine Ext.setCell ?_ (.inr (by first | omega | simp)) _)) : Ext Non w x1.on).own hT (fun j e => by have := HBS.out; have e : j = b := e; omega)).ew
      subst hx5
      clear hT hLT
      go_wp2_with fail
      refine Calls.ew (ref12_Text b sb rb _ IT.out _ HLT.out) ?_
      rintro e x3 rfl
      rw [HS.out]
      go_wp2
      go_returns
      exact ⟨by rw [HB.out]; rfl, by (repeat (first | with_reducible (first | exact Ext.refl _ _ | assumption | refine Ext.upN ?_ | refine Ext.alloc ?_ _ | refine Ext.drew ?_ | refine Ext.drewN ?_ _ | refine Ext.up1N (by first | omega | simp) ?_) | refine Ext.alloc ?_ _ | refine Ext.setCell ?_ (.inr (by first | omega | simp)) _))⟩
    · have HS : Hid (stS g true = ByteArray.empty) := Go.Lib.hid (by unfold stS; rw [if_pos rfl, if_neg ht])
      have HB : Hid (stB g true = false) := Go.Lib.hid (by unfold stB; rw [decide_eq_false ht]; rfl)
      have hne : (turnE g != 0) = true := by simpa using ht
      clear ht
      go_wp2_with fail
      refine (ref12_Turn b sb rb g I.out _ HL1.out).mono ?_
      rintro e w5 ⟨rfl, hT, hLT⟩
      obtain ⟨x5, hx5⟩ := ((by (repeat (first | with_reducible (first | exact Ext.refl _ _ | assumption | refine Ext.upN ?_ | refine Ext.alloc ?_ _ | refine Ext.drew ?_ | refine Ext.drewN ?_ _ | refine Ext.up1N (by first | omega | simp) ?_) | refine Ext.alloc ?_ _ | refine Ext.setCell ?_ (.inr (by first | omega | simp)) _)) : Ext Non w x1.on).own hT (fun j e => by have := HBS.out; have e : j = b := e; omega)).ew
      subst hx5
      clear hT hLT
      generalize turnE g = te at *
      go_wp2
      go_returns
      exact ⟨by rw [HB.out, HS.out]; rfl, by (repeat (first | with_reducible (first | exact Ext.refl _ _ | assumption | refine Ext.upN ?_ | refine Ext.alloc ?_ _ | refine Ext.drew ?_ | refine Ext.drewN ?_ _ | refine Ext.up1N (by first | omega | simp) ?_) | refine Ext.alloc ?_ _ | refine Ext.setCell ?_ (.inr (by first | omega | simp)) _))⟩
theorem ref22_State_no (ep : Int) (a : Option Addr) (cap : Nat) (xs : List Int) (la : Option Addr) (lc : Nat) (len : Nat) (n : Int) (hno : n < 0 ∨ (len : Int) < n) (t : Bool) (w : World) :
    Calls Tryz.prog 9 #[.agg #[.int .i64 ep, .slice a xs.length cap], .slice la len lc, .int .i64 n, .bool t] w fun e w' => e = .returned (.tuple #[.string ByteArray.empty, .bool false]) ∧ Ext Non w w' := by
  by_cases h1 : n < 0
  · go_enter Tryz.func9, Tryz.ntmps9
    go_wp2
    go_returns
    exact ⟨rfl, by (repeat (first | with_reducible (first | exact Ext.refl _ _ | assumption | refine Ext.upN ?_ | refine Ext.alloc ?_ _ | refine Ext.drew ?_ | refine Ext.drewN ?_ _ | refine Ext.up1N (by first | omega | simp) ?_) | refine Ext.alloc ?_ _ | refine Ext.setCell ?_ (.inr (by first | omega | simp)) _))⟩
  · have d1 : decide (n < 0) = false := decide_eq_false h1
    have d3 : decide ((len : Int) < n) = true := decide_eq_true (by omega)
    go_enter Tryz.func9, Tryz.ntmps9
    go_wp2
    go_returns
    exact ⟨rfl, by (repeat (first | with_reducible (first | exact Ext.refl _ _ | assumption | refine Ext.upN ?_ | refine Ext.alloc ?_ _ | refine Ext.drew ?_ | refine Ext.drewN ?_ _ | refine Ext.up1N (by first | omega | simp) ?_) | refine Ext.alloc ?_ _ | refine Ext.setCell ?_ (.inr (by first | omega | simp)) _))⟩
end Go.Proofs.YtekbonciafbjiaaGreat
