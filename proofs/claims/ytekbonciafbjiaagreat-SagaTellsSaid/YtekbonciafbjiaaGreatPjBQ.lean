/- Joined texts: R12h. What each proves stands at its head; no conditions beside those in its theorems. -/
import Derived.Test.YtekbonciafbjiaaGreatPjAA
import Derived.Test.YtekbonciafbjiaaGreatPjAC
import Derived.Test.YtekbonciafbjiaaGreatPjAD
import Derived.Test.YtekbonciafbjiaaGreatPjAG
import Derived.Test.YtekbonciafbjiaaGreatPjAI
import Derived.Test.YtekbonciafbjiaaGreatPjAN
import Derived.Test.YtekbonciafbjiaaGreatPjAJ
import Derived.Test.YtekbonciafbjiaaGreatPjAS
import Derived.Test.YtekbonciafbjiaaGreatPjAT
import Derived.Test.YtekbonciafbjiaaGreatPjAU
import Derived.Test.YtekbonciafbjiaaGreatPjAV
import Derived.Test.YtekbonciafbjiaaGreatPjAY
import Derived.Test.YtekbonciafbjiaaGreatPjAL
import Derived.Test.YtekbonciafbjiaaGreatPjAM
import Derived.Test.YtekbonciafbjiaaGreatPjAO
import Derived.Test.YtekbonciafbjiaaGreatPjAR
import Derived.Test.YtekbonciafbjiaaGreatPjAW
import Derived.Test.YtekbonciafbjiaaGreatPjAE
import Derived.Test.YtekbonciafbjiaaGreatPjAP
import Derived.Test.YtekbonciafbjiaaGreatPjBA
import Derived.Test.YtekbonciafbjiaaGreatPjAB
import Derived.Test.YtekbonciafbjiaaGreatPjBN
import Derived.Test.YtekbonciafbjiaaGreatPjAQ
import Derived.Test.YtekbonciafbjiaaGreatPjAK
import Derived.Test.YtekbonciafbjiaaGreatPjBB
import Derived.Test.YtekbonciafbjiaaGreatPjBD
import Derived.Test.YtekbonciafbjiaaGreatPjBO
/- The reference of layers 7, 11, 12: texts of configurations, results and ledgers. -/
namespace Go.Proofs.YtekbonciafbjiaaGreat
open Go.RowKit Go.Lib F64
set_option linter.unusedSimpArgs false
set_option linter.unusedVariables false
attribute [local go_sem] run_store_float
attribute [local go_sem low] EW.cellN EW.frozN alloc_cell_or alloc_froz_or EW.cellF EW.frozF EW.cell1 EW.froz1
attribute [local go_sem] relAt relUpon
/-- What a writer's call leaves, seen from a world that is older than the writer. -/
theorem rwrote_ew {w0 w' : World} {z : EW Non w0} {n0 b : Nat} {W' : Wr} (h : RWrote z.on w' n0 b W') (h0 : w0.heap.size ≤ n0) : ∃ y : EW Non w0, w' = y.on ∧ RW y.on n0 b W' ∧ z.on.heap.size ≤ y.on.heap.size :=
  ⟨⟨w', z.ext.step h.x fun i hi s => by have hb' := h.p.nb; rcases s with s | s; omega; have := s.1; omega⟩, rfl, h.p, h.x.size⟩
set_option maxHeartbeats 2000000 in
set_option maxRecDepth 100000 in
theorem ref07_Text (ep : Int) (hep : 0 ≤ ep ∧ ep ≤ 60) (a : Option Addr) (cap : Nat) (xs : List Int) (hm : membersB xs = true) (w : World) (h : Ints w a cap xs) : Calls Tryz.prog 71 #[.agg #[.int .i64 ep, .slice a xs.length cap]] w fun e w' =>
    e = .returned (.tuple #[.string ⟨(confT ep xs).toArray⟩, .int .i64 0]) ∧ Ext Non w w' := by
  have HI := Go.Lib.hid h
  have HC : Hid (confB ep xs = true) := Go.Lib.hid (by unfold confB; rw [hm]; simp [hep.1, hep.2])
  obtain ⟨-, -, hl1, hl2⟩ := members_facts hm
  have HD : Hid (doneS (xs.foldl byteW (byteW (wordW (byteW (newW 100) 67) ep) xs.length)) = ⟨(confT ep xs).toArray⟩ ∧ (xs.foldl byteW (byteW (wordW (byteW (newW 100) 67) ep) xs.length)).err = 0) := Go.Lib.hid (by
    have := conf_wt hep hm (lim := 100) (by omega); exact ⟨this.done, this.err⟩)
  clear h hm
  go_enter Tryz.func71, Tryz.ntmps71
  go_wp2_with fail
  have B0 := Go.Lib.hid (Bx.newAt w [.int .i64 ep, .slice a xs.length cap] 24 _ rfl)
  refine Calls.ew (ref_Right07 ep a cap xs _ (HI.out.extN (by (repeat (first | with_reducible (first | exact Ext.refl _ _ | assumption | refine Ext.upN ?_ | refine Ext.alloc ?_ _ | refine Ext.upA (by assumption) ?_ | refine Ext.upW ?_ | refine Ext.drew ?_ | refine Ext.drewN ?_ _ | refine Ext.up1N (by first | omega | simp) ?_) | refine Ext.alloc ?_ _ | refine Ext.setCell ?_ (.inr (by first | omega | simp)) _))))) ?_
  rintro e x1 rfl
  rw [HC.out]
  have XA : Ext Non w x1.on := by (repeat (first | with_reducible (first | exact Ext.refl _ _ | assumption | refine Ext.upN ?_ | refine Ext.alloc ?_ _ | refine Ext.upA (by assumption) ?_ | refine Ext.upW ?_ | refine Ext.drew ?_ | refine Ext.drewN ?_ _ | refine Ext.up1N (by first | omega | simp) ?_) | refine Ext.alloc ?_ _ | refine Ext.setCell ?_ (.inr (by first | omega | simp)) _))
  have B1 := Go.Lib.hid (B0.out.extN x1.ext)
  have HIw := Go.Lib.hid (HI.out.extN XA)
  have HXA := Go.Lib.hid XA
  clear XA B0 HI
  generalize x1.on = wA at *
  have c0 : wA.cell? ⟨w.heap.size, 0, none⟩ = some (.int .i64 ep) := B1.out.cell rfl
  have c1 : wA.cell? ⟨w.heap.size, 1, none⟩ = some (.slice a xs.length cap) := B1.out.cell rfl
  have HL := Go.Lib.hid (Nat.le_refl wA.heap.size)
  go_wp2_with fail
  refine (refw_New 100 (by omega) wA.heap.size wA HL.out).mono ?_
  rintro e _ ⟨b, rfl, hx, hP, hb⟩
  obtain ⟨z0, rfl⟩ := hx.ew
  have P0 := Go.Lib.hid hP
  clear hP hx hb
  go_wp2_with fail
  refine (refw_Num1 wA.heap.size b _ 67 (by unfold I64; omega) _ P0.out z0.ext.size).mono ?_
  rintro e _ ⟨rfl, hw1⟩
  obtain ⟨z1, rfl, hP, hs1⟩ := rwrote_ew hw1 HL.out
  have P1 := Go.Lib.hid hP
  clear hP hw1 P0 hs1
  go_wp2_with fail
  refine (refw_Num2 wA.heap.size b _ ep (by unfold I64; omega) _ P1.out z1.ext.size).mono ?_
  rintro e _ ⟨rfl, hw1⟩
  obtain ⟨z2, rfl, hP, hs2⟩ := rwrote_ew hw1 HL.out
  have P2 := Go.Lib.hid hP
  clear hP hw1 P1 hs2
  go_wp2_with fail
  refine (refw_Num1 wA.heap.size b _ (xs.length : Int) (by unfold I64; omega) _ P2.out z2.ext.size).mono ?_
  rintro e _ ⟨rfl, hw1⟩
  obtain ⟨z3, rfl, hP, hs3⟩ := rwrote_ew hw1 HL.out
  obtain ⟨W0, hW0⟩ : ∃ W0, W0 = byteW (wordW (byteW (newW 100) 67) ep) xs.length := ⟨_, rfl⟩
  rw [← hW0] at hP HD
  have P3 : Hid (RW z3.on wA.heap.size b ((xs.take 0).foldl byteW W0)) := Go.Lib.hid hP
  clear hP hw1 P2 hW0 hs3
  go_wp2_with fail
  go_loopg [5] xs.length (fun n iv wr => ∃ (i : Nat) (z : EW Non wA), i ≤ xs.length ∧ n = xs.length - i ∧ iv = .int .i64 i ∧ wr = z.on ∧ Hid (RW wr wA.heap.size b ((xs.take i).foldl byteW W0)))
  case atStart => exact ⟨0, ⟨_, by (repeat (first | with_reducible (first | exact Ext.refl _ _ | assumption | refine Ext.upN ?_ | refine Ext.alloc ?_ _ | refine Ext.upA (by assumption) ?_ | refine Ext.upW ?_ | refine Ext.drew ?_ | refine Ext.drewN ?_ _ | refine Ext.up1N (by first | omega | simp) ?_) | refine Ext.alloc ?_ _ | refine Ext.setCell ?_ (.inr (by first | omega | simp)) _))⟩, Nat.zero_le _, rfl, rfl, rfl, P3⟩
  case round =>
    clear P3
    obtain ⟨i, z, hi, hn, rfl, rfl, HP⟩ := hrel
    have HN := Go.Lib.hid hn; clear hn
    by_cases hlt : i < xs.length
    · obtain ⟨ab, ao, rfl, hcell, hx64⟩ := HIw.out.at_ i hlt
      have HT := Go.Lib.hid (fold_take byteW W0 xs i hlt)
      have HX := Go.Lib.hid hx64
      clear hx64
      generalize xs[i] = x at *
      go_wp2_with fail
      refine (refw_Num1 wA.heap.size b _ x HX.out _ HP.out z.ext.size).mono ?_
      rintro e _ ⟨rfl, hw1⟩
      obtain ⟨z4, rfl, hP, hs1⟩ := rwrote_ew hw1 HL.out
      rw [← HT.out] at hP
      have P4 := Go.Lib.hid hP
      clear hP hw1 hs1
      go_wp2_with fail
      go_roundg (xs.length - (i + 1))
      case measure => have := HN.out; omega
      case rel => exact ⟨i + 1, ⟨_, by (repeat (first | with_reducible (first | exact Ext.refl _ _ | assumption | refine Ext.upN ?_ | refine Ext.alloc ?_ _ | refine Ext.upA (by assumption) ?_ | refine Ext.upW ?_ | refine Ext.drew ?_ | refine Ext.drewN ?_ _ | refine Ext.up1N (by first | omega | simp) ?_) | refine Ext.alloc ?_ _ | refine Ext.setCell ?_ (.inr (by first | omega | simp)) _))⟩, hlt, rfl, by go_num, rfl, P4⟩
    · obtain rfl : i = xs.length := by omega
      have hp := HP.out
      rw [List.take_length] at hp
      have P5 := Go.Lib.hid hp
      clear hp
      go_wp2_with fail
      refine Calls.ew (refw_Done wA.heap.size b _ _ P5.out) ?_
      rintro e x2 rfl
      rw [HD.out.1, HD.out.2]
      go_wp2
      go_returns
      exact ⟨rfl, HXA.out.trans (by (repeat (first | with_reducible (first | exact Ext.refl _ _ | assumption | refine Ext.upN ?_ | refine Ext.alloc ?_ _ | refine Ext.upA (by assumption) ?_ | refine Ext.upW ?_ | refine Ext.drew ?_ | refine Ext.drewN ?_ _ | refine Ext.up1N (by first | omega | simp) ?_) | refine Ext.alloc ?_ _ | refine Ext.setCell ?_ (.inr (by first | omega | simp)) _)))⟩
set_option maxHeartbeats 2000000 in
set_option maxRecDepth 100000 in
theorem ref11_ResultText (cd : Int) (hcd : 0 ≤ cd ∧ cd ≤ 8) (x : Nat) (hx : x < 18446744073709551616) (hc : canonN x = x) (w : World) : Calls Tryz.prog 74 #[.agg #[.int .i64 cd, .float .f64 x]] w fun e w' =>
    e = .returned (.tuple #[.string ⟨(resT cd x).toArray⟩, .int .i64 0]) ∧ Ext Non w w' := by
  have HD : Hid (doneS (bitsW (byteW (newW 9) cd) (canonN x)) = ⟨(resT cd x).toArray⟩ ∧ (bitsW (byteW (newW 9) cd) (canonN x)).err = 0) := Go.Lib.hid (by
    have := res_wt hcd hc (lim := 9) (by omega); exact ⟨this.done, this.err⟩)
  have d0 : decide (cd < 0) = false := decide_eq_false (by omega)
  have d8 : decide (8 < cd) = false := decide_eq_false (by omega)
  have hcan : canonN x < 18446744073709551616 := canon_lt hx
  clear hc
  go_enter Tryz.func74, Tryz.ntmps74
  go_upto_region 3 with fail
  have B := Go.Lib.hid (Bx.newAt w [.int .i64 cd, .float .f64 x] 47 _ rfl)
  have XA : Ext Non w (w.alloc (.cells [Value.int .i64 cd, .float .f64 x].toArray 47)) := (Ext.refl _ _).alloc _
  generalize w.alloc (.cells #[Value.int .i64 cd, .float .f64 x] 47) = wA at *
  have c0 : wA.cell? ⟨w.heap.size, 0, none⟩ = some (.int .i64 cd) := B.out.cell rfl
  have c1 : wA.cell? ⟨w.heap.size, 1, none⟩ = some (.float .f64 x) := B.out.cell rfl
  have HL := Go.Lib.hid (Nat.le_refl wA.heap.size)
  have XB := Go.Lib.hid XA
  clear XA
  go_wp2_with fail
  refine (refw_New 9 (by decide) wA.heap.size wA HL.out).mono ?_
  rintro e _ ⟨b, rfl, hx1, hP, hb⟩
  obtain ⟨z0, rfl⟩ := hx1.ew
  have P0 := Go.Lib.hid hP
  clear hP hx1 hb
  go_wp2_with fail
  refine (refw_Num1 wA.heap.size b _ cd (by unfold I64; omega) _ P0.out z0.ext.size).mono ?_
  rintro e _ ⟨rfl, hw1⟩
  obtain ⟨z1, rfl, hP, hs1⟩ := rwrote_ew hw1 HL.out
  have P1 := Go.Lib.hid hP
  clear hP hw1 P0 hs1
  go_wp2_with fail
  refine (ref_Bits x _).mono ?_
  rintro e _ ⟨rfl, rfl⟩
  go_wp2_with fail
  refine (refw_Bits wA.heap.size b _ (canonN x) hcan _ P1.out z1.ext.size).mono ?_
  rintro e _ ⟨rfl, hw1⟩
  obtain ⟨z2, rfl, hP, hs2⟩ := rwrote_ew hw1 HL.out
  have P2 := Go.Lib.hid hP
  clear hP hw1 P1 hs2
  go_wp2_with fail
  refine Calls.ew (refw_Done wA.heap.size b _ _ P2.out) ?_
  rintro e x2 rfl
  rw [HD.out.1, HD.out.2]
  have XC := XB.out
  go_wp2
  go_returns
  exact ⟨rfl, XC.trans (z2.ext.trans x2.ext)⟩
def refKW (W : Wr) (p : ByteArray × Nat) : Wr := bitsW (textW W (kl p)) p.2
set_option maxHeartbeats 4000000 in
set_option maxRecDepth 100000 in
theorem ref12_Text (b sb rb : Nat) (g : Lg) (I : Inv g) (w : World) (h : RL w b sb rb g) : Calls Tryz.prog 32 #[.pointer (some ⟨b, 0, none⟩)] w fun e w' =>
    e = .returned (.string (ledgS g)) ∧ Ext Non w w' := by
  have HH := Go.Lib.hid h
  have HI := Go.Lib.hid I
  obtain ⟨a1, c1, a2, c2, v, hb, i1, i2, t1, t2, hv⟩ := h.ex
  have I1 := Go.Lib.hid i1; have I2 := Go.Lib.hid i2
  obtain ⟨ia, ic, q4, h1, h2, hc⟩ := h.row
  have HC := Go.Lib.hid hc
  have q0 : w.cell? ⟨b, 0, none⟩ = some (.int .i64 g.epoch) := hb.cell rfl
  have q1 : w.cell? ⟨b, 1, none⟩ = some (.slice a1 g.mem.length c1) := hb.cell rfl
  have q2 : w.cell? ⟨b, 2, none⟩ = some (.slice a2 g.next.length c2) := hb.cell rfl
  have q3 : w.cell? ⟨b, 3, none⟩ = some (.int .i64 g.done) := hb.cell rfl
  have q5 : w.cell? ⟨b, 5, none⟩ = some (.slice (some ⟨sb, 0, none⟩) 9 9) := hb.cell rfl
  have q6 : w.cell? ⟨b, 6, none⟩ = some (.slice (some ⟨rb, 0, none⟩) 9 9) := hb.cell rfl
  obtain ⟨mn1, -, mn2, mn3⟩ := members_facts I.mn
  have hep := I.ep; have hdn := I.dn; have hkl := I.kl
  have HSL : Hid ((sortK g.keys).length = g.keys.length) := Go.Lib.hid (sortK_len _)
  have hl16 : (sortK g.keys).length ≤ 16 := by rw [sortK_len]; exact I.kl
  have HKM : Hid (∀ p ∈ sortK g.keys, 1 ≤ p.1.size ∧ p.1.size ≤ 16 ∧ p.2 < 18446744073709551616) := Go.Lib.hid (fun p hp => by have := I.kb p (mem_sortK hp); exact ⟨this.1, this.2.1, this.2.2.1⟩)
  have HDN : Hid (doneS ((List.range 8).foldl (cliW g.cl) ((sortK g.keys).foldl refKW (byteW (longW (g.next.foldl byteW (byteW (textW (byteW (newW 1048576) 76) (confS g.epoch g.mem).data.toList) g.next.length)) g.done) g.keys.length))) = ledgS g) := Go.Lib.hid (by
    rw [ledgS_of I h.nd]
    exact (ledg_wt I h.nd (lim := 1048576) (by omega) (kw := refKW) (fun p hp W => rfl)).done)
  clear hb i1 i2 t1 t2 hv hc h I mn1
  go_enter Tryz.func32, Tryz.ntmps32
  go_wp2_with fail
  have HL := Go.Lib.hid (Nat.le_refl w.heap.size)
  refine (refw_New 1048576 (by decide) w.heap.size w HL.out).mono ?_
  rintro e _ ⟨wb, rfl, hx, hP, hb⟩
  obtain ⟨z0, rfl⟩ := hx.ew
  have P0 := Go.Lib.hid hP
  clear hP hx hb
  go_wp2_with fail
  refine (refw_Num1 w.heap.size wb _ 76 (by unfold I64; omega) _ P0.out z0.ext.size).mono ?_
  rintro e _ ⟨rfl, hw1⟩
  obtain ⟨z1, rfl, hP, hs1⟩ := rwrote_ew hw1 HL.out
  have P1 := Go.Lib.hid hP
  clear hP hw1 P0 hs1
  go_wp2_with fail
  refine Calls.ew (ref07_Text g.epoch hep a1 c1 g.mem HI.out.mm _ (I1.out.extN (by (repeat (first | with_reducible (first | exact Ext.refl _ _ | assumption | refine Ext.upN ?_ | refine Ext.alloc ?_ _ | refine Ext.upA (by assumption) ?_ | refine Ext.upW ?_ | refine Ext.drew ?_ | refine Ext.drewN ?_ _ | refine Ext.up1N (by first | omega | simp) ?_) | refine Ext.alloc ?_ _ | refine Ext.setCell ?_ (.inr (by first | omega | simp)) _))))) ?_
  rintro e z3 rfl
  have P3 := Go.Lib.hid (P1.out.extN z3.ext)
  clear P1
  have HCT : Hid (confS g.epoch g.mem = ⟨(confT g.epoch g.mem).toArray⟩ ∧ ((⟨(confT g.epoch g.mem).toArray⟩ : ByteArray)).size ≤ 9223372036854775807) := Go.Lib.hid (by
    have e := (confS_of HI.out.ep HI.out.mm).1
    refine ⟨e, ?_⟩
    rw [← e]; exact Nat.le_trans (confS_le _ _) (by omega))
  obtain ⟨cs, hcs⟩ : ∃ cs, cs = (⟨(confT g.epoch g.mem).toArray⟩ : ByteArray) := ⟨_, rfl⟩
  rw [← hcs] at HCT ⊢
  clear hcs
  have X3 : Ext Non w z3.on := by (repeat (first | with_reducible (first | exact Ext.refl _ _ | assumption | refine Ext.upN ?_ | refine Ext.alloc ?_ _ | refine Ext.upA (by assumption) ?_ | refine Ext.upW ?_ | refine Ext.drew ?_ | refine Ext.drewN ?_ _ | refine Ext.up1N (by first | omega | simp) ?_) | refine Ext.alloc ?_ _ | refine Ext.setCell ?_ (.inr (by first | omega | simp)) _))
  obtain ⟨z4, hz4⟩ := X3.ew
  rw [hz4] at P3 ⊢
  clear hz4 X3 z3 z1 z0
  go_wp2_with fail
  refine (refw_Text w.heap.size wb _ cs HCT.out.2 _ P3.out z4.ext.size).mono ?_
  rintro e _ ⟨rfl, hw1⟩
  obtain ⟨z5, rfl, hP, hs1⟩ := rwrote_ew hw1 HL.out
  have P5 := Go.Lib.hid hP
  clear hP hw1 P3 hs1
  go_wp2_with fail
  refine (refw_Num1 w.heap.size wb _ (g.next.length : Int) (by unfold I64; omega) _ P5.out z5.ext.size).mono ?_
  rintro e _ ⟨rfl, hw1⟩
  obtain ⟨z6, rfl, hP, hs1⟩ := rwrote_ew hw1 HL.out
  obtain ⟨W1, hW1⟩ : ∃ W1, W1 = byteW (textW (byteW (newW 1048576) 76) (confS g.epoch g.mem).data.toList) g.next.length := ⟨_, rfl⟩
  rw [← hW1] at HDN
  have P6 : Hid (RW z6.on w.heap.size wb ((g.next.take 0).foldl byteW W1)) := Go.Lib.hid (by rw [List.take_zero, List.foldl_nil, hW1, HCT.out.1]; exact hP)
  clear hP hw1 P5 hs1 hW1
  go_wp2_with fail
  go_loopg [6] g.next.length (fun n iv wr => ∃ (i : Nat) (z : EW Non w), i ≤ g.next.length ∧ n = g.next.length - i ∧ iv = .int .i64 i ∧ wr = z.on ∧ Hid (RW wr w.heap.size wb ((g.next.take i).foldl byteW W1)))
  case atStart => exact ⟨0, ⟨_, by (repeat (first | with_reducible (first | exact Ext.refl _ _ | assumption | refine Ext.upN ?_ | refine Ext.alloc ?_ _ | refine Ext.upA (by assumption) ?_ | refine Ext.upW ?_ | refine Ext.drew ?_ | refine Ext.drewN ?_ _ | refine Ext.up1N (by first | omega | simp) ?_) | refine Ext.alloc ?_ _ | refine Ext.setCell ?_ (.inr (by first | omega | simp)) _))⟩, Nat.zero_le _, rfl, rfl, rfl, P6⟩
  case round =>
    clear P6
    obtain ⟨i, z, hi, hn, rfl, rfl, HP⟩ := hrel
    have HN := Go.Lib.hid hn; clear hn
    by_cases hlt : i < g.next.length
    · obtain ⟨ab, ao, rfl, hcell, hx64⟩ := I2.out.at_ i hlt
      have HT := Go.Lib.hid (fold_take byteW W1 g.next i hlt)
      have HX := Go.Lib.hid hx64
      clear hx64
      generalize g.next[i] = x at *
      go_wp2_with fail
      refine (refw_Num1 w.heap.size wb _ x HX.out _ HP.out z.ext.size).mono ?_
      rintro e _ ⟨rfl, hw1⟩
      obtain ⟨z7, rfl, hP, hs1⟩ := rwrote_ew hw1 HL.out
      rw [← HT.out] at hP
      have P7 := Go.Lib.hid hP
      clear hP hw1 hs1
      go_wp2_with fail
      go_roundg (g.next.length - (i + 1))
      case measure => have := HN.out; omega
      case rel => exact ⟨i + 1, ⟨_, by (repeat (first | with_reducible (first | exact Ext.refl _ _ | assumption | refine Ext.upN ?_ | refine Ext.alloc ?_ _ | refine Ext.upA (by assumption) ?_ | refine Ext.upW ?_ | refine Ext.drew ?_ | refine Ext.drewN ?_ _ | refine Ext.up1N (by first | omega | simp) ?_) | refine Ext.alloc ?_ _ | refine Ext.setCell ?_ (.inr (by first | omega | simp)) _))⟩, hlt, rfl, by go_num, rfl, P7⟩
    · obtain rfl : i = g.next.length := by omega
      have hp := HP.out
      rw [List.take_length] at hp
      have P8 := Go.Lib.hid hp
      clear hp HP HN
      go_wp2_with fail
      refine (refw_Num4 w.heap.size wb _ g.done (by unfold I64; omega) _ P8.out z.ext.size).mono ?_
      rintro e _ ⟨rfl, hw1⟩
      obtain ⟨z9, rfl, hP, hs1⟩ := rwrote_ew hw1 HL.out
      have P9 := Go.Lib.hid hP
      clear hP hw1 hs1 P8
      go_wp2_with fail
      refine (refw_Num1 w.heap.size wb _ ((sortK g.keys).length : Int) (by unfold I64; omega) _ P9.out z9.ext.size).mono ?_
      rintro e _ ⟨rfl, hw1⟩
      obtain ⟨zA, rfl, hP, hs1⟩ := rwrote_ew hw1 HL.out
      obtain ⟨W2, hW2⟩ : ∃ W2, W2 = byteW (longW (g.next.foldl byteW W1) g.done) g.keys.length := ⟨_, rfl⟩
      rw [← hW2] at HDN
      have PA : Hid (RW zA.on w.heap.size wb (((sortK g.keys).take 0).foldl refKW W2)) := Go.Lib.hid (by rw [List.take_zero, List.foldl_nil, hW2, ← HSL.out]; exact hP)
      clear hP hw1 hs1 P9 hW2
      clear HSL
      generalize sortK g.keys = l at *
      go_wp2_with fail
      go_loopg [7] l.length (fun n iv wr => ∃ (i : Nat) (z : EW Non w), i ≤ l.length ∧ n = l.length - i ∧ iv = .int .i64 i ∧ wr = z.on ∧ Hid (RW wr w.heap.size wb ((l.take i).foldl refKW W2)))
      case atStart => exact ⟨0, ⟨_, by (repeat (first | with_reducible (first | exact Ext.refl _ _ | assumption | refine Ext.upN ?_ | refine Ext.alloc ?_ _ | refine Ext.upA (by assumption) ?_ | refine Ext.upW ?_ | refine Ext.drew ?_ | refine Ext.drewN ?_ _ | refine Ext.up1N (by first | omega | simp) ?_) | refine Ext.alloc ?_ _ | refine Ext.setCell ?_ (.inr (by first | omega | simp)) _))⟩, Nat.zero_le _, rfl, rfl, rfl, PA⟩
      case round =>
        clear PA
        obtain ⟨j, zz, hj, hjn, rfl, rfl, HJ⟩ := hrel
        have HN := Go.Lib.hid hjn; clear hjn
        by_cases hlt2 : j < l.length
        · obtain ⟨gi, rfl, hg, k0, k1⟩ := HC.out j hlt2
          have HT := Go.Lib.hid (fold_take refKW W2 l j hlt2)
          have HKP := Go.Lib.hid (HKM.out _ (List.getElem_mem hlt2))
          generalize l[j] = p at *
          obtain ⟨pk, px⟩ := p
          have k0 : w.cell? ⟨gi, j * 2, none⟩ = some (.string pk) := k0
          have k1 : w.cell? ⟨gi, j * 2 + 1, none⟩ = some (.int .u64 px) := k1
          have HPK : Hid (pk.size ≤ 9223372036854775807 ∧ px < 18446744073709551616) := Go.Lib.hid ⟨by have := HKP.out.2.1; have : pk.size ≤ 16 := this; omega, HKP.out.2.2⟩
          go_wp2_with fail
          refine (refw_Text w.heap.size wb _ pk HPK.out.1 _ HJ.out zz.ext.size).mono ?_
          rintro e _ ⟨rfl, hw1⟩
          obtain ⟨zB, rfl, hP, hs1⟩ := rwrote_ew hw1 HL.out
          have PB := Go.Lib.hid hP
          clear hP hw1 hs1
          go_wp2_with fail
          refine (refw_Bits w.heap.size wb _ px HPK.out.2 _ PB.out zB.ext.size).mono ?_
          rintro e _ ⟨rfl, hw1⟩
          obtain ⟨zC, rfl, hP, hs1⟩ := rwrote_ew hw1 HL.out
          have PC : Hid (RW zC.on w.heap.size wb ((l.take (j + 1)).foldl refKW W2)) := Go.Lib.hid (by rw [HT.out]; exact hP)
          clear hP hw1 hs1
          go_wp2_with fail
          go_roundg (l.length - (j + 1))
          case measure => have := HN.out; omega
          case rel => exact ⟨j + 1, ⟨_, by (repeat (first | with_reducible (first | exact Ext.refl _ _ | assumption | refine Ext.upN ?_ | refine Ext.alloc ?_ _ | refine Ext.upA (by assumption) ?_ | refine Ext.upW ?_ | refine Ext.drew ?_ | refine Ext.drewN ?_ _ | refine Ext.up1N (by first | omega | simp) ?_) | refine Ext.alloc ?_ _ | refine Ext.setCell ?_ (.inr (by first | omega | simp)) _))⟩, hlt2, rfl, by go_num, rfl, PC⟩
        · obtain rfl : j = l.length := by omega
          have hp := HJ.out
          rw [List.take_length] at hp
          obtain ⟨W3, hW3⟩ : ∃ W3, W3 = l.foldl refKW W2 := ⟨_, rfl⟩
          rw [← hW3] at HDN hp
          have P3b : Hid (RW zz.on w.heap.size wb ((List.range 0).foldl (cliW g.cl) W3)) := Go.Lib.hid hp
          clear hp hW3 HJ
          go_wp2_with fail
          go_loopg [8, 9, 10] 8 (fun n iv v9 v10 wr => ∃ (i : Nat) (z : EW Non w), i ≤ 8 ∧ n = 8 - i ∧ iv = .int .i64 ((i : Int) + 1) ∧ wr = z.on ∧ Hid (RW wr w.heap.size wb ((List.range i).foldl (cliW g.cl) W3)))
          case atStart => exact ⟨0, ⟨_, by (repeat (first | with_reducible (first | exact Ext.refl _ _ | assumption | refine Ext.upN ?_ | refine Ext.alloc ?_ _ | refine Ext.upA (by assumption) ?_ | refine Ext.upW ?_ | refine Ext.drew ?_ | refine Ext.drewN ?_ _ | refine Ext.up1N (by first | omega | simp) ?_) | refine Ext.alloc ?_ _ | refine Ext.setCell ?_ (.inr (by first | omega | simp)) _))⟩, by omega, rfl, rfl, rfl, P3b⟩
          case round =>
            clear P3b
            obtain ⟨i, z, hi, hn, rfl, rfl, HP⟩ := hrel
            have HN := Go.Lib.hid hn; clear hn
            by_cases hlt : i < 8
            · have hst := HH.out.st.cell (st_get g.cl hlt)
              obtain ⟨hr0, hr1⟩ := rs_get g.cl hlt
              have r0 := HH.out.rs.cell hr0
              have r1 := HH.out.rs.cell hr1
              obtain ⟨cb1, cb2, cb3, cb4, cb5, cb6, -⟩ := HI.out.cb i
              have HCB := Go.Lib.hid (And.intro (And.intro cb3 cb4) (And.intro cb5 cb6))
              have HT : Hid ((List.range (i + 1)).foldl (cliW g.cl) W3 = textW (longW ((List.range i).foldl (cliW g.cl) W3) (g.cl i).stamp) (resS (g.cl i).code (g.cl i).real).data.toList) := Go.Lib.hid (by rw [List.range_succ, List.foldl_append]; rfl)
              generalize (g.cl i).stamp = sta at *
              generalize (g.cl i).code = cod at *
              generalize (g.cl i).real = rea at *
              obtain ⟨cn, hcn⟩ : ∃ cn, cn = i + 1 := ⟨_, rfl⟩
              rw [← hcn] at hst r0 r1
              have e1 : ((i : Int) + 1) = (cn : Int) := by omega
              rw [e1]
              have d8 : decide ((cn : Int) ≤ 8) = true := decide_eq_true (by omega)
              have b0 : (0 : Int) ≤ (cn : Int) := by omega
              have b9 : (cn : Int) < 9 := by omega
              have wn : IntKind.i64.wrap ((cn : Int) + 1) = (cn : Int) + 1 := IntWalk.i64_in _ (by omega)
              have HCN := Go.Lib.hid hcn
              clear hcn hr0 hr1 e1 cb3 cb4 cb5 cb6
              go_wp2_with fail
              refine (refw_Num4 w.heap.size wb _ sta (by unfold I64; omega) _ HP.out z.ext.size).mono ?_
              rintro e _ ⟨rfl, hw1⟩
              obtain ⟨y6, rfl, hP, hs1⟩ := rwrote_ew hw1 HL.out
              have P6 := Go.Lib.hid hP
              clear hP hw1 hs1
              go_wp2_with fail
              refine Calls.ew (ref11_ResultText cod HCB.out.1 rea HCB.out.2.1 HCB.out.2.2 _) ?_
              rintro e y7 rfl
              have P7 := Go.Lib.hid (P6.out.extN y7.ext)
              have HRT : Hid (resS cod rea = ⟨(resT cod rea).toArray⟩ ∧ ((⟨(resT cod rea).toArray⟩ : ByteArray)).size ≤ 9223372036854775807) := Go.Lib.hid (by
                have e := (resS_of HCB.out.1 HCB.out.2.2).1
                refine ⟨e, ?_⟩
                rw [← e]; exact Nat.le_trans (resS_le _ _) (by omega))
              obtain ⟨rs, hrs⟩ : ∃ rs, rs = (⟨(resT cod rea).toArray⟩ : ByteArray) := ⟨_, rfl⟩
              rw [← hrs] at HRT ⊢
              clear hrs
              have X8 : Ext Non w y7.on := by (repeat (first | with_reducible (first | exact Ext.refl _ _ | assumption | refine Ext.upN ?_ | refine Ext.alloc ?_ _ | refine Ext.upA (by assumption) ?_ | refine Ext.upW ?_ | refine Ext.drew ?_ | refine Ext.drewN ?_ _ | refine Ext.up1N (by first | omega | simp) ?_) | refine Ext.alloc ?_ _ | refine Ext.setCell ?_ (.inr (by first | omega | simp)) _))
              obtain ⟨y8, hy8⟩ := X8.ew
              rw [hy8] at P7 ⊢
              clear hy8 X8
              go_wp2_with fail
              refine (refw_Text w.heap.size wb _ rs HRT.out.2 _ P7.out y8.ext.size).mono ?_
              rintro e _ ⟨rfl, hw1⟩
              obtain ⟨y9, rfl, hP, hs1⟩ := rwrote_ew hw1 HL.out
              rw [← HRT.out.1, ← HT.out] at hP
              have P9 := Go.Lib.hid hP
              clear hP hw1 hs1
              go_wp2_with fail
              go_roundg (8 - (i + 1))
              case measure => have := HN.out; omega
              case rel => exact ⟨i + 1, ⟨_, by (repeat (first | with_reducible (first | exact Ext.refl _ _ | assumption | refine Ext.upN ?_ | refine Ext.alloc ?_ _ | refine Ext.upA (by assumption) ?_ | refine Ext.upW ?_ | refine Ext.drew ?_ | refine Ext.drewN ?_ _ | refine Ext.up1N (by first | omega | simp) ?_) | refine Ext.alloc ?_ _ | refine Ext.setCell ?_ (.inr (by first | omega | simp)) _))⟩, by omega, rfl, by have := HCN.out; go_num, rfl, P9⟩
            · obtain rfl : i = 8 := by omega
              have d8 : decide (((8 : Nat) : Int) + 1 ≤ 8) = false := by decide
              go_wp2_with fail
              refine Calls.ew (refw_Done w.heap.size wb _ _ HP.out) ?_
              rintro e y1 rfl
              rw [HDN.out]
              go_wp2
              go_ret
              exact ⟨rfl, by (repeat (first | with_reducible (first | exact Ext.refl _ _ | assumption | refine Ext.upN ?_ | refine Ext.alloc ?_ _ | refine Ext.upA (by assumption) ?_ | refine Ext.upW ?_ | refine Ext.drew ?_ | refine Ext.drewN ?_ _ | refine Ext.up1N (by first | omega | simp) ?_) | refine Ext.alloc ?_ _ | refine Ext.setCell ?_ (.inr (by first | omega | simp)) _))⟩
end Go.Proofs.YtekbonciafbjiaaGreat
