/- Joined texts: Text22, Iter, Text12. What each proves stands at its head; no conditions beside those in its theorems. -/
import Derived.Test.YtekbonciafbjiaaEw6
import Derived.Test.YtekbonciafbjiaaPack
import Derived.Test.YtekbonciafbjiaaCouncil
import Derived.Test.YtekbonciafbjiaaDeeds
import Derived.Test.YtekbonciafbjiaaProg
import Derived.Shelf.SlIter.Nil
import Derived.Shelf.SortM.Plain
import Derived.Shelf.SortM.SortNone
import Derived.Ground.GgzProg
import Derived.Ground.SlgmProg
import Derived.Test.YtekbonciafbjiaaCopy
import Derived.Sort.KeysCollected
/- Layers 7, 11: the texts of configurations and of results. -/
namespace Go.Proofs.Ytekbonciafbjiaa
open Go.RowKit Go.Lib F64
set_option linter.unusedSimpArgs false
set_option linter.unusedVariables false
attribute [local go_sem] run_store_float
attribute [local go_sem low] EW.cellN EW.frozN alloc_cell_or alloc_froz_or EW.cellF EW.frozF EW.cell1 EW.froz1
/-- What a writer's call leaves, seen from a world that is older than the writer. -/
theorem wrote_ew {w0 w' : World} {z : EW Non w0} {n0 b : Nat} {W' : Wr} (h : Wrote z.on w' n0 b W') (h0 : w0.heap.size ≤ n0) : ∃ y : EW Non w0, w' = y.on ∧ PW y.on n0 b W' ∧ z.on.heap.size ≤ y.on.heap.size :=
  ⟨⟨w', Wrote.new h z.ext h0 h.p.nb⟩, rfl, h.p, h.x.size⟩
/-- A configuration's bytes. -/
def confW (ep : Int) (xs : List Int) : Wr := xs.foldl byteW (byteW (wordW (byteW (newW (4 + xs.length)) 67) ep) xs.length)
def confS (ep : Int) (xs : List Int) : ByteArray := if confB ep xs = true then doneS (confW ep xs) else ⟨#[]⟩
def confE (ep : Int) (xs : List Int) : Int := if confB ep xs = true then (confW ep xs).err else 1
theorem fold_take {α β : Type} (f : β → α → β) (s : β) (l : List α) (i : Nat) (h : i < l.length) : (l.take (i + 1)).foldl f s = f ((l.take i).foldl f s) l[i] := by
  rw [List.take_succ_eq_append_getElem h, List.foldl_append]; rfl
set_option maxHeartbeats 2000000 in
set_option maxRecDepth 100000 in
theorem council_Text (ep : Int) (hep : I64 ep) (a : Option Addr) (cap : Nat) (xs : List Int) (w : World) (h : Ints w a cap xs) : Calls Try.prog 70 #[.agg #[.int .i64 ep, .slice a xs.length cap]] w fun e w' =>
    e = .returned (.tuple #[.string (confS ep xs), .int .i64 (confE ep xs)]) ∧ Ext Non w w' := by
  have HI := Go.Lib.hid h
  clear h
  go_enter Try.func70, Try.ntmps70
  go_wp2_with fail
  refine Calls.ew (council_Right ep a cap xs _ (HI.out.extN (by (repeat (first | with_reducible exact Ext.refl _ _ | assumption | with_reducible refine Ext.upN ?_ | with_reducible refine Ext.alloc ?_ _ | with_reducible refine Ext.upA (by assumption) ?_ | with_reducible refine Ext.upW ?_ | with_reducible refine Ext.drew ?_ | with_reducible refine Ext.drewN ?_ _ | with_reducible refine Ext.upF ?_ | with_reducible refine Ext.upFF (by first | omega | simp) ?_ | with_reducible refine Ext.setCellsF _ _ _ (by first | omega | simp) ?_ | with_reducible refine Ext.setCellF _ _ _ (by first | omega | simp) ?_ | with_reducible refine Ext.upFN (by first | omega | simp) ?_ | with_reducible refine Ext.up1F (by first | omega | simp) ?_ | with_reducible refine Ext.up1N (by first | omega | simp) ?_ | with_reducible refine Ext.setCell ?_ (.inr (by first | omega | simp)) _ | refine Ext.alloc ?_ _ | refine Ext.setCellF _ _ _ (by first | omega | simp) ?_ | refine Ext.setCell ?_ (.inr (by first | omega | simp)) _))))) ?_
  rintro e x1 rfl
  cases hc : confB ep xs
  · have E1 : Hid (confS ep xs = ⟨#[]⟩ ∧ confE ep xs = 1) := Go.Lib.hid ⟨by unfold confS; rw [hc]; rfl, by unfold confE; rw [hc]; rfl⟩
    clear hc
    go_wp2
    go_returns
    exact ⟨by rw [E1.out.1, E1.out.2]; rfl, by (repeat (first | with_reducible exact Ext.refl _ _ | assumption | with_reducible refine Ext.upN ?_ | with_reducible refine Ext.alloc ?_ _ | with_reducible refine Ext.upA (by assumption) ?_ | with_reducible refine Ext.upW ?_ | with_reducible refine Ext.drew ?_ | with_reducible refine Ext.drewN ?_ _ | with_reducible refine Ext.upF ?_ | with_reducible refine Ext.upFF (by first | omega | simp) ?_ | with_reducible refine Ext.setCellsF _ _ _ (by first | omega | simp) ?_ | with_reducible refine Ext.setCellF _ _ _ (by first | omega | simp) ?_ | with_reducible refine Ext.upFN (by first | omega | simp) ?_ | with_reducible refine Ext.up1F (by first | omega | simp) ?_ | with_reducible refine Ext.up1N (by first | omega | simp) ?_ | with_reducible refine Ext.setCell ?_ (.inr (by first | omega | simp)) _ | refine Ext.alloc ?_ _ | refine Ext.setCellF _ _ _ (by first | omega | simp) ?_ | refine Ext.setCell ?_ (.inr (by first | omega | simp)) _))⟩
  · have hm : membersB xs = true := by unfold confB at hc; simp only [Bool.and_eq_true] at hc; exact hc.2
    obtain ⟨-, -, hl1, hl2⟩ := members_facts hm
    have E1 : Hid (confS ep xs = doneS (confW ep xs) ∧ confE ep xs = (confW ep xs).err) := Go.Lib.hid ⟨by unfold confS; rw [hc]; rfl, by unfold confE; rw [hc]; rfl⟩
    have HW : Hid (confW ep xs = xs.foldl byteW (byteW (wordW (byteW (newW ((4 + xs.length : Nat) : Int)) 67) ep) xs.length)) := Go.Lib.hid (by unfold confW; congr 5)
    clear hc hm
    have hw : IntKind.i64.wrap (4 + (xs.length : Int)) = ((4 + xs.length : Nat) : Int) := (IntWalk.i64_in _ (by omega)).trans (by omega)
    have HL := Go.Lib.hid (Nat.le_refl x1.on.heap.size)
    go_wp2_with fail
    refine (pack_New ((4 + xs.length : Nat) : Int) (by omega) x1.on.heap.size x1.on HL.out).mono ?_
    rintro e _ ⟨b, rfl, hx, hP, hb⟩
    obtain ⟨z0, rfl⟩ := hx.ew
    have P0 := Go.Lib.hid hP
    clear hP hx hb
    go_wp2_with fail
    refine (pack_Byte x1.on.heap.size b _ 67 (by unfold I64; omega) _ P0.out z0.ext.size).mono ?_
    rintro e _ ⟨rfl, hw1⟩
    obtain ⟨z1, rfl, hP, hs1⟩ := wrote_ew hw1 HL.out
    have P1 := Go.Lib.hid hP
    clear hP hw1 P0
    go_wp2_with fail
    refine (pack_Word x1.on.heap.size b _ ep hep _ P1.out z1.ext.size).mono ?_
    rintro e _ ⟨rfl, hw1⟩
    obtain ⟨z2, rfl, hP, hs2⟩ := wrote_ew hw1 HL.out
    have P2 := Go.Lib.hid hP
    clear hP hw1 P1
    go_wp2_with fail
    refine (pack_Byte x1.on.heap.size b _ (xs.length : Int) (by unfold I64; omega) _ P2.out z2.ext.size).mono ?_
    rintro e _ ⟨rfl, hw1⟩
    obtain ⟨z3, rfl, hP, hs3⟩ := wrote_ew hw1 HL.out
    obtain ⟨W0, hW0⟩ : ∃ W0, W0 = byteW (wordW (byteW (newW ((4 + xs.length : Nat) : Int)) 67) ep) xs.length := ⟨_, rfl⟩
    rw [← hW0] at hP HW
    have P3 : Hid (PW z3.on x1.on.heap.size b ((xs.take 0).foldl byteW W0)) := Go.Lib.hid hP
    clear hP hw1 P2 hW0 hs1 hs2 hs3 hw
    go_wp2_with fail
    go_loopg [29] xs.length (fun n iv wr => ∃ (i : Nat) (z : EW Non x1.on), i ≤ xs.length ∧ n = xs.length - i ∧ iv = .int .i64 i ∧ wr = z.on ∧ Hid (PW wr x1.on.heap.size b ((xs.take i).foldl byteW W0)))
    case atStart => exact ⟨0, ⟨_, by (repeat (first | with_reducible exact Ext.refl _ _ | assumption | with_reducible refine Ext.upN ?_ | with_reducible refine Ext.alloc ?_ _ | with_reducible refine Ext.upA (by assumption) ?_ | with_reducible refine Ext.upW ?_ | with_reducible refine Ext.drew ?_ | with_reducible refine Ext.drewN ?_ _ | with_reducible refine Ext.upF ?_ | with_reducible refine Ext.upFF (by first | omega | simp) ?_ | with_reducible refine Ext.setCellsF _ _ _ (by first | omega | simp) ?_ | with_reducible refine Ext.setCellF _ _ _ (by first | omega | simp) ?_ | with_reducible refine Ext.upFN (by first | omega | simp) ?_ | with_reducible refine Ext.up1F (by first | omega | simp) ?_ | with_reducible refine Ext.up1N (by first | omega | simp) ?_ | with_reducible refine Ext.setCell ?_ (.inr (by first | omega | simp)) _ | refine Ext.alloc ?_ _ | refine Ext.setCellF _ _ _ (by first | omega | simp) ?_ | refine Ext.setCell ?_ (.inr (by first | omega | simp)) _))⟩, Nat.zero_le _, rfl, rfl, rfl, P3⟩
    case round =>
      clear P3
      obtain ⟨i, z, hi, hn, rfl, rfl, HP⟩ := hrel
      have HN := Go.Lib.hid hn; clear hn
      by_cases hlt : i < xs.length
      · obtain ⟨ab, ao, rfl, hcell, hx64⟩ := (HI.out.extN (by (repeat (first | with_reducible exact Ext.refl _ _ | assumption | with_reducible refine Ext.upN ?_ | with_reducible refine Ext.alloc ?_ _ | with_reducible refine Ext.upA (by assumption) ?_ | with_reducible refine Ext.upW ?_ | with_reducible refine Ext.drew ?_ | with_reducible refine Ext.drewN ?_ _ | with_reducible refine Ext.upF ?_ | with_reducible refine Ext.upFF (by first | omega | simp) ?_ | with_reducible refine Ext.setCellsF _ _ _ (by first | omega | simp) ?_ | with_reducible refine Ext.setCellF _ _ _ (by first | omega | simp) ?_ | with_reducible refine Ext.upFN (by first | omega | simp) ?_ | with_reducible refine Ext.up1F (by first | omega | simp) ?_ | with_reducible refine Ext.up1N (by first | omega | simp) ?_ | with_reducible refine Ext.setCell ?_ (.inr (by first | omega | simp)) _ | refine Ext.alloc ?_ _ | refine Ext.setCellF _ _ _ (by first | omega | simp) ?_ | refine Ext.setCell ?_ (.inr (by first | omega | simp)) _)) : Ext Non w x1.on)).at_ i hlt
        have HT := Go.Lib.hid (fold_take byteW W0 xs i hlt)
        have HX := Go.Lib.hid hx64
        clear hx64
        generalize xs[i] = x at *
        go_wp2_with fail
        refine (pack_Byte x1.on.heap.size b _ x HX.out _ HP.out z.ext.size).mono ?_
        rintro e _ ⟨rfl, hw1⟩
        obtain ⟨z4, rfl, hP, hs1⟩ := wrote_ew hw1 HL.out
        rw [← HT.out] at hP
        have P4 := Go.Lib.hid hP
        clear hP hw1 hs1
        go_wp2_with fail
        go_roundg (xs.length - (i + 1))
        case measure => have := HN.out; omega
        case rel => exact ⟨i + 1, ⟨_, by (repeat (first | with_reducible exact Ext.refl _ _ | assumption | with_reducible refine Ext.upN ?_ | with_reducible refine Ext.alloc ?_ _ | with_reducible refine Ext.upA (by assumption) ?_ | with_reducible refine Ext.upW ?_ | with_reducible refine Ext.drew ?_ | with_reducible refine Ext.drewN ?_ _ | with_reducible refine Ext.upF ?_ | with_reducible refine Ext.upFF (by first | omega | simp) ?_ | with_reducible refine Ext.setCellsF _ _ _ (by first | omega | simp) ?_ | with_reducible refine Ext.setCellF _ _ _ (by first | omega | simp) ?_ | with_reducible refine Ext.upFN (by first | omega | simp) ?_ | with_reducible refine Ext.up1F (by first | omega | simp) ?_ | with_reducible refine Ext.up1N (by first | omega | simp) ?_ | with_reducible refine Ext.setCell ?_ (.inr (by first | omega | simp)) _ | refine Ext.alloc ?_ _ | refine Ext.setCellF _ _ _ (by first | omega | simp) ?_ | refine Ext.setCell ?_ (.inr (by first | omega | simp)) _))⟩, hlt, rfl, by go_num, rfl, P4⟩
      · obtain rfl : i = xs.length := by omega
        have hp := HP.out
        rw [List.take_length, ← HW.out] at hp
        have P5 := Go.Lib.hid hp
        clear hp
        go_wp2_with fail
        refine Calls.ew (pack_Done x1.on.heap.size b _ _ P5.out) ?_
        rintro e x2 rfl
        go_wp2
        go_returns
        exact ⟨by rw [E1.out.1, E1.out.2]; rfl, by (repeat (first | with_reducible exact Ext.refl _ _ | assumption | with_reducible refine Ext.upN ?_ | with_reducible refine Ext.alloc ?_ _ | with_reducible refine Ext.upA (by assumption) ?_ | with_reducible refine Ext.upW ?_ | with_reducible refine Ext.drew ?_ | with_reducible refine Ext.drewN ?_ _ | with_reducible refine Ext.upF ?_ | with_reducible refine Ext.upFF (by first | omega | simp) ?_ | with_reducible refine Ext.setCellsF _ _ _ (by first | omega | simp) ?_ | with_reducible refine Ext.setCellF _ _ _ (by first | omega | simp) ?_ | with_reducible refine Ext.upFN (by first | omega | simp) ?_ | with_reducible refine Ext.up1F (by first | omega | simp) ?_ | with_reducible refine Ext.up1N (by first | omega | simp) ?_ | with_reducible refine Ext.setCell ?_ (.inr (by first | omega | simp)) _ | refine Ext.alloc ?_ _ | refine Ext.setCellF _ _ _ (by first | omega | simp) ?_ | refine Ext.setCell ?_ (.inr (by first | omega | simp)) _))⟩
/-- A result's bytes. -/
def resW (cd : Int) (x : Nat) : Wr := bitsW (byteW (newW 64) cd) (canonN x)
def resS (cd : Int) (x : Nat) : ByteArray := if withinB cd 0 8 = true then doneS (resW cd x) else ⟨#[]⟩
def resE (cd : Int) (x : Nat) : Int := if withinB cd 0 8 = true then (resW cd x).err else 1
set_option maxHeartbeats 2000000 in
set_option maxRecDepth 100000 in
theorem deeds_ResultText (cd : Int) (hcd : I64 cd) (x : Nat) (hx : x < 18446744073709551616) (w : World) : Calls Try.prog 77 #[.agg #[.int .i64 cd, .float .f64 x]] w fun e w' =>
    e = .returned (.tuple #[.string (resS cd x), .int .i64 (resE cd x)]) ∧ Ext Non w w' := by
  go_enter Try.func77, Try.ntmps77
  go_wp2_with fail
  refine (deeds_within cd 0 8 _).mono ?_
  rintro e _ ⟨rfl, rfl⟩
  cases hc : withinB cd 0 8
  · have E1 : Hid (resS cd x = ⟨#[]⟩ ∧ resE cd x = 1) := Go.Lib.hid ⟨by unfold resS; rw [hc]; rfl, by unfold resE; rw [hc]; rfl⟩
    clear hc
    go_wp2
    go_returns
    exact ⟨by rw [E1.out.1, E1.out.2]; rfl, by (repeat (first | with_reducible exact Ext.refl _ _ | assumption | with_reducible refine Ext.upN ?_ | with_reducible refine Ext.alloc ?_ _ | with_reducible refine Ext.upA (by assumption) ?_ | with_reducible refine Ext.upW ?_ | with_reducible refine Ext.drew ?_ | with_reducible refine Ext.drewN ?_ _ | with_reducible refine Ext.upF ?_ | with_reducible refine Ext.upFF (by first | omega | simp) ?_ | with_reducible refine Ext.setCellsF _ _ _ (by first | omega | simp) ?_ | with_reducible refine Ext.setCellF _ _ _ (by first | omega | simp) ?_ | with_reducible refine Ext.upFN (by first | omega | simp) ?_ | with_reducible refine Ext.up1F (by first | omega | simp) ?_ | with_reducible refine Ext.up1N (by first | omega | simp) ?_ | with_reducible refine Ext.setCell ?_ (.inr (by first | omega | simp)) _ | refine Ext.alloc ?_ _ | refine Ext.setCellF _ _ _ (by first | omega | simp) ?_ | refine Ext.setCell ?_ (.inr (by first | omega | simp)) _))⟩
  · have E1 : Hid (resS cd x = doneS (resW cd x) ∧ resE cd x = (resW cd x).err) := Go.Lib.hid ⟨by unfold resS; rw [hc]; rfl, by unfold resE; rw [hc]; rfl⟩
    clear hc
    have hcan : canonN x < 18446744073709551616 := canon_lt hx
    have B := Go.Lib.hid (Bx.newAt w [.int .i64 cd, .float .f64 x] 43 _ rfl)
    have XA : Ext Non w (w.alloc (.cells [Value.int .i64 cd, .float .f64 x].toArray 43)) := (Ext.refl _ _).alloc _
    go_upto_region 3 with fail
    generalize w.alloc (.cells #[Value.int .i64 cd, .float .f64 x] 43) = wA at *
    have c0 : wA.cell? ⟨w.heap.size, 0, none⟩ = some (.int .i64 cd) := B.out.cell rfl
    have c1 : wA.cell? ⟨w.heap.size, 1, none⟩ = some (.float .f64 x) := B.out.cell rfl
    have HL := Go.Lib.hid (Nat.le_refl wA.heap.size)
    have XB := Go.Lib.hid XA
    clear XA
    go_wp2_with fail
    refine (pack_New 64 (by decide) wA.heap.size wA HL.out).mono ?_
    rintro e _ ⟨b, rfl, hx1, hP, hb⟩
    obtain ⟨z0, rfl⟩ := hx1.ew
    have P0 := Go.Lib.hid hP
    clear hP hx1 hb
    go_wp2_with fail
    refine (pack_Byte wA.heap.size b _ cd hcd _ P0.out z0.ext.size).mono ?_
    rintro e _ ⟨rfl, hw1⟩
    obtain ⟨z1, rfl, hP, hs1⟩ := wrote_ew hw1 HL.out
    have P1 := Go.Lib.hid hP
    clear hP hw1 P0 hs1
    go_wp2_with fail
    refine (reals_Bits x _).mono ?_
    rintro e _ ⟨rfl, rfl⟩
    go_wp2_with fail
    refine (pack_Bits wA.heap.size b _ (canonN x) hcan _ P1.out z1.ext.size).mono ?_
    rintro e _ ⟨rfl, hw1⟩
    obtain ⟨z2, rfl, hP, hs2⟩ := wrote_ew hw1 HL.out
    have P2 : Hid (PW z2.on wA.heap.size b (resW cd x)) := Go.Lib.hid hP
    clear hP hw1 P1 hs2
    go_wp2_with fail
    refine Calls.ew (pack_Done wA.heap.size b _ _ P2.out) ?_
    rintro e x2 rfl
    have XC := XB.out
    go_wp2
    go_returns
    exact ⟨by rw [E1.out.1, E1.out.2]; rfl, XC.trans (z2.ext.trans x2.ext)⟩
end Go.Proofs.Ytekbonciafbjiaa

/- maps.Keys and slices.Sorted: the kit's contracts laid at this program (the tables of numbers were printed by the kit's program; the contracts are the kit's). -/
namespace Go.Proofs.Ytekbonciafbjiaa
open Go.RowKit Go.Maps Go.Sort Go.Shelf
def keysLay_ren : Go.Shelf.Ren := ⟨fun | 7 => 74 | 10 => 93 | n => n, fun | 23 => 108 | 26 => 9 | 3 => 33 | 28 => 134 | 0 => 0 | 27 => 133 | 33 => 153 | 4 => 4 | n => n, fun | n => n⟩
theorem keysLay : Go.Proofs.SlLaysZ.n7 Try.prog keysLay_ren := {
  mixed := by kernel_rfl
  f7 := ⟨Try.f74.name, by decide, Try.func74.trans (congrArg some (by kernel_rfl))⟩
  f10 := ⟨Try.f93.name, by decide, Try.func93.trans (congrArg some (by kernel_rfl))⟩
  t0 := Try.underlying0
  a0 := Try.isAgg0
  z0 := Try.sizeOf0
  v0 := Try.zeroValue0
  t4 := Try.underlying4
  a4 := Try.isAgg4
  z4 := Try.sizeOf4
  v4 := Try.zeroValue4
  t23 := Try.underlying108
  a23 := Try.isAgg108
  z23 := Try.sizeOf108
  v23 := Try.zeroValue108
  t26 := Try.underlying9
  a26 := Try.isAgg9
  z26 := Try.sizeOf9
  v26 := Try.zeroValue9
  t27 := Try.underlying133
  a27 := Try.isAgg133
  z27 := Try.sizeOf133
  v27 := Try.zeroValue133
  t28 := Try.underlying134
  a28 := Try.isAgg134
  z28 := Try.sizeOf134
  v28 := Try.zeroValue134
  t33 := Try.underlying153
  a33 := Try.isAgg153
  z33 := Try.sizeOf153
  v33 := Try.zeroValue153 }
def sortedLay_ren : Go.Shelf.Ren := ⟨fun | 6 => 73 | 8 => 91 | 9 => 92 | 11 => 100 | 13 => 102 | 12 => 101 | 23 => 115 | 24 => 116 | 14 => 106 | 15 => 107 | 16 => 108 | 17 => 109 | 18 => 110 | 19 => 111 | 20 => 112 | 21 => 113 | 22 => 114 | 25 => 120 | 26 => 121 | 27 => 122 | 28 => 123 | 29 => 124 | 30 => 125 | 31 => 127 | n => n, fun | 26 => 9 | 28 => 134 | 24 => 131 | 0 => 0 | 3 => 3 | 37 => 59 | 48 => 176 | 50 => 38 | 4 => 4 | 40 => 169 | 39 => 168 | 45 => 164 | 5 => 5 | 9 => 9 | 51 => 181 | 55 => 185 | 57 => 187 | 58 => 188 | 33 => 153 | n => n, fun | n => n⟩
theorem sortedLay : Go.Proofs.SlLaysZ.n6 Try.prog sortedLay_ren := {
  mixed := by kernel_rfl
  f6 := ⟨Try.f73.name, by decide, Try.func73.trans (congrArg some (by kernel_rfl))⟩
  f8 := ⟨Try.f91.name, by decide, Try.func91.trans (congrArg some (by kernel_rfl))⟩
  f11 := ⟨Try.f100.name, by decide, Try.func100.trans (congrArg some (by kernel_rfl))⟩
  t0 := Try.underlying0
  a0 := Try.isAgg0
  z0 := Try.sizeOf0
  v0 := Try.zeroValue0
  t24 := Try.underlying131
  a24 := Try.isAgg131
  z24 := Try.sizeOf131
  v24 := Try.zeroValue131
  t26 := Try.underlying9
  a26 := Try.isAgg9
  z26 := Try.sizeOf9
  v26 := Try.zeroValue9
  t28 := Try.underlying134
  a28 := Try.isAgg134
  z28 := Try.sizeOf134
  v28 := Try.zeroValue134
  i26 := by kernel_rfl }
def sortLay_ren : Go.Shelf.Ren := ⟨fun | 6 => 92 | 8 => 102 | 9 => 101 | 19 => 115 | 20 => 116 | 21 => 106 | 22 => 107 | 23 => 108 | 24 => 109 | 25 => 110 | 26 => 111 | 27 => 112 | 28 => 113 | 29 => 114 | 36 => 120 | 31 => 121 | 32 => 122 | 37 => 123 | 38 => 124 | 39 => 125 | 41 => 127 | n => n, fun | 27 => 131 | 29 => 9 | 3 => 3 | 32 => 59 | 26 => 131 | 0 => 0 | 44 => 176 | 46 => 38 | 4 => 4 | 36 => 169 | 35 => 168 | 41 => 164 | 5 => 5 | 9 => 9 | 53 => 181 | 57 => 185 | 63 => 187 | 64 => 188 | n => n, fun | n => n⟩
theorem sortLay : Go.Proofs.SlLaysM.n6 Try.prog sortLay_ren := {
  mixed := by kernel_rfl
  f6 := ⟨Try.f92.name, by decide, Try.func92.trans (congrArg some (by kernel_rfl))⟩
  f8 := Try.func102.trans (congrArg some (by kernel_rfl))
  f9 := ⟨Try.f101.name, by decide, Try.func101.trans (congrArg some (by kernel_rfl))⟩
  f19 := Try.func115.trans (congrArg some (by kernel_rfl))
  f20 := Try.func116.trans (congrArg some (by kernel_rfl))
  f21 := ⟨Try.f106.name, by decide, Try.func106.trans (congrArg some (by kernel_rfl))⟩
  f22 := ⟨Try.f107.name, by decide, Try.func107.trans (congrArg some (by kernel_rfl))⟩
  f23 := ⟨Try.f108.name, by decide, Try.func108.trans (congrArg some (by kernel_rfl))⟩
  f24 := ⟨Try.f109.name, by decide, Try.func109.trans (congrArg some (by kernel_rfl))⟩
  f25 := ⟨Try.f110.name, by decide, Try.func110.trans (congrArg some (by kernel_rfl))⟩
  f26 := ⟨Try.f111.name, by decide, Try.func111.trans (congrArg some (by kernel_rfl))⟩
  f27 := ⟨Try.f112.name, by decide, Try.func112.trans (congrArg some (by kernel_rfl))⟩
  f28 := ⟨Try.f113.name, by decide, Try.func113.trans (congrArg some (by kernel_rfl))⟩
  f29 := ⟨Try.f114.name, by decide, Try.func114.trans (congrArg some (by kernel_rfl))⟩
  f31 := Try.func121.trans (congrArg some (by kernel_rfl))
  f32 := Try.func122.trans (congrArg some (by kernel_rfl))
  f36 := ⟨Try.f120.name, by decide, Try.func120.trans (congrArg some (by kernel_rfl))⟩
  f37 := ⟨Try.f123.name, by decide, Try.func123.trans (congrArg some (by kernel_rfl))⟩
  f38 := ⟨Try.f124.name, by decide, Try.func124.trans (congrArg some (by kernel_rfl))⟩
  f39 := ⟨Try.f125.name, by decide, Try.func125.trans (congrArg some (by kernel_rfl))⟩
  f41 := ⟨Try.f127.name, by decide, Try.func127.trans (congrArg some (by kernel_rfl))⟩
  t0 := Try.underlying0
  a0 := Try.isAgg0
  z0 := Try.sizeOf0
  v0 := Try.zeroValue0
  t3 := Try.underlying3
  a3 := Try.isAgg3
  z3 := Try.sizeOf3
  v3 := Try.zeroValue3
  t4 := Try.underlying4
  a4 := Try.isAgg4
  z4 := Try.sizeOf4
  v4 := Try.zeroValue4
  t5 := Try.underlying5
  a5 := Try.isAgg5
  z5 := Try.sizeOf5
  v5 := Try.zeroValue5
  t9 := Try.underlying9
  a9 := Try.isAgg9
  z9 := Try.sizeOf9
  v9 := Try.zeroValue9
  t26 := Try.underlying131
  a26 := Try.isAgg131
  z26 := Try.sizeOf131
  v26 := Try.zeroValue131
  t27 := Try.underlying131
  a27 := Try.isAgg131
  z27 := Try.sizeOf131
  v27 := Try.zeroValue131
  t29 := Try.underlying9
  a29 := Try.isAgg9
  z29 := Try.sizeOf9
  v29 := Try.zeroValue9
  t32 := Try.underlying59
  a32 := Try.isAgg59
  z32 := Try.sizeOf59
  v32 := Try.zeroValue59
  t35 := Try.underlying168
  a35 := Try.isAgg168
  z35 := Try.sizeOf168
  v35 := Try.zeroValue168
  t36 := Try.underlying169
  a36 := Try.isAgg169
  z36 := Try.sizeOf169
  v36 := Try.zeroValue169
  t41 := Try.underlying164
  a41 := Try.isAgg164
  z41 := Try.sizeOf164
  v41 := Try.zeroValue164
  t44 := Try.underlying176
  a44 := Try.isAgg176
  z44 := Try.sizeOf176
  v44 := Try.zeroValue176
  t46 := Try.underlying38
  a46 := Try.isAgg38
  z46 := Try.sizeOf38
  v46 := Try.zeroValue38
  t53 := Try.underlying181
  a53 := Try.isAgg181
  z53 := Try.sizeOf181
  v53 := Try.zeroValue181
  t57 := Try.underlying185
  a57 := Try.isAgg185
  z57 := Try.sizeOf185
  v57 := Try.zeroValue185
  t63 := Try.underlying187
  a63 := Try.isAgg187
  z63 := Try.sizeOf187
  v63 := Try.zeroValue187
  t64 := Try.underlying188
  a64 := Try.isAgg188
  z64 := Try.sizeOf188
  v64 := Try.zeroValue188 }
theorem sorts_in (m : Nat) : AnyZ.SortsIn Try.prog sortedLay_ren Fence.wide m :=
  ⟨fun blk off cap ss W hH hblk hsz => callsIn_wide.2 (AnyM.slices_Sort_string sortLay blk off cap ss W hH hblk hsz),
   fun p cap W => callsIn_wide.2 (AnyM.slices_Sort_string_none sortLay p cap W)⟩
theorem maps_Keys (mb : Option Nat) (W : World) : Calls Try.prog 74 #[.map mb] W fun e w' => e = .returned (.func (.func 93) #[] #[.pointer (some ⟨W.heap.size, 0, none⟩)]) ∧ w' = W.alloc (.cells #[.map mb] 108) :=
  (callsIn_wide (n := 5)).1 (AnyZ.keys_in keysLay Fence.wide 5 trivial rfl mb W)
set_option maxHeartbeats 1000000 in
theorem slices_Sorted_keys {H : Type} (b nn : Nat) (D0 : DataW H) (R : Value → Option (DataW H × List MemPlace)) (w : World) (hown : w.ownsMap Try.prog 9 R b nn D0) (hmax : Maps.size D0 ≤ maxLen) (hbytes : Maps.size D0 * 16 ≤ 140737488355328) :
    Calls Try.prog 73 #[.func (.func 93) #[] #[.pointer (some ⟨w.heap.size, 0, none⟩)]] (w.alloc (.cells #[.map (some b)] 108)) fun e w' => ∃ (v : Value) (ss : List (List UInt8)), e = .returned v ∧ ss.Perm (strKeys D0) ∧
      w'.ownsRow (w.alloc (.cells #[.map (some b)] 108)).heap.size 9 1 v ss.length ((ss.mergeSort (fun x y => decide (x ≤ y))).map encStr) ∧ Below (w.alloc (.cells #[.map (some b)] 108)).heap.size (w.alloc (.cells #[.map (some b)] 108)) w' := by
  have hbl := hown.lt
  have hseq : SeqGives Fence.wide 2 Try.prog 93 #[.pointer (some ⟨w.heap.size, 0, none⟩)] encStr (fun ss => ss.Perm (strKeys D0)) (Maps.size D0) (w.alloc (.cells #[.map (some b)] 108)) :=
    AnyZ.keys_gives (ρ := keysLay_ren) { keysLay with } Fence.wide _ trivial rfl (by omega) w.heap.size b nn D0 _ (by simp) (by simp) (by
      obtain ⟨es, clock, hb, Ft, hs, hD⟩ := hown
      exact ⟨es, clock, (Below.heap_alloc _ _ b hbl).trans hb, Ft, hs, hD⟩)
  refine ((callsIn_wide (n := 5)).1 (AnyZ.sorted_in sortedLay Fence.wide 5 trivial trivial trivial trivial rfl (by omega) (sorts_in _) (enters_of Try.func92 (by kernel_rfl) rfl) 93 #[.pointer (some ⟨w.heap.size, 0, none⟩)] trivial (enters_of Try.func93 (by kernel_rfl) rfl) _ _ hmax hbytes _ hseq)).mono ?_
  rintro e w' ⟨v, ss, he, hp, ho, -, hb⟩
  exact ⟨v, ss, he, hp, ho, hb⟩
end Go.Proofs.Ytekbonciafbjiaa

/- Layer 12 (ledger): its text. -/
namespace Go.Proofs.Ytekbonciafbjiaa
open Go.RowKit Go.Lib F64 Go.Maps
set_option linter.unusedSimpArgs false
set_option linter.unusedVariables false
attribute [local go_sem] run_store_float
attribute [local go_sem low] EW.cellN EW.frozN alloc_cell_or alloc_froz_or EW.cellF EW.frozF EW.cell1 EW.froz1
theorem ext_of_below {w w' : World} (h : Below w.heap.size w w') : Ext Non w w' := ⟨h.os, h.tape, h.output, h.size, fun k hk _ => h.block k hk⟩
/-- A ledger's keys, rising. -/
def keysB (ks : Ks) : List (List UInt8) := (ks.map (fun p => p.1.data.toList)).mergeSort (fun x y => decide (x ≤ y))
def keyRd (H : Type) : Value → Option (DataW H × List MemPlace) := fun _ => some (.nil, [])
theorem owns_keys {P : Program} {kt : TypeId} (hk : P.underlying kt = some .string) {w : World} {m : Nat} {ks : Ks} (h : MapW w m ks) (hl : ks.length ≤ 16) (hb : ∀ p ∈ ks, p.1.size ≤ 16) :
    ∃ D0 : DataW Unit, w.ownsMap P kt (keyRd Unit) m 16 D0 ∧ Maps.size D0 ≤ 16 ∧ ∀ ss : List (List UInt8), ss.Perm (strKeys D0) → ss.mergeSort (fun x y => decide (x ≤ y)) = keysB ks ∧ ss.length = ks.length := by
  obtain ⟨es, clock, hm, st, e⟩ := h.ex
  have hlen : es.size = ks.length := by
    have := congrArg List.length e
    simpa using this
  have hkey : ∀ x ∈ es.toList, ∃ p ∈ ks, x.key = .string p.1 ∧ keyOf P kt x.key = some (.string p.1.data.toList) := fun x hx => by
    have : (x.key, x.val) ∈ ks.map kvE := by rw [← e]; exact List.mem_map.2 ⟨x, hx, rfl⟩
    obtain ⟨p, hp, he⟩ := List.mem_map.1 this
    unfold kvE at he
    injection he with e1 e2
    refine ⟨p, hp, e1.symm, ?_⟩
    have hs := hb p hp
    rw [← e1]
    unfold keyOf mapKey
    simp only [hk]
    rw [if_pos (by unfold maxLen; omega)]
  have hrd : ∀ x ∈ es.toList, ∃ p ∈ ks, x.key = .string p.1 ∧ WideElems.rd P kt (keyRd Unit) x = some (.string p.1.data.toList, .nil) := fun x hx => by
    obtain ⟨p, hp, h1, h2⟩ := hkey x hx
    refine ⟨p, hp, h1, ?_⟩
    unfold WideElems.rd keyRd
    rw [h2]; rfl
  refine ⟨_, ⟨es, clock, hm, ⟨by rw [hlen]; unfold maxLen; omega, st, fun x hx => by obtain ⟨p, -, -, h⟩ := hrd x hx; exact ⟨_, h⟩⟩, by omega, rfl⟩, ?_, fun ss hp => ?_⟩
  · have := (WideShapes.sorted_perm (es.toList.map (WideElems.rg P kt (keyRd Unit)))).length_eq
    show (List.foldr DataW.insert [] _).length ≤ 16
    rw [this, List.length_map, Array.length_toList, hlen]; exact hl
  · have h1 : (strKeys (DataW.map ((es.toList.map (WideElems.rg P kt (keyRd Unit))).foldr DataW.insert []))).Perm (ks.map (fun p => p.1.data.toList)) := by
      show ((List.foldr DataW.insert [] _).map (fun p => strOf p.1)).Perm _
      refine ((WideShapes.sorted_perm _).map _).trans ?_
      rw [List.map_map]
      have e1 : es.toList.map ((fun p : Lit × DataW Unit => strOf p.1) ∘ WideElems.rg P kt (keyRd Unit)) = es.toList.map (fun x => match x.key with | .string s => s.data.toList | _ => []) := List.map_congr_left (fun x hx => by
        obtain ⟨p, -, h1, h2⟩ := hrd x hx
        show strOf (WideElems.rg P kt (keyRd Unit) x).1 = _
        unfold WideElems.rg
        rw [h2, h1]; rfl)
      have e2 : es.toList.map (fun x => match x.key with | .string s => s.data.toList | _ => []) = ks.map (fun p => p.1.data.toList) := by
        have := congrArg (List.map (fun q : Value × Value => match q.1 with | .string s => s.data.toList | _ => ([] : List UInt8))) e
        rw [List.map_map, List.map_map] at this
        exact this
      rw [e1, e2]
    have h2 := hp.trans h1
    refine ⟨mergeSort_of_perm h2, ?_⟩
    rw [h2.length_eq, List.length_map]
theorem doneS_le {W : Wr} (h : WOk W) : (doneS W).size ≤ 1048576 := by
  unfold doneS
  split
  · show W.bs.toArray.size ≤ _
    have h1 := h.lim; have h2 := h.room
    rw [List.size_toArray]; omega
  · show (0 : Nat) ≤ _; omega
theorem WOk.fold {α : Type} (f : Wr → α → Wr) (hf : ∀ W x, WOk W → WOk (f W x)) : ∀ (l : List α) (W : Wr), WOk W → WOk (l.foldl f W)
  | [], _, h => h
  | x :: t, W, h => WOk.fold f hf t _ (hf W x h)
theorem confS_le (ep : Int) (xs : List Int) : (confS ep xs).size ≤ 1048576 := by
  unfold confS
  split
  · rename_i hc
    have hm : membersB xs = true := by unfold confB at hc; simp only [Bool.and_eq_true] at hc; exact hc.2
    have h4 := (members_facts hm).2.2.2
    refine doneS_le ?_
    unfold confW
    refine WOk.fold _ (fun W x h => h.put _ _) _ _ ?_
    unfold byteW wordW
    exact (((WOk.new (by omega)).put _ _).put _ _).put _ _
  · show (0 : Nat) ≤ _; omega
theorem resS_le (cd : Int) (x : Nat) : (resS cd x).size ≤ 1048576 := by
  unfold resS
  split
  · refine doneS_le ?_
    unfold resW bitsW byteW
    exact ((WOk.new (by decide)).put _ _).put _ _
  · show (0 : Nat) ≤ _; omega
theorem keysB_mem {ks : Ks} {k : List UInt8} (h : k ∈ keysB ks) : ∃ p ∈ ks, k = p.1.data.toList := by
  unfold keysB at h
  have h2 := (List.mergeSort_perm _ _).mem_iff.1 h
  obtain ⟨p, hp, e⟩ := List.mem_map.1 h2
  exact ⟨p, hp, e.symm⟩
theorem valK_lt {ks : Ks} (h : ∀ p ∈ ks, p.2 < 18446744073709551616) (k : ByteArray) : valK ks k < 18446744073709551616 := by
  unfold valK getK
  cases hf : ks.find? (fun p => decide (p.1 = k)) with
  | none => simp
  | some p => exact h p (List.mem_of_find?_eq_some hf)
theorem MapW.extN {w w' : World} {m : Nat} {ks : Ks} (h : MapW w m ks) (x : Ext Non w w') : MapW w' m ks := h.ext x (fun f => f)
/-! The text. -/
def keyW (ks : Ks) (W : Wr) (k : List UInt8) : Wr := bitsW (textW W k) (canonN (valK ks ⟨k.toArray⟩))
def cliW (cl : Nat → Cl) (W : Wr) (i : Nat) : Wr := textW (longW W (cl i).stamp) (resS (cl i).code (cl i).real).data.toList
def lheadW (g : Lg) : Wr := byteW (textW (byteW (newW 65536) 76) (confS g.epoch g.mem).data.toList) g.next.length
def midW (g : Lg) : Wr := byteW (longW (g.next.foldl byteW (lheadW g)) g.done) g.keys.length
def ledgW (g : Lg) : Wr := (List.range 8).foldl (cliW g.cl) ((keysB g.keys).foldl (keyW g.keys) (midW g))
def ledgS (g : Lg) : ByteArray := doneS (ledgW g)
/-- A row of another type stands while a writer writes. -/
theorem row_wrote {w w' : World} {n0 b : Nat} {W W' : Wr} {base : Nat} {e : TypeId} {k : Nat} {v : Value} {n : Nat} {xs : List Value} (h : w.ownsRow base e k v n xs) (hp : PW w n0 b W) (he1 : e ≠ 5) (he2 : e ≠ 149) (x : Wrote w w' n0 b W') : w'.ownsRow base e k v n xs := by
  refine ⟨h.1, ?_⟩
  rcases h.2 with hn | ⟨g, cap, cur, rfl, hb, hg, r⟩
  · exact .inl hn
  · refine .inr ⟨g, cap, cur, rfl, hb, (x.x.block g (Array.getElem?_eq_some_iff.1 hg).1 (WB.other hg (fun q => ?_) he1)).trans hg, r⟩
    subst q
    obtain ⟨_, r2, _⟩ := hp.ex
    rw [hg] at r2; injection r2 with r2; injection r2 with _ r2 _; exact he2 r2
theorem bx_wrote {w w' : World} {n0 b : Nat} {W W' : Wr} {k : Nat} {vs : List Value} {t : TypeId} (h : Bx w k vs t) (hp : PW w n0 b W) (he1 : t ≠ 5) (he2 : t ≠ 149) (x : Wrote w w' n0 b W') : Bx w' k vs t :=
  h.ext x.x (WB.other h.h (fun q => by
    subst q
    obtain ⟨_, r2, _⟩ := hp.ex
    have h2 := h.h
    rw [h2] at r2; injection r2 with r2; injection r2 with _ r2 _; exact he2 r2) he1)
theorem row_strs {w : World} {base : Nat} {e : TypeId} {v : Value} (l : List (List UInt8)) (h : w.ownsRow base e 1 v l.length (l.map encStr)) : ∃ a cap, v = .slice a l.length cap ∧ l.length ≤ cap ∧ cap ≤ 9223372036854775807 ∧ ∀ j (hj : j < l.length), ∃ g, a = some ⟨g, 0, none⟩ ∧ w.cell? ⟨g, j, none⟩ = some (.string ⟨l[j].toArray⟩) := by
  rcases h.2 with ⟨rfl, hn⟩ | ⟨g, cap, cur, rfl, hb, hg, hc, hm, hs, ht⟩
  · exact ⟨none, 0, by rw [hn], by omega, by omega, fun j hj => by omega⟩
  · refine ⟨_, cap, rfl, hc, by unfold maxLen at hm; omega, fun j hj => ⟨g, rfl, ?_⟩⟩
    have q : (l.map encStr)[j]? = some (encStr l[j]) := by rw [List.getElem?_map, List.getElem?_eq_getElem hj]; rfl
    rw [← ht, List.getElem?_take, if_pos (by omega), Array.getElem?_toList] at q
    have hgc : w.cell? ⟨g, j, none⟩ = cur[j]? := by simp [World.cell?, hg]
    rw [hgc]; exact q
theorem run_index8 (cl : Nat → Cl) : ∀ (k : Nat) (hk : k < 8) (w : World), (Instr.index 111 (.agg (clRow cl).toArray) (.int .i64 (k : Int))).run Try.prog w = .ok (.agg #[.int .i64 (cl k).stamp, .int .i64 (cl k).code, .float .f64 (cl k).real]) w
  | 0, _, w => by kernel_rfl
  | 1, _, w => by kernel_rfl
  | 2, _, w => by kernel_rfl
  | 3, _, w => by kernel_rfl
  | 4, _, w => by kernel_rfl
  | 5, _, w => by kernel_rfl
  | 6, _, w => by kernel_rfl
  | 7, _, w => by kernel_rfl
theorem info_last : (Try.prog.info? 110).map (·.size) = some 3 := by kernel_rfl
theorem info_lasts : (Try.prog.info? 111).map (·.size) = some 24 := by kernel_rfl
set_option maxHeartbeats 4000000 in
set_option maxRecDepth 100000 in
theorem ledger_Text (b m : Nat) (g : Lg) (I : Inv g) (w : World) (h : LD w b m g) : Calls Try.prog 45 #[.pointer (some ⟨b, 0, none⟩)] w fun e w' =>
    e = .returned (.string (ledgS g)) ∧ Ext Non w w' := by
  have HH := Go.Lib.hid h
  obtain ⟨a1, c1, a2, c2, r, i1, i2, -, -⟩ := h.ex
  have HM := Go.Lib.hid h.mp
  have HI := Go.Lib.hid I
  have I2 := Go.Lib.hid i2
  have q2 : w.cell? ⟨b, 2, none⟩ = some (.slice a2 g.next.length c2) := cell_of_heap r rfl
  have q3 : w.cell? ⟨b, 3, none⟩ = some (.int .i64 g.done) := cell_of_heap r rfl
  have q4 : w.cell? ⟨b, 4, none⟩ = some (.map (some m)) := cell_of_heap r rfl
  obtain ⟨R, hR⟩ : ∃ R, R = clRow g.cl := ⟨_, rfl⟩
  have hrg : w.rangeAt b 5 R := fun j v hv => cell_of_heap r (by
    rw [hR] at hv
    show (rowLg g a1 c1 a2 c2 m)[5 + j]? = some v
    rw [show 5 + j = j + 5 by omega]
    exact hv)
  have hix0 : ∀ (k : Nat) (hk : k < 8) (w : World), (Instr.index 111 (.agg R.toArray) (.int .i64 (k : Int))).run Try.prog w = .ok (.agg #[.int .i64 (g.cl k).stamp, .int .i64 (g.cl k).code, .float .f64 (g.cl k).real]) w := by rw [hR]; exact run_index8 g.cl
  have hsz : (Try.prog.info? 111).map (·.size) = some R.length := by rw [hR]; exact info_lasts
  have HIX := Go.Lib.hid hix0; have HRG := Go.Lib.hid (And.intro hrg hsz)
  obtain ⟨mn1, -, mn2, mn3⟩ := members_facts I.mn
  have hep := I.ep; have hdn := I.dn; have hkl := I.kl
  clear h r i1 i2 hR hrg hix0 hsz mn1 I
  go_enter Try.func45, Try.ntmps45
  go_wp2_with fail
  have HL := Go.Lib.hid (Nat.le_refl w.heap.size)
  refine (pack_New 65536 (by decide) w.heap.size w HL.out).mono ?_
  rintro e _ ⟨wb, rfl, hx, hP, hb⟩
  obtain ⟨z0, rfl⟩ := hx.ew
  have P0 := Go.Lib.hid hP
  clear hP hx hb
  go_wp2_with fail
  refine (pack_Byte w.heap.size wb _ 76 (by unfold I64; omega) _ P0.out z0.ext.size).mono ?_
  rintro e _ ⟨rfl, hw1⟩
  obtain ⟨z1, rfl, hP, hs1⟩ := wrote_ew hw1 HL.out
  have P1 := Go.Lib.hid hP
  clear hP hw1 P0 hs1
  go_wp2_with fail
  refine (ledger_Conf b m g HI.out _ (HH.out.extN (by (repeat (first | with_reducible exact Ext.refl _ _ | assumption | with_reducible refine Ext.upN ?_ | with_reducible refine Ext.alloc ?_ _ | with_reducible refine Ext.upA (by assumption) ?_ | with_reducible refine Ext.upW ?_ | with_reducible refine Ext.drew ?_ | with_reducible refine Ext.drewN ?_ _ | with_reducible refine Ext.upF ?_ | with_reducible refine Ext.upFF (by first | omega | simp) ?_ | with_reducible refine Ext.setCellsF _ _ _ (by first | omega | simp) ?_ | with_reducible refine Ext.setCellF _ _ _ (by first | omega | simp) ?_ | with_reducible refine Ext.upFN (by first | omega | simp) ?_ | with_reducible refine Ext.up1F (by first | omega | simp) ?_ | with_reducible refine Ext.up1N (by first | omega | simp) ?_ | with_reducible refine Ext.setCell ?_ (.inr (by first | omega | simp)) _ | refine Ext.alloc ?_ _ | refine Ext.setCellF _ _ _ (by first | omega | simp) ?_ | refine Ext.setCell ?_ (.inr (by first | omega | simp)) _))))).mono ?_
  rintro e _ ⟨ca, cc, rfl, hx, hIc, -⟩
  obtain ⟨z2, rfl⟩ := hx.ew
  have IC := Go.Lib.hid hIc
  have P2 := Go.Lib.hid (P1.out.extN z2.ext)
  clear hIc hx P1
  go_wp2_with fail
  refine Calls.ew (council_Text g.epoch (by unfold I64; omega) ca cc g.mem _ IC.out) ?_
  rintro e z3 rfl
  have P3 := Go.Lib.hid (P2.out.extN z3.ext)
  clear P2 IC
  have HCS : Hid ((confS g.epoch g.mem).size ≤ 9223372036854775807) := Go.Lib.hid (Nat.le_trans (confS_le _ _) (by omega))
  obtain ⟨cs, hcs⟩ : ∃ cs, cs = confS g.epoch g.mem := ⟨_, rfl⟩
  have HCE := Go.Lib.hid hcs
  rw [← hcs] at HCS ⊢
  clear hcs
  have X3 : Ext Non w z3.on := by (repeat (first | with_reducible exact Ext.refl _ _ | assumption | with_reducible refine Ext.upN ?_ | with_reducible refine Ext.alloc ?_ _ | with_reducible refine Ext.upA (by assumption) ?_ | with_reducible refine Ext.upW ?_ | with_reducible refine Ext.drew ?_ | with_reducible refine Ext.drewN ?_ _ | with_reducible refine Ext.upF ?_ | with_reducible refine Ext.upFF (by first | omega | simp) ?_ | with_reducible refine Ext.setCellsF _ _ _ (by first | omega | simp) ?_ | with_reducible refine Ext.setCellF _ _ _ (by first | omega | simp) ?_ | with_reducible refine Ext.upFN (by first | omega | simp) ?_ | with_reducible refine Ext.up1F (by first | omega | simp) ?_ | with_reducible refine Ext.up1N (by first | omega | simp) ?_ | with_reducible refine Ext.setCell ?_ (.inr (by first | omega | simp)) _ | refine Ext.alloc ?_ _ | refine Ext.setCellF _ _ _ (by first | omega | simp) ?_ | refine Ext.setCell ?_ (.inr (by first | omega | simp)) _))
  obtain ⟨z4, hz4⟩ := X3.ew
  rw [hz4] at P3 ⊢
  clear hz4 X3 z3 z2 z1 z0
  go_wp2_with fail
  refine (pack_Text w.heap.size wb _ cs HCS.out _ P3.out z4.ext.size).mono ?_
  rintro e _ ⟨rfl, hw1⟩
  obtain ⟨z5, rfl, hP, hs1⟩ := wrote_ew hw1 HL.out
  have P5 := Go.Lib.hid hP
  clear hP hw1 P3 hs1
  go_wp2_with fail
  refine (pack_Byte w.heap.size wb _ (g.next.length : Int) (by unfold I64; omega) _ P5.out z5.ext.size).mono ?_
  rintro e _ ⟨rfl, hw1⟩
  obtain ⟨z6, rfl, hP, hs1⟩ := wrote_ew hw1 HL.out
  have P6 : Hid (PW z6.on w.heap.size wb ((g.next.take 0).foldl byteW (lheadW g))) := Go.Lib.hid (by rw [HCE.out] at hP; exact hP)
  clear hP hw1 P5 hs1
  go_wp2_with fail
  go_loopg [42] g.next.length (fun n iv wr => ∃ (i : Nat) (z : EW Non w), i ≤ g.next.length ∧ n = g.next.length - i ∧ iv = .int .i64 i ∧ wr = z.on ∧ Hid (PW wr w.heap.size wb ((g.next.take i).foldl byteW (lheadW g))))
  case atStart => exact ⟨0, ⟨_, by (repeat (first | with_reducible exact Ext.refl _ _ | assumption | with_reducible refine Ext.upN ?_ | with_reducible refine Ext.alloc ?_ _ | with_reducible refine Ext.upA (by assumption) ?_ | with_reducible refine Ext.upW ?_ | with_reducible refine Ext.drew ?_ | with_reducible refine Ext.drewN ?_ _ | with_reducible refine Ext.upF ?_ | with_reducible refine Ext.upFF (by first | omega | simp) ?_ | with_reducible refine Ext.setCellsF _ _ _ (by first | omega | simp) ?_ | with_reducible refine Ext.setCellF _ _ _ (by first | omega | simp) ?_ | with_reducible refine Ext.upFN (by first | omega | simp) ?_ | with_reducible refine Ext.up1F (by first | omega | simp) ?_ | with_reducible refine Ext.up1N (by first | omega | simp) ?_ | with_reducible refine Ext.setCell ?_ (.inr (by first | omega | simp)) _ | refine Ext.alloc ?_ _ | refine Ext.setCellF _ _ _ (by first | omega | simp) ?_ | refine Ext.setCell ?_ (.inr (by first | omega | simp)) _))⟩, Nat.zero_le _, rfl, rfl, rfl, P6⟩
  case round =>
    clear P6
    obtain ⟨i, z, hi, hn, rfl, rfl, HP⟩ := hrel
    have HN := Go.Lib.hid hn; clear hn
    by_cases hlt : i < g.next.length
    · obtain ⟨ab, ao, rfl, hcell, hx64⟩ := I2.out.at_ i hlt
      have HT := Go.Lib.hid (fold_take byteW (lheadW g) g.next i hlt)
      have HX := Go.Lib.hid hx64
      clear hx64
      generalize g.next[i] = x at *
      go_wp2_with fail
      refine (pack_Byte w.heap.size wb _ x HX.out _ HP.out z.ext.size).mono ?_
      rintro e _ ⟨rfl, hw1⟩
      obtain ⟨z7, rfl, hP, hs1⟩ := wrote_ew hw1 HL.out
      rw [← HT.out] at hP
      have P7 := Go.Lib.hid hP
      clear hP hw1 hs1
      go_wp2_with fail
      go_roundg (g.next.length - (i + 1))
      case measure => have := HN.out; omega
      case rel => exact ⟨i + 1, ⟨_, by (repeat (first | with_reducible exact Ext.refl _ _ | assumption | with_reducible refine Ext.upN ?_ | with_reducible refine Ext.alloc ?_ _ | with_reducible refine Ext.upA (by assumption) ?_ | with_reducible refine Ext.upW ?_ | with_reducible refine Ext.drew ?_ | with_reducible refine Ext.drewN ?_ _ | with_reducible refine Ext.upF ?_ | with_reducible refine Ext.upFF (by first | omega | simp) ?_ | with_reducible refine Ext.setCellsF _ _ _ (by first | omega | simp) ?_ | with_reducible refine Ext.setCellF _ _ _ (by first | omega | simp) ?_ | with_reducible refine Ext.upFN (by first | omega | simp) ?_ | with_reducible refine Ext.up1F (by first | omega | simp) ?_ | with_reducible refine Ext.up1N (by first | omega | simp) ?_ | with_reducible refine Ext.setCell ?_ (.inr (by first | omega | simp)) _ | refine Ext.alloc ?_ _ | refine Ext.setCellF _ _ _ (by first | omega | simp) ?_ | refine Ext.setCell ?_ (.inr (by first | omega | simp)) _))⟩, hlt, rfl, by go_num, rfl, P7⟩
    · obtain rfl : i = g.next.length := by omega
      have hp := HP.out
      rw [List.take_length] at hp
      have P8 := Go.Lib.hid hp
      clear hp HP HN
      go_wp2_with fail
      refine (pack_Long w.heap.size wb _ g.done (by unfold I64; omega) _ P8.out z.ext.size).mono ?_
      rintro e _ ⟨rfl, hw1⟩
      obtain ⟨z9, rfl, hP, hs1⟩ := wrote_ew hw1 HL.out
      have P9 := Go.Lib.hid hP
      clear hP hw1 hs1 P8
      have hln : (Builtin.len_ #[108] 3 #[.map (some m)]).run Try.prog z9.on = .ok (.int .i64 g.keys.length) z9.on := (HM.out.extN z9.ext).len Try.underlying108 _
      go_wp2_with fail
      refine (pack_Byte w.heap.size wb _ (g.keys.length : Int) (by unfold I64; omega) _ P9.out z9.ext.size).mono ?_
      rintro e _ ⟨rfl, hw1⟩
      obtain ⟨zA, rfl, hP, hs1⟩ := wrote_ew hw1 HL.out
      have PA : Hid (PW zA.on w.heap.size wb (midW g)) := Go.Lib.hid hP
      clear hP hw1 hs1 P9 hln
      go_wp2_with fail
      refine (maps_Keys (some m) zA.on).mono ?_
      rintro e _ ⟨rfl, rfl⟩
      obtain ⟨D0, hown, hD, hss⟩ := owns_keys Try.underlying9 (HM.out.extN zA.ext) hkl (fun p hp => (HI.out.kb p hp).2.1)
      have HSS := Go.Lib.hid hss
      have HOW := Go.Lib.hid (And.intro hown hD)
      clear hown hD hss
      go_wp2_with fail
      refine (slices_Sorted_keys m 16 D0 (keyRd Unit) zA.on HOW.out.1 (by have := HOW.out.2; unfold maxLen; omega) (by have := HOW.out.2; omega)).mono ?_
      rintro e _ ⟨v, ss, rfl, hperm, hrow, hbel⟩
      obtain ⟨zB0, rfl⟩ := (ext_of_below hbel).ew
      have XB : Ext Non w zB0.on := by (repeat (first | with_reducible exact Ext.refl _ _ | assumption | with_reducible refine Ext.upN ?_ | with_reducible refine Ext.alloc ?_ _ | with_reducible refine Ext.upA (by assumption) ?_ | with_reducible refine Ext.upW ?_ | with_reducible refine Ext.drew ?_ | with_reducible refine Ext.drewN ?_ _ | with_reducible refine Ext.upF ?_ | with_reducible refine Ext.upFF (by first | omega | simp) ?_ | with_reducible refine Ext.setCellsF _ _ _ (by first | omega | simp) ?_ | with_reducible refine Ext.setCellF _ _ _ (by first | omega | simp) ?_ | with_reducible refine Ext.upFN (by first | omega | simp) ?_ | with_reducible refine Ext.up1F (by first | omega | simp) ?_ | with_reducible refine Ext.up1N (by first | omega | simp) ?_ | with_reducible refine Ext.setCell ?_ (.inr (by first | omega | simp)) _ | refine Ext.alloc ?_ _ | refine Ext.setCellF _ _ _ (by first | omega | simp) ?_ | refine Ext.setCell ?_ (.inr (by first | omega | simp)) _))
      have hpB := PA.out.extN (by (repeat (first | with_reducible exact Ext.refl _ _ | assumption | with_reducible refine Ext.upN ?_ | with_reducible refine Ext.alloc ?_ _ | with_reducible refine Ext.upA (by assumption) ?_ | with_reducible refine Ext.upW ?_ | with_reducible refine Ext.drew ?_ | with_reducible refine Ext.drewN ?_ _ | with_reducible refine Ext.upF ?_ | with_reducible refine Ext.upFF (by first | omega | simp) ?_ | with_reducible refine Ext.setCellsF _ _ _ (by first | omega | simp) ?_ | with_reducible refine Ext.setCellF _ _ _ (by first | omega | simp) ?_ | with_reducible refine Ext.upFN (by first | omega | simp) ?_ | with_reducible refine Ext.up1F (by first | omega | simp) ?_ | with_reducible refine Ext.up1N (by first | omega | simp) ?_ | with_reducible refine Ext.setCell ?_ (.inr (by first | omega | simp)) _ | refine Ext.alloc ?_ _ | refine Ext.setCellF _ _ _ (by first | omega | simp) ?_ | refine Ext.setCell ?_ (.inr (by first | omega | simp)) _)) : Ext Non zA.on zB0.on)
      obtain ⟨zB, hzB⟩ := XB.ew
      rw [hzB] at hrow hpB ⊢
      obtain ⟨hsort, hslen⟩ := HSS.out ss hperm
      rw [hsort] at hrow
      have hkbl : (keysB g.keys).length = ss.length := by rw [← hsort]; exact List.length_mergeSort _
      rw [← hkbl] at hrow
      have hk16 : (keysB g.keys).length ≤ 16 := by omega
      have HROW0 := Go.Lib.hid (ownR_base hrow (Nat.zero_le _))
      have PB : Hid (PW zB.on w.heap.size wb (((keysB g.keys).take 0).foldl (keyW g.keys) (midW g))) := Go.Lib.hid hpB
      obtain ⟨ka, kc, hv, hkc1, hkc2, -⟩ := row_strs _ hrow
      subst hv
      clear hrow hpB hzB XB hbel hperm hsort hslen hkbl HOW HSS PA
      have HKM : Hid (∀ k ∈ keysB g.keys, k.length ≤ 16) := Go.Lib.hid (fun k hk => by
        obtain ⟨p, hp, rfl⟩ := keysB_mem hk
        have := (HI.out.kb p hp).2.1
        rw [Array.length_toList]; exact this)
      generalize hkb : keysB g.keys = kb at *
      have HKB := Go.Lib.hid hkb
      clear hkb
      have HKV : Hid (∀ k : ByteArray, valK g.keys k < 18446744073709551616) := Go.Lib.hid (valK_lt (fun p hp => (HI.out.kb p hp).2.2.1))
      have HZ := Go.Lib.hid zeroF
      go_wp2_with fail
      go_loopg [70] kb.length (fun n iv wr => ∃ (i : Nat) (z : EW Non w), i ≤ kb.length ∧ n = kb.length - i ∧ iv = .int .i64 i ∧ wr = z.on ∧ Hid (PW wr w.heap.size wb ((kb.take i).foldl (keyW g.keys) (midW g))) ∧ Hid (wr.ownsRow 0 9 1 (.slice ka kb.length kc) kb.length (kb.map encStr)))
      case atStart => exact ⟨0, ⟨_, by (repeat (first | with_reducible exact Ext.refl _ _ | assumption | with_reducible refine Ext.upN ?_ | with_reducible refine Ext.alloc ?_ _ | with_reducible refine Ext.upA (by assumption) ?_ | with_reducible refine Ext.upW ?_ | with_reducible refine Ext.drew ?_ | with_reducible refine Ext.drewN ?_ _ | with_reducible refine Ext.upF ?_ | with_reducible refine Ext.upFF (by first | omega | simp) ?_ | with_reducible refine Ext.setCellsF _ _ _ (by first | omega | simp) ?_ | with_reducible refine Ext.setCellF _ _ _ (by first | omega | simp) ?_ | with_reducible refine Ext.upFN (by first | omega | simp) ?_ | with_reducible refine Ext.up1F (by first | omega | simp) ?_ | with_reducible refine Ext.up1N (by first | omega | simp) ?_ | with_reducible refine Ext.setCell ?_ (.inr (by first | omega | simp)) _ | refine Ext.alloc ?_ _ | refine Ext.setCellF _ _ _ (by first | omega | simp) ?_ | refine Ext.setCell ?_ (.inr (by first | omega | simp)) _))⟩, Nat.zero_le _, rfl, rfl, rfl, PB, HROW0⟩
      case round =>
        clear PB HROW0
        obtain ⟨i, z, hi, hn, rfl, rfl, HP, HR⟩ := hrel
        have HN := Go.Lib.hid hn; clear hn
        by_cases hlt : i < kb.length
        · obtain ⟨ka', kc', e1, -, -, hat⟩ := row_strs _ HR.out
          injection e1 with e1 e2 e3
          subst e1
          obtain ⟨kg, rfl, hcell⟩ := hat i hlt
          have HT := Go.Lib.hid (fold_take (keyW g.keys) (midW g) kb i hlt)
          have HKL : Hid ((⟨kb[i].toArray⟩ : ByteArray).size ≤ 9223372036854775807) := Go.Lib.hid (by
            have := HKM.out _ (List.getElem_mem hlt)
            show kb[i].toArray.size ≤ _
            rw [List.size_toArray]; omega)
          have HDK : Hid ((⟨kb[i].toArray⟩ : ByteArray).data.toList = kb[i]) := Go.Lib.hid rfl
          have HKW : Hid (∀ W, keyW g.keys W kb[i] = bitsW (textW W kb[i]) (canonN (valK g.keys ⟨kb[i].toArray⟩))) := Go.Lib.hid (fun W => rfl)
          clear hat e2 e3
          generalize kb[i] = ky at *
          obtain ⟨sk, hsk⟩ : ∃ sk : ByteArray, sk = ⟨ky.toArray⟩ := ⟨_, rfl⟩
          rw [← hsk] at hcell HKL HDK HKW
          clear hsk
          go_wp2_with fail
          refine (pack_Text w.heap.size wb _ sk HKL.out _ HP.out z.ext.size).mono ?_
          rintro e _ ⟨rfl, hw1⟩
          have hr1 := row_wrote HR.out HP.out (by decide) (by decide) hw1
          obtain ⟨z7, rfl, hP, hs1⟩ := wrote_ew hw1 HL.out
          rw [HDK.out] at hP
          have P7 := Go.Lib.hid hP
          have R7 := Go.Lib.hid hr1
          clear hP hw1 hs1 hcell hr1
          have hlk := (HM.out.extN z7.ext).lookup1 Try.underlying108 Try.underlying9 (HZ.out z7.on) sk
          have hvk := HKV.out sk
          generalize valK g.keys sk = vk at *
          have hcv := canon_lt hvk
          go_wp2_with fail
          refine (reals_Bits vk _).mono ?_
          rintro e _ ⟨rfl, rfl⟩
          go_wp2_with fail
          refine (pack_Bits w.heap.size wb _ (canonN vk) hcv _ P7.out z7.ext.size).mono ?_
          rintro e _ ⟨rfl, hw1⟩
          have hr2 := row_wrote R7.out P7.out (by decide) (by decide) hw1
          obtain ⟨z8, rfl, hP, hs1⟩ := wrote_ew hw1 HL.out
          rw [← HKW.out, ← HT.out] at hP
          have P8 := Go.Lib.hid hP
          have R8 := Go.Lib.hid hr2
          clear hP hw1 hs1 hr2 hlk
          go_wp2_with fail
          go_roundg (kb.length - (i + 1))
          case measure => have := HN.out; omega
          case rel => exact ⟨i + 1, ⟨_, by (repeat (first | with_reducible exact Ext.refl _ _ | assumption | with_reducible refine Ext.upN ?_ | with_reducible refine Ext.alloc ?_ _ | with_reducible refine Ext.upA (by assumption) ?_ | with_reducible refine Ext.upW ?_ | with_reducible refine Ext.drew ?_ | with_reducible refine Ext.drewN ?_ _ | with_reducible refine Ext.upF ?_ | with_reducible refine Ext.upFF (by first | omega | simp) ?_ | with_reducible refine Ext.setCellsF _ _ _ (by first | omega | simp) ?_ | with_reducible refine Ext.setCellF _ _ _ (by first | omega | simp) ?_ | with_reducible refine Ext.upFN (by first | omega | simp) ?_ | with_reducible refine Ext.up1F (by first | omega | simp) ?_ | with_reducible refine Ext.up1N (by first | omega | simp) ?_ | with_reducible refine Ext.setCell ?_ (.inr (by first | omega | simp)) _ | refine Ext.alloc ?_ _ | refine Ext.setCellF _ _ _ (by first | omega | simp) ?_ | refine Ext.setCell ?_ (.inr (by first | omega | simp)) _))⟩, hlt, rfl, by go_num, rfl, P8, R8⟩
        · obtain rfl : i = kb.length := by omega
          have hp := HP.out
          rw [List.take_length] at hp
          have PC := Go.Lib.hid hp
          clear hp HP HN HR
          obtain ⟨W0, hW0⟩ : ∃ W0, W0 = kb.foldl (keyW g.keys) (midW g) := ⟨_, rfl⟩
          rw [← hW0] at PC
          have PC0 : Hid (PW z.on w.heap.size wb ((List.range 0).foldl (cliW g.cl) W0)) := PC
          have hrz := range_ext HRG.out.1 z.ext (fun f => f)
          have HRZ := Go.Lib.hid hrz
          have HS : Hid (ledgS g = doneS ((List.range 8).foldl (cliW g.cl) W0)) := Go.Lib.hid (by unfold ledgS ledgW; rw [hW0, HKB.out])
          clear hrz hW0 PC
          go_upto_region 22 with (refine wpList_load_mid rfl 111 _ rfl b 5 rfl R _ HRZ.out Try.underlying111 rfl HRG.out.2 ?_)
          go_loopg [91] 8 (fun n iv wr => ∃ (i : Nat) (z : EW Non w), i ≤ 8 ∧ n = 8 - i ∧ iv = .int .i64 i ∧ wr = z.on ∧ Hid (PW wr w.heap.size wb ((List.range i).foldl (cliW g.cl) W0)))
          case atStart => exact ⟨0, ⟨_, by (repeat (first | with_reducible exact Ext.refl _ _ | assumption | with_reducible refine Ext.upN ?_ | with_reducible refine Ext.alloc ?_ _ | with_reducible refine Ext.upA (by assumption) ?_ | with_reducible refine Ext.upW ?_ | with_reducible refine Ext.drew ?_ | with_reducible refine Ext.drewN ?_ _ | with_reducible refine Ext.upF ?_ | with_reducible refine Ext.upFF (by first | omega | simp) ?_ | with_reducible refine Ext.setCellsF _ _ _ (by first | omega | simp) ?_ | with_reducible refine Ext.setCellF _ _ _ (by first | omega | simp) ?_ | with_reducible refine Ext.upFN (by first | omega | simp) ?_ | with_reducible refine Ext.up1F (by first | omega | simp) ?_ | with_reducible refine Ext.up1N (by first | omega | simp) ?_ | with_reducible refine Ext.setCell ?_ (.inr (by first | omega | simp)) _ | refine Ext.alloc ?_ _ | refine Ext.setCellF _ _ _ (by first | omega | simp) ?_ | refine Ext.setCell ?_ (.inr (by first | omega | simp)) _))⟩, by omega, rfl, rfl, rfl, PC0⟩
          case round =>
            clear PC0
            obtain ⟨i, z, hi, hn, rfl, rfl, HP⟩ := hrel
            have HN := Go.Lib.hid hn; clear hn
            by_cases hlt : i < 8
            · have hix := HIX.out i hlt z.on
              obtain ⟨cb1, cb2, cb3, cb4, cb5, -, -⟩ := HI.out.cb i
              have HT : Hid ((List.range (i + 1)).foldl (cliW g.cl) W0 = textW (longW ((List.range i).foldl (cliW g.cl) W0) (g.cl i).stamp) (resS (g.cl i).code (g.cl i).real).data.toList) := Go.Lib.hid (by rw [List.range_succ, List.foldl_append]; rfl)
              generalize (g.cl i).stamp = sta at *
              generalize (g.cl i).code = cod at *
              generalize (g.cl i).real = rea at *
              go_upto_region 24 with (refine wpList_store_box rfl 110 _ _ rfl z.on.heap.size _ [.int .i64 sta, .int .i64 cod, .float .f64 rea] _ rfl rfl (Bx.newAt _ _ _ _ rfl) rfl info_last (by simp [Value.oneCell']) (fun W hB => ?_); have BX := Go.Lib.hid hB; clear hB)
              have XW : Ext Non z.on W.on := by (repeat (first | with_reducible exact Ext.refl _ _ | assumption | with_reducible refine Ext.upN ?_ | with_reducible refine Ext.alloc ?_ _ | with_reducible refine Ext.upA (by assumption) ?_ | with_reducible refine Ext.upW ?_ | with_reducible refine Ext.drew ?_ | with_reducible refine Ext.drewN ?_ _ | with_reducible refine Ext.upF ?_ | with_reducible refine Ext.upFF (by first | omega | simp) ?_ | with_reducible refine Ext.setCellsF _ _ _ (by first | omega | simp) ?_ | with_reducible refine Ext.setCellF _ _ _ (by first | omega | simp) ?_ | with_reducible refine Ext.upFN (by first | omega | simp) ?_ | with_reducible refine Ext.up1F (by first | omega | simp) ?_ | with_reducible refine Ext.up1N (by first | omega | simp) ?_ | with_reducible refine Ext.setCell ?_ (.inr (by first | omega | simp)) _ | refine Ext.alloc ?_ _ | refine Ext.setCellF _ _ _ (by first | omega | simp) ?_ | refine Ext.setCell ?_ (.inr (by first | omega | simp)) _))
              have hpw := HP.out.extN XW
              obtain ⟨y5, hy5⟩ := (z.ext.trans XW).ew
              rw [hy5] at BX hpw ⊢
              clear hy5 XW W hix HP
              have P5 := Go.Lib.hid hpw
              clear hpw
              try simp only [Act.put]
              generalize z.on.heap.size = kx at *
              have y0 : y5.on.cell? ⟨kx, 0, none⟩ = some (.int .i64 sta) := BX.out.cell rfl
              go_wp2_with fail
              refine (pack_Long w.heap.size wb _ sta (by unfold I64; omega) _ P5.out y5.ext.size).mono ?_
              rintro e _ ⟨rfl, hw1⟩
              have hbx := bx_wrote BX.out P5.out (by decide) (by decide) hw1
              obtain ⟨y6, rfl, hP, hs1⟩ := wrote_ew hw1 HL.out
              have P6 := Go.Lib.hid hP
              have BY := Go.Lib.hid hbx
              clear hP hw1 hs1 y0 hbx
              have y1 : y6.on.cell? ⟨kx, 1, none⟩ = some (.int .i64 cod) := BY.out.cell rfl
              have y2 : y6.on.cell? ⟨kx, 2, none⟩ = some (.float .f64 rea) := BY.out.cell rfl
              go_wp2_with fail
              refine Calls.ew (deeds_ResultText cod (by unfold I64; omega) rea cb5 _) ?_
              rintro e y7 rfl
              have P7 := Go.Lib.hid (P6.out.extN y7.ext)
              clear y1 y2
              have HRS : Hid ((resS cod rea).size ≤ 9223372036854775807) := Go.Lib.hid (Nat.le_trans (resS_le _ _) (by omega))
              obtain ⟨rs, hrs⟩ : ∃ rs, rs = resS cod rea := ⟨_, rfl⟩
              rw [← hrs] at HRS HT ⊢
              clear hrs
              have X8 : Ext Non w y7.on := by (repeat (first | with_reducible exact Ext.refl _ _ | assumption | with_reducible refine Ext.upN ?_ | with_reducible refine Ext.alloc ?_ _ | with_reducible refine Ext.upA (by assumption) ?_ | with_reducible refine Ext.upW ?_ | with_reducible refine Ext.drew ?_ | with_reducible refine Ext.drewN ?_ _ | with_reducible refine Ext.upF ?_ | with_reducible refine Ext.upFF (by first | omega | simp) ?_ | with_reducible refine Ext.setCellsF _ _ _ (by first | omega | simp) ?_ | with_reducible refine Ext.setCellF _ _ _ (by first | omega | simp) ?_ | with_reducible refine Ext.upFN (by first | omega | simp) ?_ | with_reducible refine Ext.up1F (by first | omega | simp) ?_ | with_reducible refine Ext.up1N (by first | omega | simp) ?_ | with_reducible refine Ext.setCell ?_ (.inr (by first | omega | simp)) _ | refine Ext.alloc ?_ _ | refine Ext.setCellF _ _ _ (by first | omega | simp) ?_ | refine Ext.setCell ?_ (.inr (by first | omega | simp)) _))
              obtain ⟨y8, hy8⟩ := X8.ew
              rw [hy8] at P7 ⊢
              clear hy8 X8
              go_wp2_with fail
              refine (pack_Text w.heap.size wb _ rs HRS.out _ P7.out y8.ext.size).mono ?_
              rintro e _ ⟨rfl, hw1⟩
              obtain ⟨y9, rfl, hP, hs1⟩ := wrote_ew hw1 HL.out
              rw [← HT.out] at hP
              have P9 := Go.Lib.hid hP
              clear hP hw1 hs1
              go_wp2_with fail
              go_roundg (8 - (i + 1))
              case measure => have := HN.out; omega
              case rel => exact ⟨i + 1, ⟨_, by (repeat (first | with_reducible exact Ext.refl _ _ | assumption | with_reducible refine Ext.upN ?_ | with_reducible refine Ext.alloc ?_ _ | with_reducible refine Ext.upA (by assumption) ?_ | with_reducible refine Ext.upW ?_ | with_reducible refine Ext.drew ?_ | with_reducible refine Ext.drewN ?_ _ | with_reducible refine Ext.upF ?_ | with_reducible refine Ext.upFF (by first | omega | simp) ?_ | with_reducible refine Ext.setCellsF _ _ _ (by first | omega | simp) ?_ | with_reducible refine Ext.setCellF _ _ _ (by first | omega | simp) ?_ | with_reducible refine Ext.upFN (by first | omega | simp) ?_ | with_reducible refine Ext.up1F (by first | omega | simp) ?_ | with_reducible refine Ext.up1N (by first | omega | simp) ?_ | with_reducible refine Ext.setCell ?_ (.inr (by first | omega | simp)) _ | refine Ext.alloc ?_ _ | refine Ext.setCellF _ _ _ (by first | omega | simp) ?_ | refine Ext.setCell ?_ (.inr (by first | omega | simp)) _))⟩, by omega, rfl, by go_num, rfl, P9⟩
            · obtain rfl : i = 8 := by omega
              go_wp2_with fail
              refine Calls.ew (pack_Done w.heap.size wb _ _ HP.out) ?_
              rintro e y1 rfl
              rw [← HS.out]
              go_wp2
              go_ret
              exact ⟨rfl, by (repeat (first | with_reducible exact Ext.refl _ _ | assumption | with_reducible refine Ext.upN ?_ | with_reducible refine Ext.alloc ?_ _ | with_reducible refine Ext.upA (by assumption) ?_ | with_reducible refine Ext.upW ?_ | with_reducible refine Ext.drew ?_ | with_reducible refine Ext.drewN ?_ _ | with_reducible refine Ext.upF ?_ | with_reducible refine Ext.upFF (by first | omega | simp) ?_ | with_reducible refine Ext.setCellsF _ _ _ (by first | omega | simp) ?_ | with_reducible refine Ext.setCellF _ _ _ (by first | omega | simp) ?_ | with_reducible refine Ext.upFN (by first | omega | simp) ?_ | with_reducible refine Ext.up1F (by first | omega | simp) ?_ | with_reducible refine Ext.up1N (by first | omega | simp) ?_ | with_reducible refine Ext.setCell ?_ (.inr (by first | omega | simp)) _ | refine Ext.alloc ?_ _ | refine Ext.setCellF _ _ _ (by first | omega | simp) ?_ | refine Ext.setCell ?_ (.inr (by first | omega | simp)) _))⟩
end Go.Proofs.Ytekbonciafbjiaa
