/- Joined texts: Ew5, Rd01, Text22. What each proves stands at its head; no conditions beside those in its theorems. -/
import Derived.Maps.AppendAt
import Derived.Test.YtfefeepljbfcdaaPjAA
import Derived.Test.YtfefeepljbfcdaaPjAB
import Derived.Test.YtfefeepljbfcdaaPjAE
import Derived.Test.YtfefeepljbfcdaaPjAI
import Derived.Test.YtfefeepljbfcdaaPjAM
import Derived.Test.YtfefeepljbfcdaaPjAF
import Derived.Test.YtfefeepljbfcdaaPjAJ
import Derived.Test.YtfefeepljbfcdaaPjAK
import Derived.Test.YtfefeepljbfcdaaPjAN
import Derived.Test.YtfefeepljbfcdaaPjAR
import Derived.Test.YtfefeepljbfcdaaPjAC
/- Footprints: an append writes its own row alone, or a new block. -/
namespace Go.Proofs.Ytfefeepljbfcdaa
open Go.RowKit
set_option linter.unusedVariables false

/-- The block of a row. -/
def Row (v : Value) : Nat → Prop := fun k => v.ownBlock = some k
theorem Bx.drew {w : World} {k : Nat} {vs : List Value} {t : TypeId} (h : Bx w k vs t) : Bx w.drew k vs t := ⟨h.h⟩
theorem own_row {w : World} {base : Nat} {e : TypeId} {size : Nat} {v : Value} {n : Nat} {xs : List Value} (h : w.ownsRow base e size v n xs) : ∀ k, Row v k → base ≤ k ∧ k < w.heap.size := fun k hk => h.lt k hk
end Go.Proofs.Ytfefeepljbfcdaa

/- The reference of layer 1 (pack): its reader. -/
namespace Go.Proofs.Ytfefeepljbfcdaa
open Go.RowKit Go.Lib
set_option linter.unusedSimpArgs false
set_option linter.unusedVariables false
attribute [local go_sem] run_store_float
attribute [local go_sem low] EW.cellN EW.frozN alloc_cell_or alloc_froz_or EW.cellF EW.frozF EW.cell1 EW.froz1
/-- A reader of the reference, in its box. -/
structure RdW (w : World) (b : Nat) (r : Rd) : Prop where
  box : Bx w b [.string (sB r.s), .bool r.bad] 105
  small : r.s.length ≤ 4611686018427387904
theorem RdW.extN {w w' : World} {b : Nat} {r : Rd} (h : RdW w b r) (x : Ext Non w w') : RdW w' b r := ⟨h.box.extN x, h.small⟩
theorem RdW.ext {S : Nat → Prop} {w w' : World} {b : Nat} {r : Rd} (h : RdW w b r) (x : Ext S w w') (hs : ¬ S b) : RdW w' b r := ⟨h.box.ext x hs, h.small⟩
theorem sB_extract (l : List UInt8) (a b : Nat) : (sB l).extract a b = sB ((l.drop a).take (b - a)) := by
  apply ByteArray.ext
  apply Array.ext'
  rw [sB_toList]
  simp [sB, ByteArray.data_extract]
end Go.Proofs.Ytfefeepljbfcdaa

/- Layers 7, 11: the texts of configurations and of results. -/
namespace Go.Proofs.Ytfefeepljbfcdaa
open Go.RowKit Go.Lib F64
set_option linter.unusedSimpArgs false
set_option linter.unusedVariables false
attribute [local go_sem] run_store_float
attribute [local go_sem low] EW.cellN EW.frozN alloc_cell_or alloc_froz_or EW.cellF EW.frozF EW.cell1 EW.froz1
/-- What a writer's call leaves, seen from a world that is older than the writer. -/
theorem wrote_ew {w0 w' : World} {z : EW Non w0} {n0 b : Nat} {W' : Wr} (h : Wrote z.on w' n0 b W') (h0 : w0.heap.size ≤ n0) : ∃ y : EW Non w0, w' = y.on ∧ PW y.on n0 b W' ∧ z.on.heap.size ≤ y.on.heap.size :=
  ⟨⟨w', Wrote.new h z.ext h0 h.p.nb⟩, rfl, h.p, h.x.size⟩
/-- A configuration's bytes. -/
def confW (ep : Int) (xs : List Int) : Wr := xs.foldl byteW (byteW (wordW (byteW (newW (4 + xs.length)) 67) ep) xs.length)
def confS (ep : Int) (xs : List Int) : ByteArray := if confB ep xs = true then doneS (confW ep xs) else ⟨#[]⟩
def confE (ep : Int) (xs : List Int) : Int := if confB ep xs = true then (confW ep xs).err else 1
theorem fold_take {α β : Type} (f : β → α → β) (s : β) (l : List α) (i : Nat) (h : i < l.length) : (l.take (i + 1)).foldl f s = f ((l.take i).foldl f s) l[i] := by
  rw [List.take_succ_eq_append_getElem h, List.foldl_append]; rfl
set_option maxHeartbeats 2000000 in
set_option maxRecDepth 100000 in
theorem council_Text (ep : Int) (hep : I64 ep) (a : Option Addr) (cap : Nat) (xs : List Int) (w : World) (h : Ints w a cap xs) : Calls Try.prog 42 #[.agg #[.int .i64 ep, .slice a xs.length cap]] w fun e w' =>
    e = .returned (.tuple #[.string (confS ep xs), .int .i64 (confE ep xs)]) ∧ Ext Non w w' := by
  have HI := Go.Lib.hid h
  clear h
  go_enter Try.func42, Try.ntmps42
  go_wp2_with fail
  refine Calls.ew (council_Right ep a cap xs _ (HI.out.extN (by (repeat (first | with_reducible (first | exact Ext.refl _ _ | assumption | refine Ext.upN ?_ | refine Ext.alloc ?_ _ | refine Ext.drew ?_ | refine Ext.drewN ?_ _ | refine Ext.up1N (by first | omega | simp) ?_) | refine Ext.alloc ?_ _ | refine Ext.setCell ?_ (.inr (by first | omega | simp)) _))))) ?_
  rintro e x1 rfl
  cases hc : confB ep xs
  · have E1 : Hid (confS ep xs = ⟨#[]⟩ ∧ confE ep xs = 1) := Go.Lib.hid ⟨by unfold confS; rw [hc]; rfl, by unfold confE; rw [hc]; rfl⟩
    clear hc
    go_wp2
    go_returns
    exact ⟨by rw [E1.out.1, E1.out.2]; rfl, by (repeat (first | with_reducible (first | exact Ext.refl _ _ | assumption | refine Ext.upN ?_ | refine Ext.alloc ?_ _ | refine Ext.drew ?_ | refine Ext.drewN ?_ _ | refine Ext.up1N (by first | omega | simp) ?_) | refine Ext.alloc ?_ _ | refine Ext.setCell ?_ (.inr (by first | omega | simp)) _))⟩
  · have hm : membersB xs = true := by unfold confB at hc; simp only [Bool.and_eq_true] at hc; exact hc.2
    obtain ⟨-, -, hl1, hl2⟩ := members_facts hm
    have E1 : Hid (confS ep xs = doneS (confW ep xs) ∧ confE ep xs = (confW ep xs).err) := Go.Lib.hid ⟨by unfold confS; rw [hc]; rfl, by unfold confE; rw [hc]; rfl⟩
    have HW : Hid (confW ep xs = xs.foldl byteW (byteW (wordW (byteW (newW ((4 + xs.length : Nat) : Int)) 67) ep) xs.length)) := Go.Lib.hid (by unfold confW; congr 5)
    clear hc hm
    have hw : IntKind.i64.wrap (4 + (xs.length : Int)) = ((4 + xs.length : Nat) : Int) := (IntWalk.i64_in _ (by omega)).trans (by omega)
    have HL := Go.Lib.hid (Nat.le_refl x1.on.heap.size)
    go_wp2_with fail
    refine (pack_New ((4 + xs.length : Nat) : Int) (by omega) x1.on.heap.size x1.on HL.out).mono ?_
    rintro e _ ⟨b, rfl, hx, hP, hb⟩
    obtain ⟨z0, rfl⟩ := hx.ew
    have P0 := Go.Lib.hid hP
    clear hP hx hb
    go_wp2_with fail
    refine (pack_Byte x1.on.heap.size b _ 67 (by unfold I64; omega) _ P0.out z0.ext.size).mono ?_
    rintro e _ ⟨rfl, hw1⟩
    obtain ⟨z1, rfl, hP, hs1⟩ := wrote_ew hw1 HL.out
    have P1 := Go.Lib.hid hP
    clear hP hw1 P0
    go_wp2_with fail
    refine (pack_Word x1.on.heap.size b _ ep hep _ P1.out z1.ext.size).mono ?_
    rintro e _ ⟨rfl, hw1⟩
    obtain ⟨z2, rfl, hP, hs2⟩ := wrote_ew hw1 HL.out
    have P2 := Go.Lib.hid hP
    clear hP hw1 P1
    go_wp2_with fail
    refine (pack_Byte x1.on.heap.size b _ (xs.length : Int) (by unfold I64; omega) _ P2.out z2.ext.size).mono ?_
    rintro e _ ⟨rfl, hw1⟩
    obtain ⟨z3, rfl, hP, hs3⟩ := wrote_ew hw1 HL.out
    obtain ⟨W0, hW0⟩ : ∃ W0, W0 = byteW (wordW (byteW (newW ((4 + xs.length : Nat) : Int)) 67) ep) xs.length := ⟨_, rfl⟩
    rw [← hW0] at hP HW
    have P3 : Hid (PW z3.on x1.on.heap.size b ((xs.take 0).foldl byteW W0)) := Go.Lib.hid hP
    clear hP hw1 P2 hW0 hs1 hs2 hs3 hw
    go_wp2_with fail
    go_loopg [29] xs.length (fun n iv wr => ∃ (i : Nat) (z : EW Non x1.on), i ≤ xs.length ∧ n = xs.length - i ∧ iv = .int .i64 i ∧ wr = z.on ∧ Hid (PW wr x1.on.heap.size b ((xs.take i).foldl byteW W0)))
    case atStart => exact ⟨0, ⟨_, by (repeat (first | with_reducible (first | exact Ext.refl _ _ | assumption | refine Ext.upN ?_ | refine Ext.alloc ?_ _ | refine Ext.drew ?_ | refine Ext.drewN ?_ _ | refine Ext.up1N (by first | omega | simp) ?_) | refine Ext.alloc ?_ _ | refine Ext.setCell ?_ (.inr (by first | omega | simp)) _))⟩, Nat.zero_le _, rfl, rfl, rfl, P3⟩
    case round =>
      clear P3
      obtain ⟨i, z, hi, hn, rfl, rfl, HP⟩ := hrel
      have HN := Go.Lib.hid hn; clear hn
      by_cases hlt : i < xs.length
      · obtain ⟨ab, ao, rfl, hcell, hx64⟩ := (HI.out.extN (by (repeat (first | with_reducible (first | exact Ext.refl _ _ | assumption | refine Ext.upN ?_ | refine Ext.alloc ?_ _ | refine Ext.drew ?_ | refine Ext.drewN ?_ _ | refine Ext.up1N (by first | omega | simp) ?_) | refine Ext.alloc ?_ _ | refine Ext.setCell ?_ (.inr (by first | omega | simp)) _)) : Ext Non w x1.on)).at_ i hlt
        have HT := Go.Lib.hid (fold_take byteW W0 xs i hlt)
        have HX := Go.Lib.hid hx64
        clear hx64
        generalize xs[i] = x at *
        go_wp2_with fail
        refine (pack_Byte x1.on.heap.size b _ x HX.out _ HP.out z.ext.size).mono ?_
        rintro e _ ⟨rfl, hw1⟩
        obtain ⟨z4, rfl, hP, hs1⟩ := wrote_ew hw1 HL.out
        rw [← HT.out] at hP
        have P4 := Go.Lib.hid hP
        clear hP hw1 hs1
        go_wp2_with fail
        go_roundg (xs.length - (i + 1))
        case measure => have := HN.out; omega
        case rel => exact ⟨i + 1, ⟨_, by (repeat (first | with_reducible (first | exact Ext.refl _ _ | assumption | refine Ext.upN ?_ | refine Ext.alloc ?_ _ | refine Ext.drew ?_ | refine Ext.drewN ?_ _ | refine Ext.up1N (by first | omega | simp) ?_) | refine Ext.alloc ?_ _ | refine Ext.setCell ?_ (.inr (by first | omega | simp)) _))⟩, hlt, rfl, by go_num, rfl, P4⟩
      · obtain rfl : i = xs.length := by omega
        have hp := HP.out
        rw [List.take_length, ← HW.out] at hp
        have P5 := Go.Lib.hid hp
        clear hp
        go_wp2_with fail
        refine Calls.ew (pack_Done x1.on.heap.size b _ _ P5.out) ?_
        rintro e x2 rfl
        go_wp2
        go_returns
        exact ⟨by rw [E1.out.1, E1.out.2]; rfl, by (repeat (first | with_reducible (first | exact Ext.refl _ _ | assumption | refine Ext.upN ?_ | refine Ext.alloc ?_ _ | refine Ext.drew ?_ | refine Ext.drewN ?_ _ | refine Ext.up1N (by first | omega | simp) ?_) | refine Ext.alloc ?_ _ | refine Ext.setCell ?_ (.inr (by first | omega | simp)) _))⟩
/-- A result's bytes. -/
def resW (cd : Int) (x : Nat) : Wr := bitsW (byteW (newW 64) cd) (canonN x)
def resS (cd : Int) (x : Nat) : ByteArray := if withinB cd 0 8 = true then doneS (resW cd x) else ⟨#[]⟩
def resE (cd : Int) (x : Nat) : Int := if withinB cd 0 8 = true then (resW cd x).err else 1
set_option maxHeartbeats 2000000 in
set_option maxRecDepth 100000 in
theorem deeds_ResultText (cd : Int) (hcd : I64 cd) (x : Nat) (hx : x < 18446744073709551616) (w : World) : Calls Try.prog 49 #[.agg #[.int .i64 cd, .float .f64 x]] w fun e w' =>
    e = .returned (.tuple #[.string (resS cd x), .int .i64 (resE cd x)]) ∧ Ext Non w w' := by
  go_enter Try.func49, Try.ntmps49
  go_wp2_with fail
  refine (deeds_within cd 0 8 _).mono ?_
  rintro e _ ⟨rfl, rfl⟩
  cases hc : withinB cd 0 8
  · have E1 : Hid (resS cd x = ⟨#[]⟩ ∧ resE cd x = 1) := Go.Lib.hid ⟨by unfold resS; rw [hc]; rfl, by unfold resE; rw [hc]; rfl⟩
    clear hc
    go_wp2
    go_returns
    exact ⟨by rw [E1.out.1, E1.out.2]; rfl, by (repeat (first | with_reducible (first | exact Ext.refl _ _ | assumption | refine Ext.upN ?_ | refine Ext.alloc ?_ _ | refine Ext.drew ?_ | refine Ext.drewN ?_ _ | refine Ext.up1N (by first | omega | simp) ?_) | refine Ext.alloc ?_ _ | refine Ext.setCell ?_ (.inr (by first | omega | simp)) _))⟩
  · have E1 : Hid (resS cd x = doneS (resW cd x) ∧ resE cd x = (resW cd x).err) := Go.Lib.hid ⟨by unfold resS; rw [hc]; rfl, by unfold resE; rw [hc]; rfl⟩
    clear hc
    have hcan : canonN x < 18446744073709551616 := canon_lt hx
    have B := Go.Lib.hid (Bx.newAt w [.int .i64 cd, .float .f64 x] 43 _ rfl)
    have XA : Ext Non w (w.alloc (.cells [Value.int .i64 cd, .float .f64 x].toArray 43)) := (Ext.refl _ _).alloc _
    go_upto_region 3 with fail
    generalize w.alloc (.cells #[Value.int .i64 cd, .float .f64 x] 43) = wA at *
    have c0 : wA.cell? ⟨w.heap.size, 0, none⟩ = some (.int .i64 cd) := B.out.cell rfl
    have c1 : wA.cell? ⟨w.heap.size, 1, none⟩ = some (.float .f64 x) := B.out.cell rfl
    have HL := Go.Lib.hid (Nat.le_refl wA.heap.size)
    have XB := Go.Lib.hid XA
    clear XA
    go_wp2_with fail
    refine (pack_New 64 (by decide) wA.heap.size wA HL.out).mono ?_
    rintro e _ ⟨b, rfl, hx1, hP, hb⟩
    obtain ⟨z0, rfl⟩ := hx1.ew
    have P0 := Go.Lib.hid hP
    clear hP hx1 hb
    go_wp2_with fail
    refine (pack_Byte wA.heap.size b _ cd hcd _ P0.out z0.ext.size).mono ?_
    rintro e _ ⟨rfl, hw1⟩
    obtain ⟨z1, rfl, hP, hs1⟩ := wrote_ew hw1 HL.out
    have P1 := Go.Lib.hid hP
    clear hP hw1 P0 hs1
    go_wp2_with fail
    refine (reals_Bits x _).mono ?_
    rintro e _ ⟨rfl, rfl⟩
    go_wp2_with fail
    refine (pack_Bits wA.heap.size b _ (canonN x) hcan _ P1.out z1.ext.size).mono ?_
    rintro e _ ⟨rfl, hw1⟩
    obtain ⟨z2, rfl, hP, hs2⟩ := wrote_ew hw1 HL.out
    have P2 : Hid (PW z2.on wA.heap.size b (resW cd x)) := Go.Lib.hid hP
    clear hP hw1 P1 hs2
    go_wp2_with fail
    refine Calls.ew (pack_Done wA.heap.size b _ _ P2.out) ?_
    rintro e x2 rfl
    have XC := XB.out
    go_wp2
    go_returns
    exact ⟨by rw [E1.out.1, E1.out.2]; rfl, XC.trans (z2.ext.trans x2.ext)⟩
end Go.Proofs.Ytfefeepljbfcdaa
