/- Joined texts: Ew5, Text22, WireP, Hide, CRows, VotesP, VotesI. What each proves stands at its head; no conditions beside those in its theorems. -/
import Derived.Maps.AppendAt
import Derived.Test.YtflpkoafebjfdaaGreatPjAQ
/- Footprints: an append writes its own row alone, or a new block. -/
namespace Go.Proofs.YtflpkoafebjfdaaGreat
open Go.RowKit
set_option linter.unusedVariables false

/-- The block of a row. -/
def Row (v : Value) : Nat → Prop := fun k => v.ownBlock = some k
theorem Bx.drew {w : World} {k : Nat} {vs : List Value} {t : TypeId} (h : Bx w k vs t) : Bx w.drew k vs t := ⟨h.h⟩
theorem own_row {w : World} {base : Nat} {e : TypeId} {size : Nat} {v : Value} {n : Nat} {xs : List Value} (h : w.ownsRow base e size v n xs) : ∀ k, Row v k → base ≤ k ∧ k < w.heap.size := fun k hk => h.lt k hk
end Go.Proofs.YtflpkoafebjfdaaGreat

/- Layers 7, 11: the texts of configurations and of results. -/
namespace Go.Proofs.YtflpkoafebjfdaaGreat
open Go.RowKit Go.Lib F64
set_option linter.unusedSimpArgs false
set_option linter.unusedVariables false
attribute [local go_sem] run_store_float
attribute [local go_sem low] EW.cellN EW.frozN alloc_cell_or alloc_froz_or EW.cellF EW.frozF EW.cell1 EW.froz1
/-- What a writer's call leaves, seen from a world that is older than the writer. -/
theorem wrote_ew {w0 w' : World} {z : EW Non w0} {n0 b : Nat} {W' : Wr} (h : Wrote z.on w' n0 b W') (h0 : w0.heap.size ≤ n0) : ∃ y : EW Non w0, w' = y.on ∧ PW y.on n0 b W' ∧ z.on.heap.size ≤ y.on.heap.size :=
  ⟨⟨w', Wrote.new h z.ext h0 h.p.nb⟩, rfl, h.p, h.x.size⟩
/-- A configuration's bytes. -/
def confW (ep : Int) (xs : List Int) : Wr := xs.foldl byteW (byteW (wordW (byteW (newW (4 + xs.length)) 67) ep) xs.length)
def confS (ep : Int) (xs : List Int) : ByteArray := if confB ep xs = true then doneS (confW ep xs) else ⟨#[]⟩
def confE (ep : Int) (xs : List Int) : Int := if confB ep xs = true then (confW ep xs).err else 1
theorem fold_take {α β : Type} (f : β → α → β) (s : β) (l : List α) (i : Nat) (h : i < l.length) : (l.take (i + 1)).foldl f s = f ((l.take i).foldl f s) l[i] := by
  rw [List.take_succ_eq_append_getElem h, List.foldl_append]; rfl
set_option maxHeartbeats 2000000 in
set_option maxRecDepth 100000 in
theorem council_Text (ep : Int) (hep : I64 ep) (a : Option Addr) (cap : Nat) (xs : List Int) (w : World) (h : Ints w a cap xs) : Calls Tryz.prog 102 #[.agg #[.int .i64 ep, .slice a xs.length cap]] w fun e w' =>
    e = .returned (.tuple #[.string (confS ep xs), .int .i64 (confE ep xs)]) ∧ Ext Non w w' := by
  have HI := Go.Lib.hid h
  clear h
  go_enter Tryz.func102, Tryz.ntmps102
  go_wp2_with fail
  refine Calls.ew (council_Right ep a cap xs _ (HI.out.extN (by (repeat (first | with_reducible (first | exact Ext.refl _ _ | assumption | refine Ext.upN ?_ | refine Ext.alloc ?_ _ | refine Ext.drew ?_ | refine Ext.drewN ?_ _ | refine Ext.up1N (by first | omega | simp) ?_) | refine Ext.alloc ?_ _ | refine Ext.setCell ?_ (.inr (by first | omega | simp)) _))))) ?_
  rintro e x1 rfl
  cases hc : confB ep xs
  · have E1 : Hid (confS ep xs = ⟨#[]⟩ ∧ confE ep xs = 1) := Go.Lib.hid ⟨by unfold confS; rw [hc]; rfl, by unfold confE; rw [hc]; rfl⟩
    clear hc
    go_wp2
    go_returns
    exact ⟨by rw [E1.out.1, E1.out.2]; rfl, by (repeat (first | with_reducible (first | exact Ext.refl _ _ | assumption | refine Ext.upN ?_ | refine Ext.alloc ?_ _ | refine Ext.drew ?_ | refine Ext.drewN ?_ _ | refine Ext.up1N (by first | omega | simp) ?_) | refine Ext.alloc ?_ _ | refine Ext.setCell ?_ (.inr (by first | omega | simp)) _))⟩
  · have hm : membersB xs = true := by unfold confB at hc; simp only [Bool.and_eq_true] at hc; exact hc.2
    obtain ⟨-, -, hl1, hl2⟩ := members_facts hm
    have E1 : Hid (confS ep xs = doneS (confW ep xs) ∧ confE ep xs = (confW ep xs).err) := Go.Lib.hid ⟨by unfold confS; rw [hc]; rfl, by unfold confE; rw [hc]; rfl⟩
    have HW : Hid (confW ep xs = xs.foldl byteW (byteW (wordW (byteW (newW ((4 + xs.length : Nat) : Int)) 67) ep) xs.length)) := Go.Lib.hid (by unfold confW; congr 5)
    clear hc hm
    have hw : IntKind.i64.wrap (4 + (xs.length : Int)) = ((4 + xs.length : Nat) : Int) := (IntWalk.i64_in _ (by omega)).trans (by omega)
    have HL := Go.Lib.hid (Nat.le_refl x1.on.heap.size)
    go_wp2_with fail
    refine (pack_New ((4 + xs.length : Nat) : Int) (by omega) x1.on.heap.size x1.on HL.out).mono ?_
    rintro e _ ⟨b, rfl, hx, hP, hb⟩
    obtain ⟨z0, rfl⟩ := hx.ew
    have P0 := Go.Lib.hid hP
    clear hP hx hb
    go_wp2_with fail
    refine (pack_Byte x1.on.heap.size b _ 67 (by unfold I64; omega) _ P0.out z0.ext.size).mono ?_
    rintro e _ ⟨rfl, hw1⟩
    obtain ⟨z1, rfl, hP, hs1⟩ := wrote_ew hw1 HL.out
    have P1 := Go.Lib.hid hP
    clear hP hw1 P0
    go_wp2_with fail
    refine (pack_Word x1.on.heap.size b _ ep hep _ P1.out z1.ext.size).mono ?_
    rintro e _ ⟨rfl, hw1⟩
    obtain ⟨z2, rfl, hP, hs2⟩ := wrote_ew hw1 HL.out
    have P2 := Go.Lib.hid hP
    clear hP hw1 P1
    go_wp2_with fail
    refine (pack_Byte x1.on.heap.size b _ (xs.length : Int) (by unfold I64; omega) _ P2.out z2.ext.size).mono ?_
    rintro e _ ⟨rfl, hw1⟩
    obtain ⟨z3, rfl, hP, hs3⟩ := wrote_ew hw1 HL.out
    obtain ⟨W0, hW0⟩ : ∃ W0, W0 = byteW (wordW (byteW (newW ((4 + xs.length : Nat) : Int)) 67) ep) xs.length := ⟨_, rfl⟩
    rw [← hW0] at hP HW
    have P3 : Hid (PW z3.on x1.on.heap.size b ((xs.take 0).foldl byteW W0)) := Go.Lib.hid hP
    clear hP hw1 P2 hW0 hs1 hs2 hs3 hw
    go_wp2_with fail
    go_loopg [29] xs.length (fun n iv wr => ∃ (i : Nat) (z : EW Non x1.on), i ≤ xs.length ∧ n = xs.length - i ∧ iv = .int .i64 i ∧ wr = z.on ∧ Hid (PW wr x1.on.heap.size b ((xs.take i).foldl byteW W0)))
    case atStart => exact ⟨0, ⟨_, by (repeat (first | with_reducible (first | exact Ext.refl _ _ | assumption | refine Ext.upN ?_ | refine Ext.alloc ?_ _ | refine Ext.drew ?_ | refine Ext.drewN ?_ _ | refine Ext.up1N (by first | omega | simp) ?_) | refine Ext.alloc ?_ _ | refine Ext.setCell ?_ (.inr (by first | omega | simp)) _))⟩, Nat.zero_le _, rfl, rfl, rfl, P3⟩
    case round =>
      clear P3
      obtain ⟨i, z, hi, hn, rfl, rfl, HP⟩ := hrel
      have HN := Go.Lib.hid hn; clear hn
      by_cases hlt : i < xs.length
      · obtain ⟨ab, ao, rfl, hcell, hx64⟩ := (HI.out.extN (by (repeat (first | with_reducible (first | exact Ext.refl _ _ | assumption | refine Ext.upN ?_ | refine Ext.alloc ?_ _ | refine Ext.drew ?_ | refine Ext.drewN ?_ _ | refine Ext.up1N (by first | omega | simp) ?_) | refine Ext.alloc ?_ _ | refine Ext.setCell ?_ (.inr (by first | omega | simp)) _)) : Ext Non w x1.on)).at_ i hlt
        have HT := Go.Lib.hid (fold_take byteW W0 xs i hlt)
        have HX := Go.Lib.hid hx64
        clear hx64
        generalize xs[i] = x at *
        go_wp2_with fail
        refine (pack_Byte x1.on.heap.size b _ x HX.out _ HP.out z.ext.size).mono ?_
        rintro e _ ⟨rfl, hw1⟩
        obtain ⟨z4, rfl, hP, hs1⟩ := wrote_ew hw1 HL.out
        rw [← HT.out] at hP
        have P4 := Go.Lib.hid hP
        clear hP hw1 hs1
        go_wp2_with fail
        go_roundg (xs.length - (i + 1))
        case measure => have := HN.out; omega
        case rel => exact ⟨i + 1, ⟨_, by (repeat (first | with_reducible (first | exact Ext.refl _ _ | assumption | refine Ext.upN ?_ | refine Ext.alloc ?_ _ | refine Ext.drew ?_ | refine Ext.drewN ?_ _ | refine Ext.up1N (by first | omega | simp) ?_) | refine Ext.alloc ?_ _ | refine Ext.setCell ?_ (.inr (by first | omega | simp)) _))⟩, hlt, rfl, by go_num, rfl, P4⟩
      · obtain rfl : i = xs.length := by omega
        have hp := HP.out
        rw [List.take_length, ← HW.out] at hp
        have P5 := Go.Lib.hid hp
        clear hp
        go_wp2_with fail
        refine Calls.ew (pack_Done x1.on.heap.size b _ _ P5.out) ?_
        rintro e x2 rfl
        go_wp2
        go_returns
        exact ⟨by rw [E1.out.1, E1.out.2]; rfl, by (repeat (first | with_reducible (first | exact Ext.refl _ _ | assumption | refine Ext.upN ?_ | refine Ext.alloc ?_ _ | refine Ext.drew ?_ | refine Ext.drewN ?_ _ | refine Ext.up1N (by first | omega | simp) ?_) | refine Ext.alloc ?_ _ | refine Ext.setCell ?_ (.inr (by first | omega | simp)) _))⟩
/-- A result's bytes. -/
def resW (cd : Int) (x : Nat) : Wr := bitsW (byteW (newW 64) cd) (canonN x)
def resS (cd : Int) (x : Nat) : ByteArray := if withinB cd 0 8 = true then doneS (resW cd x) else ⟨#[]⟩
def resE (cd : Int) (x : Nat) : Int := if withinB cd 0 8 = true then (resW cd x).err else 1
set_option maxHeartbeats 2000000 in
set_option maxRecDepth 100000 in
theorem deeds_ResultText (cd : Int) (hcd : I64 cd) (x : Nat) (hx : x < 18446744073709551616) (w : World) : Calls Tryz.prog 109 #[.agg #[.int .i64 cd, .float .f64 x]] w fun e w' =>
    e = .returned (.tuple #[.string (resS cd x), .int .i64 (resE cd x)]) ∧ Ext Non w w' := by
  go_enter Tryz.func109, Tryz.ntmps109
  go_wp2_with fail
  refine (deeds_within cd 0 8 _).mono ?_
  rintro e _ ⟨rfl, rfl⟩
  cases hc : withinB cd 0 8
  · have E1 : Hid (resS cd x = ⟨#[]⟩ ∧ resE cd x = 1) := Go.Lib.hid ⟨by unfold resS; rw [hc]; rfl, by unfold resE; rw [hc]; rfl⟩
    clear hc
    go_wp2
    go_returns
    exact ⟨by rw [E1.out.1, E1.out.2]; rfl, by (repeat (first | with_reducible (first | exact Ext.refl _ _ | assumption | refine Ext.upN ?_ | refine Ext.alloc ?_ _ | refine Ext.drew ?_ | refine Ext.drewN ?_ _ | refine Ext.up1N (by first | omega | simp) ?_) | refine Ext.alloc ?_ _ | refine Ext.setCell ?_ (.inr (by first | omega | simp)) _))⟩
  · have E1 : Hid (resS cd x = doneS (resW cd x) ∧ resE cd x = (resW cd x).err) := Go.Lib.hid ⟨by unfold resS; rw [hc]; rfl, by unfold resE; rw [hc]; rfl⟩
    clear hc
    have hcan : canonN x < 18446744073709551616 := canon_lt hx
    have B := Go.Lib.hid (Bx.newAt w [.int .i64 cd, .float .f64 x] 39 _ rfl)
    have XA : Ext Non w (w.alloc (.cells [Value.int .i64 cd, .float .f64 x].toArray 39)) := (Ext.refl _ _).alloc _
    go_upto_region 3 with fail
    generalize w.alloc (.cells #[Value.int .i64 cd, .float .f64 x] 39) = wA at *
    have c0 : wA.cell? ⟨w.heap.size, 0, none⟩ = some (.int .i64 cd) := B.out.cell rfl
    have c1 : wA.cell? ⟨w.heap.size, 1, none⟩ = some (.float .f64 x) := B.out.cell rfl
    have HL := Go.Lib.hid (Nat.le_refl wA.heap.size)
    have XB := Go.Lib.hid XA
    clear XA
    go_wp2_with fail
    refine (pack_New 64 (by decide) wA.heap.size wA HL.out).mono ?_
    rintro e _ ⟨b, rfl, hx1, hP, hb⟩
    obtain ⟨z0, rfl⟩ := hx1.ew
    have P0 := Go.Lib.hid hP
    clear hP hx1 hb
    go_wp2_with fail
    refine (pack_Byte wA.heap.size b _ cd hcd _ P0.out z0.ext.size).mono ?_
    rintro e _ ⟨rfl, hw1⟩
    obtain ⟨z1, rfl, hP, hs1⟩ := wrote_ew hw1 HL.out
    have P1 := Go.Lib.hid hP
    clear hP hw1 P0 hs1
    go_wp2_with fail
    refine (reals_Bits x _).mono ?_
    rintro e _ ⟨rfl, rfl⟩
    go_wp2_with fail
    refine (pack_Bits wA.heap.size b _ (canonN x) hcan _ P1.out z1.ext.size).mono ?_
    rintro e _ ⟨rfl, hw1⟩
    obtain ⟨z2, rfl, hP, hs2⟩ := wrote_ew hw1 HL.out
    have P2 : Hid (PW z2.on wA.heap.size b (resW cd x)) := Go.Lib.hid hP
    clear hP hw1 P1 hs2
    go_wp2_with fail
    refine Calls.ew (pack_Done wA.heap.size b _ _ P2.out) ?_
    rintro e x2 rfl
    have XC := XB.out
    go_wp2
    go_returns
    exact ⟨by rw [E1.out.1, E1.out.2]; rfl, XC.trans (z2.ext.trans x2.ext)⟩
end Go.Proofs.YtflpkoafebjfdaaGreat

/- Layer 13 (wire) in plain words: messages, which of them fit, their bytes. No program in sight. -/
namespace Go.Proofs.YtflpkoafebjfdaaGreat
open F64 Go.Lib
set_option linter.unusedVariables false
set_option linter.unusedSimpArgs false

/-- A link. -/
structure Lk where
  ep : Int
  mem : List Int
  sigs : List Sg
instance : Inhabited Lk := ⟨⟨0, [], []⟩⟩
def lkAt (l : List Lk) (j : Nat) : Lk := l.getD j default
theorem lkAt_get {l : List Lk} {j : Nat} (h : j < l.length) : lkAt l j = l[j] := by unfold lkAt; rw [List.getD_eq_getElem?_getD, List.getElem?_eq_getElem h]; rfl
/-- A message. -/
structure Ms where
  kind : Int
  ep : Int
  view : Int
  slot : Int
  req : Req
  res : Rsl
  text : ByteArray
  next : List Int
  sigs : List Sg
  chs : List Ch
  lks : List Lk
def nullM : Ms := ⟨0, 0, 0, 0, nullR, ⟨0, 0⟩, ByteArray.empty, [], [], [], []⟩
instance : Inhabited Ms := ⟨nullM⟩
/-- Certificates fit: behind a slot. -/
def ct13 (ep last : Int) (x : Ct) : Bool := slotB ep x.slot && decide (last < x.slot) && decide (0 ≤ x.view) && decide (x.view ≤ 15) && askedB x.req && sigsB x.sigs
def cts13 (ep : Int) : Int → List Ct → Bool
  | _, [] => true
  | last, x :: t => ct13 ep last x && cts13 ep x.slot t
def ch13top (c : Ch) : Bool := decide (0 ≤ c.from_) && decide (c.from_ < 16) && decide (1 ≤ c.view) && decide (c.view ≤ 15) && decide (c.certs.length ≤ 4) && decide (0 ≤ c.by_) && decide (c.by_ < 200)
def ch13 (ep : Int) (c : Ch) : Bool := ch13top c && cts13 ep 0 c.certs
def chs13 (ep view : Int) : Int → List Ch → Bool
  | _, [] => true
  | last, c :: t => decide (c.view = view) && decide (last < c.from_) && ch13 ep c && chs13 ep view c.from_ t
def turnedB (kind ep view : Int) (l : List Ch) : Bool := decide (1 ≤ l.length) && decide (l.length ≤ 10) && (decide (kind ≠ 6) || decide (l.length ≤ 1)) && chs13 ep view (-1) l
/-- Links: numbers from i + 1 on. -/
def lk13 (i : Nat) (l : Lk) : Bool := decide (l.ep = i + 1) && confB l.ep l.mem && sigsB l.sigs
def lks13 : Nat → List Lk → Bool
  | _, [] => true
  | i, l :: t => lk13 i l && lks13 (i + 1) t
def linkedB (ep : Int) (l : List Lk) : Bool := lks13 0 l && decide ((l.length : Int) = ep)
def wantI (kind : Int) (r : Req) : Int := if kind = 3 ∨ kind = 2 ∧ nullB r = false then 1 else 0
def spottedB (kind ep view slot : Int) (r : Req) (n : Nat) : Bool := decide (0 ≤ view) && decide (view ≤ 15) && slotB ep slot && askedB r && decide ((n : Int) = wantI kind r)
/-- How many things lie in the lists, as an int holds it. -/
def listsI (a b c d : Nat) : Int := IntKind.i64.wrap (IntKind.i64.wrap (IntKind.i64.wrap ((a : Int) + b) + c) + d)
/-- Is nothing left? -/
def emptyB (ep view slot : Int) (a b c d : Nat) (text : ByteArray) (r : Req) (x : Rsl) : Bool :=
  decide (ep = 0) && decide (view = 0) && decide (slot = 0) && decide (listsI a b c d = 0) && decide (text.size = 0) && nullB r && decide (x.code = 0) && decide (canonN x.real = 0)
/-- What the kind asks, and that the rest is zero. -/
def kindB (m : Ms) : Bool :=
  if m.kind = 1 then rightB m.req && decide (m.sigs.length = 1) && emptyB m.ep m.view m.slot m.next.length 0 m.chs.length m.lks.length m.text nullR m.res
  else if m.kind = 2 ∨ m.kind = 3 ∨ m.kind = 4 then spottedB m.kind m.ep m.view m.slot m.req m.sigs.length && emptyB 0 0 0 m.next.length 0 m.chs.length m.lks.length m.text nullR m.res
  else if m.kind = 5 then decide (m.slot = (m.ep + 1) * 4) && decide (m.text.size ≠ 0) && membersB m.next && decide (m.sigs.length = 2) && emptyB 0 m.view 0 0 0 m.chs.length m.lks.length ByteArray.empty m.req m.res
  else if m.kind = 6 ∨ m.kind = 7 then turnedB m.kind m.ep m.view m.chs && emptyB 0 0 m.slot m.next.length m.sigs.length 0 m.lks.length m.text m.req m.res
  else if m.kind = 8 then rightB m.req && decide (0 ≤ m.res.code) && decide (m.res.code ≤ 8) && emptyB 0 m.view m.slot m.next.length m.sigs.length m.chs.length m.lks.length m.text nullR ⟨0, 0⟩
  else if m.kind = 9 then emptyB 0 m.view m.slot m.next.length m.sigs.length m.chs.length m.lks.length m.text m.req m.res
  else if m.kind = 10 then decide (0 < m.ep) && decide (m.slot = m.ep * 4) && decide (m.text.size ≠ 0) && linkedB m.ep m.lks && emptyB 0 m.view 0 m.next.length 0 m.chs.length 0 ByteArray.empty m.req m.res
  else false
def fitsM (m : Ms) : Bool := decide (0 ≤ m.ep) && decide (m.ep ≤ 60) && sigsB m.sigs && kindB m

def wChange (W : Wr) (c : Ch) : Wr := wSig (wCerts (byteW (byteW (byteW W c.from_) c.view) c.certs.length) c.certs) ⟨c.by_, c.text⟩
def wLink (W : Wr) (l : Lk) : Wr := wSigs (byteW (textW W (confS l.ep l.mem).data.toList) l.sigs.length) l.sigs
def wHead (m : Ms) : Wr := textW (textW (textW (wordW (byteW (wordW (byteW (newW 65536) m.kind) m.ep) m.view) m.slot) (reqL m.req)) (resS m.res.code m.res.real).data.toList) m.text.data.toList
def wNext (m : Ms) : Wr := m.next.foldl byteW (byteW (wHead m) m.next.length)
def wSg (m : Ms) : Wr := wSigs (byteW (wNext m) m.sigs.length) m.sigs
def wChs (m : Ms) : Wr := m.chs.foldl wChange (byteW (wSg m) m.chs.length)
def wLks (m : Ms) : Wr := m.lks.foldl wLink (byteW (wChs m) m.lks.length)
def kindOk (k : Int) : Bool := decide (1 ≤ k) && decide (k ≤ 10)
def bytesS (m : Ms) : ByteArray := if kindOk m.kind = true then (if fitsM m = true then doneS (wLks m) else ⟨#[]⟩) else ⟨#[]⟩
def bytesE (m : Ms) : Int := if kindOk m.kind = true then (if fitsM m = true then (if (wLks m).err = 0 then 0 else 3) else 4) else 19
end Go.Proofs.YtflpkoafebjfdaaGreat

/- Data that nobody writes: it is told of a world in which all blocks that somebody owns are hidden. -/
namespace Go.Proofs.YtflpkoafebjfdaaGreat
open Go.RowKit Go.Lib F64
set_option linter.unusedSimpArgs false
set_option linter.unusedVariables false

open Classical in
/-- The world in which the coloured blocks are hidden. -/
noncomputable def hide (col : Nat → Nat) (w : World) : World := { w with heap := w.heap.mapIdx (fun k o => if col k = 0 then o else .cells #[] 0 (0, 0)) }
theorem hide_size (col : Nat → Nat) (w : World) : (hide col w).heap.size = w.heap.size := by simp [hide]
theorem hide_at {col : Nat → Nat} {w : World} {k : Nat} (h : col k = 0) : (hide col w).heap[k]? = w.heap[k]? := by
  unfold hide
  simp only [Array.getElem?_mapIdx, h, if_true]
  cases w.heap[k]? <;> rfl
theorem hide_off {col : Nat → Nat} {w : World} {k : Nat} (h : col k ≠ 0) (hk : k < w.heap.size) : (hide col w).heap[k]? = some (.cells #[] 0 (0, 0)) := by
  unfold hide
  simp only [Array.getElem?_mapIdx, if_neg h]
  rw [Array.getElem?_eq_getElem hk]; rfl
/-- The coloured blocks. -/
def Colo (col : Nat → Nat) : Nat → Prop := fun k => col k ≠ 0
/-- Old blocks keep their colours. -/
def ColX (w : World) (col col' : Nat → Nat) : Prop := ∀ k, k < w.heap.size → col' k = col k
theorem ColX.refl (w : World) (col : Nat → Nat) : ColX w col col := fun _ _ => rfl
theorem ColX.trans {w w' : World} {a b c : Nat → Nat} (h : ColX w a b) (k : ColX w' b c) (hw : w.heap.size ≤ w'.heap.size) : ColX w a c := fun i hi => (k i (Nat.lt_of_lt_of_le hi hw)).trans (h i hi)
/-- What is hidden may change, what is not stands. -/
theorem hide_ext {col col' : Nat → Nat} {w w' : World} (x : Ext (Colo col) w w') (hc : ColX w col col') : Ext Non (hide col w) (hide col' w') where
  os := x.os
  tape := x.tape
  output := x.output
  size := by rw [hide_size, hide_size]; exact x.size
  block := fun k hk _ => by
    rw [hide_size] at hk
    by_cases h : col k = 0
    · rw [hide_at h, hide_at ((hc k hk).trans h)]
      exact x.block k hk (fun e => e h)
    · rw [hide_off h hk, hide_off (fun e => h ((hc k hk).symm.trans e)) (Nat.lt_of_lt_of_le hk x.size)]
theorem hide_extN {col : Nat → Nat} {w w' : World} (x : Ext Non w w') : Ext Non (hide col w) (hide col w') := hide_ext (x.ofNon) (ColX.refl _ _)
theorem hide_cell {col : Nat → Nat} {w : World} {p : Addr} {v : Value} (h : (hide col w).cell? p = some v) : w.cell? p = some v ∧ col p.block = 0 := by
  have hl := lt_of_cell h
  rw [hide_size] at hl
  by_cases hc : col p.block = 0
  · refine ⟨?_, hc⟩
    have : (hide col w).cell? p = w.cell? p := World.cell?_of_block (hide_at hc)
    rw [← this]; exact h
  · unfold World.cell? at h
    rw [hide_off hc hl] at h
    split at h <;> simp_all
theorem hide_cellI {col : Nat → Nat} {w : World} {p : Addr} (h : col p.block = 0) : (hide col w).cell? p = w.cell? p := World.cell?_of_block (hide_at h)
theorem Ints.show {col : Nat → Nat} {w : World} {a : Option Addr} {cap : Nat} {xs : List Int} (h : Ints (hide col w) a cap xs) : Ints w a cap xs :=
  ⟨h.le, h.small, h.nil, fun j hj => by obtain ⟨b, o, e, c, i⟩ := h.at_ j hj; exact ⟨b, o, e, (hide_cell c).1, i⟩⟩
theorem Ints.hide {col : Nat → Nat} {w : World} {a : Option Addr} {cap : Nat} {xs : List Int} (h : Ints w a cap xs) (hc : ∀ b o, a = some ⟨b, o, none⟩ → col b = 0) : Ints (hide col w) a cap xs :=
  ⟨h.le, h.small, h.nil, fun j hj => by obtain ⟨b, o, e, c, i⟩ := h.at_ j hj; exact ⟨b, o, e, (hide_cellI (p := ⟨b, o + j, none⟩) (hc b o e)).trans c, i⟩⟩
theorem Sigs.show {col : Nat → Nat} {w : World} {a : Option Addr} {cap : Nat} {l : List Sg} (h : Sigs (hide col w) a cap l) : Sigs w a cap l :=
  ⟨h.le, h.small, fun j hj => by
    obtain ⟨b, o, e, hb, c0, c1, r⟩ := h.at_ j hj
    rw [hide_size] at hb
    exact ⟨b, o, e, hb, (hide_cell c0).1, (hide_cell c1).1, r⟩⟩
theorem Sigs.hide {col : Nat → Nat} {w : World} {a : Option Addr} {cap : Nat} {l : List Sg} (h : Sigs w a cap l) (hc : ∀ b o, a = some ⟨b, o, none⟩ → col b = 0) : Sigs (hide col w) a cap l :=
  ⟨h.le, h.small, fun j hj => by
    obtain ⟨b, o, e, hb, c0, c1, r⟩ := h.at_ j hj
    exact ⟨b, o, e, by rw [hide_size]; exact hb, (hide_cellI (p := ⟨b, _, none⟩) (hc b o e)).trans c0, (hide_cellI (p := ⟨b, _, none⟩) (hc b o e)).trans c1, r⟩⟩
theorem Certs.show {col : Nat → Nat} {w : World} {a : Option Addr} {cap : Nat} {l : List Ct} (h : Certs (hide col w) a cap l) : Certs w a cap l :=
  ⟨h.le, h.small, fun j hj => by
    obtain ⟨b, o, sa, scap, e, hb, c, s, r⟩ := h.at_ j hj
    rw [hide_size] at hb
    exact ⟨b, o, sa, scap, e, hb, fun i v hv => (hide_cell (c i v hv)).1, s.show, r⟩⟩
theorem Chs.show {col : Nat → Nat} {w : World} {a : Option Addr} {cap : Nat} {l : List Ch} (h : Chs (hide col w) a cap l) : Chs w a cap l :=
  ⟨h.le, h.small, fun j hj => by
    obtain ⟨b, o, ca, ccap, e, hb, c, s, r⟩ := h.at_ j hj
    rw [hide_size] at hb
    exact ⟨b, o, ca, ccap, e, hb, fun i v hv => (hide_cell (c i v hv)).1, s.show, r⟩⟩
/-- A row of links that can be read behind an address. -/
def Lk.cells (l : Lk) (a : Option Addr) (c : Nat) (sa : Option Addr) (sc : Nat) : List Value := [.int .i64 l.ep, .slice a l.mem.length c, .slice sa l.sigs.length sc]
structure Lks (w : World) (a : Option Addr) (cap : Nat) (l : List Lk) : Prop where
  le : l.length ≤ cap
  small : cap ≤ 9223372036854775807
  at_ : ∀ j (h : j < l.length), ∃ b o ma mc sa sc, a = some ⟨b, o, none⟩ ∧ b < w.heap.size ∧ (∀ i v, ((lkAt l j).cells ma mc sa sc)[i]? = some v → w.cell? ⟨b, o + j * 3 + i, none⟩ = some v) ∧ Ints w ma mc (lkAt l j).mem ∧ Sigs w sa sc (lkAt l j).sigs ∧ I64 (lkAt l j).ep
theorem Lks.extN {w w' : World} {a : Option Addr} {cap : Nat} {l : List Lk} (h : Lks w a cap l) (x : Ext Non w w') : Lks w' a cap l :=
  ⟨h.le, h.small, fun j hj => by
    obtain ⟨b, o, ma, mc, sa, sc, e, hb, c, s, t, r⟩ := h.at_ j hj
    exact ⟨b, o, ma, mc, sa, sc, e, Nat.lt_of_lt_of_le hb x.size, fun i v hv => (x.cell (p := ⟨b, o + j * 3 + i, none⟩) hb (fun f => f)).trans (c i v hv), s.extN x, t.extN x, r⟩⟩
theorem Lks.show {col : Nat → Nat} {w : World} {a : Option Addr} {cap : Nat} {l : List Lk} (h : Lks (hide col w) a cap l) : Lks w a cap l :=
  ⟨h.le, h.small, fun j hj => by
    obtain ⟨b, o, ma, mc, sa, sc, e, hb, c, s, t, r⟩ := h.at_ j hj
    rw [hide_size] at hb
    exact ⟨b, o, ma, mc, sa, sc, e, hb, fun i v hv => (hide_cell (c i v hv)).1, s.show, t.show, r⟩⟩
/-- A message's fields are such as a machine holds. -/
structure MsOk (m : Ms) : Prop where
  k : I64 m.kind
  e : I64 m.ep
  v : I64 m.view
  s : I64 m.slot
  r : ReqOk m.req
  c : I64 m.res.code
  x : m.res.real < 18446744073709551616
  t : m.text.size ≤ 9223372036854775807
/-- The addresses of a message's lists. -/
structure MA where
  na : Option Addr
  nc : Nat
  sa : Option Addr
  sc : Nat
  ca : Option Addr
  cc : Nat
  la : Option Addr
  lc : Nat
def nullA : MA := ⟨none, 0, none, 0, none, 0, none, 0⟩
def Ms.cells (m : Ms) (A : MA) : List Value :=
  [.int .i64 m.kind, .int .i64 m.ep, .int .i64 m.view, .int .i64 m.slot, .int .i64 m.req.client, .int .i64 m.req.stamp, .int .i64 m.req.op.kind, .string m.req.op.key, .float .f64 m.req.op.real, .int .i64 m.req.op.id,
   .int .i64 m.res.code, .float .f64 m.res.real, .string m.text, .slice A.na m.next.length A.nc, .slice A.sa m.sigs.length A.sc, .slice A.ca m.chs.length A.cc, .slice A.la m.lks.length A.lc]
/-- The lists of a message can be read. -/
structure MsW (w : World) (A : MA) (m : Ms) : Prop where
  n : Ints w A.na A.nc m.next
  s : Sigs w A.sa A.sc m.sigs
  c : Chs w A.ca A.cc m.chs
  l : Lks w A.la A.lc m.lks
  ok : MsOk m
theorem MsW.extN {w w' : World} {A : MA} {m : Ms} (h : MsW w A m) (x : Ext Non w w') : MsW w' A m := ⟨h.n.extN x, h.s.extN x, h.c.extN x, h.l.extN x, h.ok⟩
theorem MsW.show {col : Nat → Nat} {w : World} {A : MA} {m : Ms} (h : MsW (hide col w) A m) : MsW w A m := ⟨h.n.show, h.s.show, h.c.show, h.l.show, h.ok⟩
theorem Sigs.nil' (w : World) : Sigs w none 0 [] := ⟨by decide, by decide, fun j h => absurd h (Nat.not_lt_zero _)⟩
theorem Chs.nil' (w : World) : Chs w none 0 [] := ⟨by decide, by decide, fun j h => absurd h (Nat.not_lt_zero _)⟩
theorem Lks.nil' (w : World) : Lks w none 0 [] := ⟨by decide, by decide, fun j h => absurd h (Nat.not_lt_zero _)⟩
end Go.Proofs.YtflpkoafebjfdaaGreat

/- Rows of things with lists of their own, in a block of a colour; words for what a caller's data keep. -/
namespace Go.Proofs.YtflpkoafebjfdaaGreat
open Go.RowKit Go.Lib F64
set_option linter.unusedSimpArgs false
set_option linter.unusedVariables false

/-- The cells of a list of things. -/
def RowsR {α : Type} (R : α → List Value → Prop) : List α → List Value → Prop
  | [], vs => vs = []
  | x :: t, vs => ∃ v rest, vs = v ++ rest ∧ R x v ∧ RowsR R t rest
theorem RowsR.mono {α : Type} {R R' : α → List Value → Prop} (hR : ∀ x v, R x v → R' x v) : ∀ {l : List α} {vs : List Value}, RowsR R l vs → RowsR R' l vs
  | [], _, h => h
  | _ :: _, _, ⟨v, rest, e, h1, h2⟩ => ⟨v, rest, e, hR _ _ h1, h2.mono hR⟩
theorem RowsR.snoc {α : Type} {R : α → List Value → Prop} {x : α} {v : List Value} (hx : R x v) : ∀ {l : List α} {vs : List Value}, RowsR R l vs → RowsR R (l ++ [x]) (vs ++ v)
  | [], _, h => by
    have h : _ = [] := h
    subst h
    exact ⟨v, [], by simp, hx, rfl⟩
  | _ :: _, _, ⟨u, rest, e, h1, h2⟩ => ⟨u, rest ++ v, by rw [e, List.append_assoc], h1, h2.snoc hx⟩
theorem RowsR.append {α : Type} {R : α → List Value → Prop} {t : List α} {us : List Value} (ht : RowsR R t us) : ∀ {l : List α} {vs : List Value}, RowsR R l vs → RowsR R (l ++ t) (vs ++ us)
  | [], _, h => by
    have h : _ = [] := h
    subst h
    simpa using ht
  | _ :: _, _, ⟨u, rest, e, h1, h2⟩ => ⟨u, rest ++ us, by rw [e, List.append_assoc], h1, RowsR.append ht h2⟩
theorem RowsR.len {α : Type} {R : α → List Value → Prop} {k : Nat} (hk : ∀ x v, R x v → v.length = k) : ∀ {l : List α} {vs : List Value}, RowsR R l vs → vs.length = l.length * k
  | [], _, h => by
    have h : _ = [] := h
    subst h; simp
  | _ :: _, _, ⟨u, rest, e, h1, h2⟩ => by rw [e, List.length_append, hk _ _ h1, h2.len hk, List.length_cons, Nat.succ_mul]; omega
/-- The j-th one. -/
theorem RowsR.at {α : Type} {R : α → List Value → Prop} {k : Nat} (hk : ∀ x v, R x v → v.length = k) : ∀ {l : List α} {vs : List Value}, RowsR R l vs → ∀ j (h : j < l.length), ∃ v, R l[j] v ∧ ∀ i u, v[i]? = some u → vs[j * k + i]? = some u
  | [], _, _, j, h => absurd h (Nat.not_lt_zero _)
  | x :: t, _, ⟨u, rest, e, h1, h2⟩, 0, _ => ⟨u, h1, fun i w hw => by
      have := (List.getElem?_eq_some_iff.1 hw).1
      rw [e, Nat.zero_mul, Nat.zero_add, List.getElem?_append_left this]; exact hw⟩
  | x :: t, _, ⟨u, rest, e, h1, h2⟩, j + 1, h => by
    obtain ⟨v, hv, hi⟩ := h2.at hk j (by simpa using h)
    refine ⟨v, hv, fun i w hw => ?_⟩
    have hl := hk _ _ h1
    have := hi i w hw
    rw [e, List.getElem?_append_right (by rw [hl, Nat.succ_mul]; omega), hl, Nat.succ_mul]
    rw [← this]; congr 1; omega
theorem RowsR.take {α : Type} {R : α → List Value → Prop} {k : Nat} (hk : ∀ x v, R x v → v.length = k) : ∀ {l : List α} {vs : List Value}, RowsR R l vs → ∀ n, RowsR R (l.take n) (vs.take (n * k))
  | [], _, h, n => by
    have h : _ = [] := h
    subst h; simp; rfl
  | x :: t, _, h, 0 => by simp; rfl
  | x :: t, _, ⟨u, rest, e, h1, h2⟩, n + 1 => by
    refine ⟨u, rest.take (n * k), ?_, h1, h2.take hk n⟩
    have hl := hk _ _ h1
    rw [e, List.take_append, hl, List.take_of_length_le (by rw [hl, Nat.succ_mul]; omega)]
    congr 2; rw [Nat.succ_mul]; omega
/-- A row in a block of its own, of a colour. -/
structure OwnC {α : Type} (w : World) (col : Nat → Nat) (n : Nat) (e : TypeId) (size : Nat) (v : Value) (R : α → List Value → Prop) (l : List α) : Prop where
  ex : ∃ xs, w.ownsRow 0 e size v l.length xs ∧ RowsR R l xs
  c : ∀ k, Row v k → col k = n
theorem OwnC.ext {α : Type} {S : Nat → Prop} {w w' : World} {col col' : Nat → Nat} {n : Nat} {e : TypeId} {size : Nat} {v : Value} {R R' : α → List Value → Prop} {l : List α} (h : OwnC w col n e size v R l) (x : Ext S w w') (hS : ∀ k, k < w.heap.size → S k → col k ≠ n) (hc : ColX w col col') (hR : ∀ x v, R x v → R' x v) : OwnC w' col' n e size v R' l := by
  obtain ⟨xs, ho, hr⟩ := h.ex
  refine ⟨⟨xs, ownR_ext ho x (fun k hk hs => hS k (own_row ho k hk).2 hs (h.c k hk)), hr.mono hR⟩, fun k hk => (hc k (own_row ho k hk).2).trans (h.c k hk)⟩
theorem OwnC.nil {α : Type} (w : World) (col : Nat → Nat) (n : Nat) (e : TypeId) (size : Nat) (R : α → List Value → Prop) : OwnC w col n e size (.slice none 0 0) R ([] : List α) :=
  ⟨⟨[], World.ownsRow_nil _ _ _ _, rfl⟩, fun k hk => by unfold Row Value.ownBlock at hk; cases hk⟩
/-- Its slice. -/
theorem OwnC.slice {α : Type} {w : World} {col : Nat → Nat} {n : Nat} {e : TypeId} {size : Nat} {v : Value} {R : α → List Value → Prop} {l : List α} (h : OwnC w col n e size v R l) : ∃ a cap, v = .slice a l.length cap ∧ l.length ≤ cap ∧ cap ≤ 9223372036854775807 ∧ (∀ k o, a = some ⟨k, o, none⟩ → Row v k ∧ o = 0) := by
  obtain ⟨xs, ho, -⟩ := h.ex
  rcases ho.2 with ⟨e, hn⟩ | ⟨g, cap, cur, e, h1, h2, h3, h4, h5, h6⟩
  · rw [hn]; exact ⟨none, 0, e, Nat.le_refl _, by omega, fun k o q => by cases q⟩
  · exact ⟨_, cap, e, h3, by unfold maxLen at h4; omega, fun k o q => by injection q with q; injection q with q1 q2; subst q1; subst q2; exact ⟨by rw [e]; rfl, rfl⟩⟩
/-- The j-th thing's cells. -/
theorem OwnC.at {α : Type} {w : World} {col : Nat → Nat} {n : Nat} {e : TypeId} {size : Nat} {v : Value} {R : α → List Value → Prop} {l : List α} (h : OwnC w col n e size v R l) (hk : ∀ x v, R x v → v.length = size) (j : Nat) (hj : j < l.length) : ∃ g cap u, v = .slice (some ⟨g, 0, none⟩) l.length cap ∧ g < w.heap.size ∧ R l[j] u ∧ ∀ i x, u[i]? = some x → w.cell? ⟨g, j * size + i, none⟩ = some x := by
  obtain ⟨xs, ho, hr⟩ := h.ex
  obtain ⟨u, hu, hi⟩ := hr.at hk j hj
  rcases ho.2 with ⟨e, hn⟩ | ⟨g, cap, cur, e, h1, h2, h3, h4, h5, h6⟩
  · omega
  · refine ⟨g, cap, u, e, (Array.getElem?_eq_some_iff.1 h2).1, hu, fun i x hx => ?_⟩
    have h7 := hi i x hx
    rw [← h6] at h7
    have h8 := (List.getElem?_eq_some_iff.1 h7).1
    rw [List.getElem?_take_of_lt (by rw [List.length_take] at h8; omega)] at h7
    simp only [World.cell?, h2]
    simpa using h7
/-- A row of a colour; or an empty one without room, wherever it points. -/
structure OwnZ {α : Type} (w : World) (col : Nat → Nat) (n : Nat) (e : TypeId) (size : Nat) (v : Value) (R : α → List Value → Prop) (l : List α) : Prop where
  ex : OwnC w col n e size v R l ∨ (l = [] ∧ ∃ a, v = .slice (some a) 0 0)
  c : ∀ k, Row v k → col k = n
  lt : ∀ k, Row v k → k < w.heap.size
theorem OwnC.z {α : Type} {w : World} {col : Nat → Nat} {n : Nat} {e : TypeId} {size : Nat} {v : Value} {R : α → List Value → Prop} {l : List α} (h : OwnC w col n e size v R l) : OwnZ w col n e size v R l :=
  ⟨.inl h, h.c, fun k hk => by obtain ⟨xs, ho, -⟩ := h.ex; exact (own_row ho k hk).2⟩
theorem OwnC.lt {α : Type} {w : World} {col : Nat → Nat} {n : Nat} {e : TypeId} {size : Nat} {v : Value} {R : α → List Value → Prop} {l : List α} (h : OwnC w col n e size v R l) : ∀ k, Row v k → k < w.heap.size := h.z.lt
theorem OwnZ.ext {α : Type} {S : Nat → Prop} {w w' : World} {col col' : Nat → Nat} {n : Nat} {e : TypeId} {size : Nat} {v : Value} {R R' : α → List Value → Prop} {l : List α} (h : OwnZ w col n e size v R l) (x : Ext S w w') (hS : ∀ k, k < w.heap.size → S k → col k ≠ n) (hc : ColX w col col') (hR : ∀ x v, R x v → R' x v) : OwnZ w' col' n e size v R' l :=
  ⟨h.ex.imp (fun q => q.ext x hS hc hR) id, fun k hk => (hc k (h.lt k hk)).trans (h.c k hk), fun k hk => Nat.lt_of_lt_of_le (h.lt k hk) x.size⟩
theorem OwnZ.row {α : Type} {w : World} {col : Nat → Nat} {n : Nat} {e : TypeId} {size : Nat} {v : Value} {R : α → List Value → Prop} {l : List α} (h : OwnZ w col n e size v R l) : ∃ xs, (w.ownsRow 0 e size v l.length xs ∨ (l.length = 0 ∧ xs = [] ∧ ∃ a, v = .slice (some a) 0 0)) ∧ RowsR R l xs := by
  rcases h.ex with q | ⟨rfl, q⟩
  · obtain ⟨xs, ho, hr⟩ := q.ex
    exact ⟨xs, .inl ho, hr⟩
  · exact ⟨[], .inr ⟨rfl, rfl, q⟩, rfl⟩
theorem OwnZ.slice {α : Type} {w : World} {col : Nat → Nat} {n : Nat} {e : TypeId} {size : Nat} {v : Value} {R : α → List Value → Prop} {l : List α} (h : OwnZ w col n e size v R l) : ∃ a cap, v = .slice a l.length cap ∧ l.length ≤ cap ∧ cap ≤ 9223372036854775807 := by
  rcases h.ex with q | ⟨rfl, a, rfl⟩
  · obtain ⟨a, c, e, h1, h2, -⟩ := q.slice
    exact ⟨a, c, e, h1, h2⟩
  · exact ⟨_, _, rfl, Nat.le_refl _, by omega⟩
theorem OwnZ.at {α : Type} {w : World} {col : Nat → Nat} {n : Nat} {e : TypeId} {size : Nat} {v : Value} {R : α → List Value → Prop} {l : List α} (h : OwnZ w col n e size v R l) (hk : ∀ x v, R x v → v.length = size) (j : Nat) (hj : j < l.length) : ∃ g cap u, v = .slice (some ⟨g, 0, none⟩) l.length cap ∧ g < w.heap.size ∧ R l[j] u ∧ ∀ i x, u[i]? = some x → w.cell? ⟨g, j * size + i, none⟩ = some x := by
  rcases h.ex with q | ⟨rfl, -⟩
  · exact q.at hk j hj
  · exact absurd hj (Nat.not_lt_zero _)
end Go.Proofs.YtflpkoafebjfdaaGreat

/- Layers 15 (votes) and 10 (lineage) in plain words. No program in sight. -/
namespace Go.Proofs.YtflpkoafebjfdaaGreat
open F64
set_option linter.unusedVariables false
set_option linter.unusedSimpArgs false

/-- The text of a state. -/
def stL (slot : Int) (t : ByteArray) : List UInt8 := big1 83 ++ big4 slot ++ t.data.toList
def stS (slot : Int) (t : ByteArray) : ByteArray := if okN slot 4294967295 = true then ⟨(stL slot t).toArray⟩ else ⟨#[]⟩
/-- The error of what a vote signs. -/
def vtxE (ep : Int) (mem : List Int) (text : ByteArray) (next : List Int) : Int := if confB ep mem = true then (if text.size = 0 then 1 else confE (ep + 1) next) else 1
def vtxS (ep : Int) (mem : List Int) (text : ByteArray) (next : List Int) : ByteArray := if vtxE ep mem text next = 0 then stS ((ep + 1) * 4) text else ⟨#[]⟩
def vtxC (ep : Int) (mem : List Int) (text : ByteArray) (next : List Int) : ByteArray := if vtxE ep mem text next = 0 then confS (ep + 1) next else ⟨#[]⟩
/-- A vote, a tally. -/
structure Vo where
  st : ByteArray
  cf : ByteArray
  text : ByteArray
  next : List Int
structure Tl where
  ep : Int
  mem : List Int
  votes : List (Int × Vo)
  count : List ((ByteArray × ByteArray) × Int)
def newTl (ep : Int) (mem : List Int) : Tl := ⟨ep, mem, [], []⟩
def sameSg (a b : Sg) : Bool := decide (a.by_ = b.by_) && decide (a.text = b.text)
def sameSgs : List Sg → List Sg → Bool
  | [], [] => true
  | a :: s, b :: t => sameSg a b && sameSgs s t
  | _, _ => false
def tlAddE (t : Tl) (id : Int) (text : ByteArray) (next : List Int) (sigs : List Sg) : Int :=
  if vtxE t.ep t.mem text next = 0 then (if hasB t.mem id = true then (if sameSgs sigs [⟨id, vtxS t.ep t.mem text next⟩, ⟨id, vtxC t.ep t.mem text next⟩] = true then (if hasG t.votes id = true then 7 else 0) else 16) else 8) else vtxE t.ep t.mem text next
def cntG (c : List ((ByteArray × ByteArray) × Int)) (k : ByteArray × ByteArray) : Int := (getG c k).getD 0
def tlPut (t : Tl) (id : Int) (v : Vo) : Tl := { t with votes := setG t.votes id v, count := setG t.count (v.st, v.cf) (cntG t.count (v.st, v.cf) + 1) }
def tlAdd (t : Tl) (id : Int) (text : ByteArray) (next : List Int) (sigs : List Sg) : Tl :=
  if tlAddE t id text next sigs = 0 then tlPut t id ⟨vtxS t.ep t.mem text next, vtxC t.ep t.mem text next, text, next⟩ else t
/-- What was settled. -/
structure St where
  text : ByteArray
  sigs : List Sg
  lk : Lk
def nullSt : St := ⟨ByteArray.empty, [], ⟨0, [], []⟩⟩
instance : Inhabited St := ⟨nullSt⟩
def stepSt (t : Tl) (o : St) (id : Int) : St :=
  match getG t.votes id with
  | some v => if cntG t.count (v.st, v.cf) < quorumI t.mem.length then o else ⟨v.text, o.sigs ++ [⟨id, v.st⟩], ⟨t.ep + 1, v.next, o.lk.sigs ++ [⟨id, v.cf⟩]⟩⟩
  | none => o
def settledG (t : Tl) : St := t.mem.foldl (stepSt t) nullSt
def settledB (t : Tl) : Bool := decide (0 < (settledG t).sigs.length)

/-- A tracker: its configurations, who signed them (but the first). -/
structure Tk where
  confs : List (Int × List Int)
  sigs : List (List Sg)
def newTk (mem : List Int) : Tk := ⟨[(0, mem)], []⟩
def cfAt (l : List (Int × List Int)) (j : Nat) : Int × List Int := l.getD j (0, [])
theorem cfAt_get {l : List (Int × List Int)} {j : Nat} (h : j < l.length) : cfAt l j = l[j] := by unfold cfAt; rw [List.getD_eq_getElem?_getD, List.getElem?_eq_getElem h]; rfl
def validE (ep : Int) (mem : List Int) (l : Lk) : Int :=
  if confB ep mem = true then (if confE l.ep l.mem = 0 then (if l.ep - 1 = ep then (if provesB ep mem (confS l.ep l.mem) l.sigs = true then 0 else 15) else 12) else 1) else 1
def validsE (ep : Int) (mem : List Int) : List Lk → Int
  | [] => 0
  | l :: t => if validE ep mem l = 0 then validsE l.ep l.mem t else validE ep mem l
/-- Are the members those that are known, as far as both go? -/
def agreeK (cs : List (Int × List Int)) : List Lk → Bool
  | [] => true
  | l :: t => match cs with
    | [] => true
    | c :: cs => decide (c.2 = l.mem) && agreeK cs t
def checkKE (t : Tk) (l : List Lk) : Int :=
  if validsE (cfAt t.confs 0).1 (cfAt t.confs 0).2 l = 0 then (if agreeK (t.confs.drop 1) l = true then (if l.length < t.confs.length then 17 else 0) else 22) else validsE (cfAt t.confs 0).1 (cfAt t.confs 0).2 l
def takeE (t : Tk) (l : List Lk) : Int := if 64 < l.length then 3 else checkKE t l
def growK (t : Tk) (l : Lk) : Tk := ⟨t.confs ++ [(l.ep, l.mem)], t.sigs ++ [l.sigs]⟩
def takeK (t : Tk) (l : List Lk) : Tk := if takeE t l = 0 then l.foldl growK ⟨t.confs.take 1, []⟩ else t
def lastK (t : Tk) : Int × List Int := cfAt t.confs (t.confs.length - 1)
def addKE (t : Tk) (l : Lk) : Int := validE (lastK t).1 (lastK t).2 l
def addK (t : Tk) (l : Lk) : Tk := if addKE t l = 0 then growK t l else t
def chainK (t : Tk) : List Lk := (List.range t.sigs.length).map fun i => ⟨(cfAt t.confs (i + 1)).1, (cfAt t.confs (i + 1)).2, t.sigs.getD i []⟩
end Go.Proofs.YtflpkoafebjfdaaGreat

/- Layer 15 in plain words: what holds of a tally at all times. No program in sight. -/
namespace Go.Proofs.YtflpkoafebjfdaaGreat
open F64
set_option linter.unusedVariables false
set_option linter.unusedSimpArgs false

/-- A tally: votes of members, one of each; counts are counted votes. -/
structure TlI (t : Tl) : Prop where
  conf : confB t.ep t.mem = true
  vk : ∀ p ∈ t.votes, hasB t.mem p.1 = true
  nd : (t.votes.map (·.1)).Nodup
  cnt : ∀ p ∈ t.count, 0 ≤ p.2 ∧ p.2 ≤ t.votes.length
  cl : t.count.length ≤ t.votes.length
theorem nodupL_len : ∀ (l m : List Int), l.Nodup → (∀ x ∈ l, x ∈ m) → l.length ≤ m.length
  | [], _, _, _ => Nat.zero_le _
  | x :: t, m, nd, h => by
    have nd' := List.nodup_cons.1 nd
    have hx := h x (.head _)
    have := nodupL_len t (m.erase x) nd'.2 (fun y hy => (List.mem_erase_of_ne (fun e => nd'.1 (by rw [← e]; exact hy))).2 (h y (.tail _ hy)))
    rw [List.length_erase_of_mem hx] at this
    have := List.length_pos_of_mem hx
    simp; omega
theorem TlI.len {t : Tl} (h : TlI t) : t.votes.length ≤ t.mem.length := by
  have := nodupL_len (t.votes.map (·.1)) t.mem h.nd (fun x hx => by
    obtain ⟨p, hp, rfl⟩ := List.mem_map.1 hx
    exact (hasB_iff t.mem _).1 (h.vk p hp))
  simpa using this
theorem TlI.new {ep : Int} {mem : List Int} (h : confB ep mem = true) : TlI (newTl ep mem) := ⟨h, fun p hp => (nomatch hp), by simp [newTl], fun p hp => (nomatch hp), Nat.le_refl 0⟩
theorem TlI.cntb {t : Tl} (h : TlI t) (k : ByteArray × ByteArray) : 0 ≤ cntG t.count k ∧ cntG t.count k ≤ t.votes.length := by
  unfold cntG
  cases hg : getG t.count k with
  | none => exact ⟨Int.le_refl _, Int.natCast_nonneg _⟩
  | some n => exact h.cnt _ (getG_mem hg)
theorem TlI.put {t : Tl} (h : TlI t) {id : Int} (hi : hasB t.mem id = true) (hn : hasG t.votes id = false) (v : Vo) : TlI (tlPut t id v) where
  conf := h.conf
  vk := fun p hp => by
    have hp : p ∈ setG t.votes id v := hp
    rw [setG_new v hn] at hp
    rcases List.mem_append.1 hp with hp | hp
    · exact h.vk p hp
    · have : p = (id, v) := by simpa using hp
      rw [this]; exact hi
  nd := by
    show ((setG t.votes id v).map (·.1)).Nodup
    rw [setG_new v hn]
    have hno : ∀ p ∈ t.votes, p.1 ≠ id := by
      have : getG t.votes id = none := by unfold hasG at hn; cases hg : getG t.votes id; rfl; rw [hg] at hn; cases hn
      exact getG_none.1 this
    rw [List.map_append, List.nodup_append]
    refine ⟨h.nd, by simp, fun a ha b hb => ?_⟩
    obtain ⟨p, hp, rfl⟩ := List.mem_map.1 ha
    have hb : b = id := by simpa using hb
    rw [hb]; exact hno p hp
  cl := by
    show (setG t.count (v.st, v.cf) (cntG t.count (v.st, v.cf) + 1)).length ≤ (setG t.votes id v).length
    rw [setG_new v hn, List.length_append]
    have := h.cl
    unfold setG
    split
    · rw [List.length_map]; omega
    · rw [List.length_append]; simp; omega
  cnt := fun p hp => by
    have hp : p ∈ setG t.count (v.st, v.cf) (cntG t.count (v.st, v.cf) + 1) := hp
    show 0 ≤ p.2 ∧ p.2 ≤ ((setG t.votes id v).length : Int)
    rw [setG_new v hn, List.length_append]
    have hc := h.cntb (v.st, v.cf)
    have key : p.2 = cntG t.count (v.st, v.cf) + 1 ∨ p ∈ t.count := by
      unfold setG at hp
      split at hp
      · obtain ⟨q, hq, e⟩ := List.mem_map.1 hp
        split at e
        · left; rw [← e]
        · right; rw [← e]; exact hq
      · rcases List.mem_append.1 hp with hp | hp
        · exact .inr hp
        · left
          have : p = ((v.st, v.cf), cntG t.count (v.st, v.cf) + 1) := by simpa using hp
          rw [this]
    have hl : ((t.votes.length + [(id, v)].length : Nat) : Int) = (t.votes.length : Int) + 1 := by simp
    rw [hl]
    rcases key with e | e
    · rw [e]; omega
    · have := h.cnt p e; omega
theorem tlAdd_facts {t : Tl} {id : Int} {text : ByteArray} {next : List Int} {sigs : List Sg} (h : tlAddE t id text next sigs = 0) : hasB t.mem id = true ∧ hasG t.votes id = false ∧ vtxE t.ep t.mem text next = 0 := by
  unfold tlAddE at h
  split at h
  · rename_i h0
    split at h
    · rename_i h1
      split at h
      · split at h
        · cases h
        · rename_i h2
          exact ⟨h1, by simpa using h2, h0⟩
      · cases h
    · cases h
  · rename_i h0; exact absurd h h0
theorem TlI.add {t : Tl} (h : TlI t) (id : Int) (text : ByteArray) (next : List Int) (sigs : List Sg) : TlI (tlAdd t id text next sigs) := by
  unfold tlAdd
  split
  · rename_i he
    obtain ⟨h1, h2, h3⟩ := tlAdd_facts he
    exact h.put h1 h2 _
  · exact h
end Go.Proofs.YtflpkoafebjfdaaGreat
