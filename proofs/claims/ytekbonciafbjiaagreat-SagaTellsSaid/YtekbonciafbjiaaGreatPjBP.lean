/- Joined texts: Saga15. What each proves stands at its head; no conditions beside those in its theorems. -/
import Derived.Test.YtekbonciafbjiaaGreatPjAA
import Derived.Test.YtekbonciafbjiaaGreatPjAC
import Derived.Test.YtekbonciafbjiaaGreatPjAD
import Derived.Test.YtekbonciafbjiaaGreatPjAG
import Derived.Test.YtekbonciafbjiaaGreatPjAH
import Derived.Test.YtekbonciafbjiaaGreatPjAI
import Derived.Test.YtekbonciafbjiaaGreatPjAN
import Derived.Test.YtekbonciafbjiaaGreatPjAJ
import Derived.Test.YtekbonciafbjiaaGreatPjAS
import Derived.Test.YtekbonciafbjiaaGreatPjAT
import Derived.Test.YtekbonciafbjiaaGreatPjAU
import Derived.Test.YtekbonciafbjiaaGreatPjAV
import Derived.Test.YtekbonciafbjiaaGreatPjAY
import Derived.Test.YtekbonciafbjiaaGreatPjAL
import Derived.Test.YtekbonciafbjiaaGreatPjAM
import Derived.Test.YtekbonciafbjiaaGreatPjAO
import Derived.Test.YtekbonciafbjiaaGreatPjAR
import Derived.Test.YtekbonciafbjiaaGreatPjAW
import Derived.Test.YtekbonciafbjiaaGreatPjBC
import Derived.Test.YtekbonciafbjiaaGreatPjAE
import Derived.Test.YtekbonciafbjiaaGreatPjAP
import Derived.Test.YtekbonciafbjiaaGreatPjBA
import Derived.Test.YtekbonciafbjiaaGreatPjBI
import Derived.Test.YtekbonciafbjiaaGreatPjAB
import Derived.Test.YtekbonciafbjiaaGreatPjBN
/- Contracts of layer 22: what a saga tells: State. -/
namespace Go.Proofs.YtekbonciafbjiaaGreat
open Go.RowKit Go.Lib F64
set_option linter.unusedSimpArgs false
set_option linter.unusedVariables false
attribute [local go_sem] run_store_float
attribute [local go_sem low] EW.cellN EW.frozN alloc_cell_or alloc_froz_or EW.cellF EW.frozF EW.cell1 EW.froz1
attribute [local go_sem] relAt relUpon
/-- What State answers of a ledger: its text, turned or not. -/
def stS (g : Lg) (t : Bool) : ByteArray := if t = true then (if turnE g = 0 then ledgS (turnL g) else ByteArray.empty) else ledgS g
def stB (g : Lg) (t : Bool) : Bool := !t || decide (turnE g = 0)
set_option maxHeartbeats 1000000 in
set_option maxRecDepth 100000 in
theorem saga_State (base s : Nat) (v1 v2 : Value) (xs : List Int) (l : List Req) (bs : List (Nat × Nat)) (hm : membersB xs = true) (hl : l.length ≤ 1000) (hq : ∀ q ∈ l, q.op.real < 18446744073709551616) (n : Nat) (hn : n ≤ l.length) (t : Bool) (w : World) (h : SgW base w s v1 v2 xs l bs) :
    Calls Tryz.prog 8 #[.pointer (some ⟨s, 0, none⟩), .int .i64 n, .bool t] w fun e w' => e = .returned (.tuple #[.string (stS (gAt xs l n) t), .bool (stB (gAt xs l n) t)]) ∧ Ext Non w w' := by
  obtain ⟨g1, cap1, rfl, hc1, hcs1, hcell⟩ := book_cell h
  obtain ⟨a2, c2, rfl, h2, h3⟩ := own_shape h.r2
  have nb := h.nb
  have hlt : n < bs.length := by omega
  obtain ⟨b, m, hbm⟩ : ∃ b m, bs[n] = (b, m) := ⟨_, _, rfl⟩
  have q0 : w.cell? ⟨s, 0, none⟩ = some (.slice (some ⟨g1, 0, none⟩) (l.length + 1) cap1) := h.box.cell rfl
  have q1 : w.cell? ⟨s, 1, none⟩ = some (.slice a2 l.length c2) := by rw [← stepsL_len l (newL xs)]; exact h.box.cell rfl
  have q2 : w.cell? ⟨g1, n, none⟩ = some (.pointer (some ⟨b, 0, none⟩)) := by have := hcell _ hlt; rw [hbm] at this; exact this
  have HLD : Hid (LD w b m (gAt xs l n)) := Go.Lib.hid (by have := h.ld _ hlt; rw [hbm] at this; exact this)
  have I := Go.Lib.hid (gAt_inv' hm hq n : Inv (gAt xs l n))
  have hsp := h.box.lt
  clear h hcell hbm h2 h3 hm hq
  generalize gAt xs l n = g at *
  have d1 : decide ((n : Int) < 0) = false := decide_eq_false (by omega)
  have d3 : decide ((l.length : Int) < (n : Int)) = false := decide_eq_false (by omega)
  have e5 : (0 : Int) ≤ (n : Int) ∧ (n : Int) < (l.length : Int) + 1 := by omega
  obtain ⟨e5a, e5b⟩ := e5
  cases t
  · have HS : Hid (ledgS g = stS g false) := Go.Lib.hid rfl
    have HB : Hid (stB g false = true) := Go.Lib.hid rfl
    go_enter Tryz.func8, Tryz.ntmps8
    go_wp2_with fail
    refine (ledger_Copy b m g I.out _ (HLD.out.extN (by (repeat (first | with_reducible (first | exact Ext.refl _ _ | assumption | refine Ext.upN ?_ | refine Ext.alloc ?_ _ | refine Ext.drew ?_ | refine Ext.drewN ?_ _ | refine Ext.up1N (by first | omega | simp) ?_) | refine Ext.alloc ?_ _ | refine Ext.setCell ?_ (.inr (by first | omega | simp)) _))))).mono ?_
    rintro e _ ⟨b2, m2, rfl, hx, hL2, hb2, hm2⟩
    obtain ⟨x2, rfl⟩ := hx.ew
    have HL2 := Go.Lib.hid hL2
    clear hx hL2
    go_wp2_with fail
    refine Calls.ew (ledger_Text b2 m2 g I.out _ (HL2.out.extN (by (repeat (first | with_reducible (first | exact Ext.refl _ _ | assumption | refine Ext.upN ?_ | refine Ext.alloc ?_ _ | refine Ext.drew ?_ | refine Ext.drewN ?_ _ | refine Ext.up1N (by first | omega | simp) ?_) | refine Ext.alloc ?_ _ | refine Ext.setCell ?_ (.inr (by first | omega | simp)) _))))) ?_
    rintro e x3 rfl
    rw [HS.out]
    go_wp2
    go_returns
    exact ⟨by rw [HB.out]; rfl, by (repeat (first | with_reducible (first | exact Ext.refl _ _ | assumption | refine Ext.upN ?_ | refine Ext.alloc ?_ _ | refine Ext.drew ?_ | refine Ext.drewN ?_ _ | refine Ext.up1N (by first | omega | simp) ?_) | refine Ext.alloc ?_ _ | refine Ext.setCell ?_ (.inr (by first | omega | simp)) _))⟩
  · have IT := Go.Lib.hid (inv_turn I.out)
    by_cases ht : turnE g = 0
    · have HS : Hid (ledgS (turnL g) = stS g true) := Go.Lib.hid (by unfold stS; rw [if_pos rfl, if_pos ht])
      have HB : Hid (stB g true = true) := Go.Lib.hid (by unfold stB; rw [decide_eq_true ht]; rfl)
      have HT := Go.Lib.hid ht
      clear ht
      go_enter Tryz.func8, Tryz.ntmps8
      go_wp2_with fail
      refine (ledger_Copy b m g I.out _ (HLD.out.extN (by (repeat (first | with_reducible (first | exact Ext.refl _ _ | assumption | refine Ext.upN ?_ | refine Ext.alloc ?_ _ | refine Ext.drew ?_ | refine Ext.drewN ?_ _ | refine Ext.up1N (by first | omega | simp) ?_) | refine Ext.alloc ?_ _ | refine Ext.setCell ?_ (.inr (by first | omega | simp)) _))))).mono ?_
      rintro e _ ⟨b2, m2, rfl, hx, hL2, hb2, hm2⟩
      obtain ⟨x2, rfl⟩ := hx.ew
      have HL2 := Go.Lib.hid hL2
      clear hx hL2
      go_wp2_with fail
      refine (ledger_Turn b2 m2 g I.out _ (HL2.out.extN (by (repeat (first | with_reducible (first | exact Ext.refl _ _ | assumption | refine Ext.upN ?_ | refine Ext.alloc ?_ _ | refine Ext.drew ?_ | refine Ext.drewN ?_ _ | refine Ext.up1N (by first | omega | simp) ?_) | refine Ext.alloc ?_ _ | refine Ext.setCell ?_ (.inr (by first | omega | simp)) _))))).mono ?_
      rintro e w5 ⟨rfl, hT, hLT⟩
      have HLT := Go.Lib.hid hLT
      rw [HT.out]
      obtain ⟨x5, hx5⟩ := (x2.ext.own hT (fun j e => by have : j = b2 := e; omega)).ew
      subst hx5
      clear hT hLT
      go_wp2_with fail
      refine Calls.ew (ledger_Text b2 m2 _ IT.out _ (HLT.out.extN (by (repeat (first | with_reducible (first | exact Ext.refl _ _ | assumption | refine Ext.upN ?_ | refine Ext.alloc ?_ _ | refine Ext.drew ?_ | refine Ext.drewN ?_ _ | refine Ext.up1N (by first | omega | simp) ?_) | refine Ext.alloc ?_ _ | refine Ext.setCell ?_ (.inr (by first | omega | simp)) _))))) ?_
      rintro e x3 rfl
      rw [HS.out]
      go_wp2
      go_returns
      exact ⟨by rw [HB.out]; rfl, by (repeat (first | with_reducible (first | exact Ext.refl _ _ | assumption | refine Ext.upN ?_ | refine Ext.alloc ?_ _ | refine Ext.drew ?_ | refine Ext.drewN ?_ _ | refine Ext.up1N (by first | omega | simp) ?_) | refine Ext.alloc ?_ _ | refine Ext.setCell ?_ (.inr (by first | omega | simp)) _))⟩
    · have HS : Hid (stS g true = ByteArray.empty) := Go.Lib.hid (by unfold stS; rw [if_pos rfl, if_neg ht])
      have HB : Hid (stB g true = false) := Go.Lib.hid (by unfold stB; rw [decide_eq_false ht]; rfl)
      have hne : (turnE g != 0) = true := by simpa using ht
      clear ht
      go_enter Tryz.func8, Tryz.ntmps8
      go_wp2_with fail
      refine (ledger_Copy b m g I.out _ (HLD.out.extN (by (repeat (first | with_reducible (first | exact Ext.refl _ _ | assumption | refine Ext.upN ?_ | refine Ext.alloc ?_ _ | refine Ext.drew ?_ | refine Ext.drewN ?_ _ | refine Ext.up1N (by first | omega | simp) ?_) | refine Ext.alloc ?_ _ | refine Ext.setCell ?_ (.inr (by first | omega | simp)) _))))).mono ?_
      rintro e _ ⟨b2, m2, rfl, hx, hL2, hb2, hm2⟩
      obtain ⟨x2, rfl⟩ := hx.ew
      have HL2 := Go.Lib.hid hL2
      clear hx hL2
      go_wp2_with fail
      refine (ledger_Turn b2 m2 g I.out _ (HL2.out.extN (by (repeat (first | with_reducible (first | exact Ext.refl _ _ | assumption | refine Ext.upN ?_ | refine Ext.alloc ?_ _ | refine Ext.drew ?_ | refine Ext.drewN ?_ _ | refine Ext.up1N (by first | omega | simp) ?_) | refine Ext.alloc ?_ _ | refine Ext.setCell ?_ (.inr (by first | omega | simp)) _))))).mono ?_
      rintro e w5 ⟨rfl, hT, hLT⟩
      obtain ⟨x5, hx5⟩ := (x2.ext.own hT (fun j e => by have : j = b2 := e; omega)).ew
      subst hx5
      clear hT hLT
      generalize turnE g = te at *
      go_wp2
      go_returns
      exact ⟨by rw [HB.out, HS.out]; rfl, by (repeat (first | with_reducible (first | exact Ext.refl _ _ | assumption | refine Ext.upN ?_ | refine Ext.alloc ?_ _ | refine Ext.drew ?_ | refine Ext.drewN ?_ _ | refine Ext.up1N (by first | omega | simp) ?_) | refine Ext.alloc ?_ _ | refine Ext.setCell ?_ (.inr (by first | omega | simp)) _))⟩
set_option maxHeartbeats 1000000 in
set_option maxRecDepth 100000 in
theorem saga_State_no (base s : Nat) (v1 v2 : Value) (xs : List Int) (l : List Req) (bs : List (Nat × Nat)) (n : Int) (hno : n < 0 ∨ (l.length : Int) < n) (t : Bool) (w : World) (h : SgW base w s v1 v2 xs l bs) :
    Calls Tryz.prog 8 #[.pointer (some ⟨s, 0, none⟩), .int .i64 n, .bool t] w fun e w' => e = .returned (.tuple #[.string ByteArray.empty, .bool false]) ∧ Ext Non w w' := by
  obtain ⟨a2, c2, rfl, h2, h3⟩ := own_shape h.r2
  have q1 : w.cell? ⟨s, 1, none⟩ = some (.slice a2 l.length c2) := by rw [← stepsL_len l (newL xs)]; exact h.box.cell rfl
  clear h h2 h3
  by_cases h1 : n < 0
  · go_enter Tryz.func8, Tryz.ntmps8
    go_wp2
    go_returns
    exact ⟨rfl, by (repeat (first | with_reducible (first | exact Ext.refl _ _ | assumption | refine Ext.upN ?_ | refine Ext.alloc ?_ _ | refine Ext.drew ?_ | refine Ext.drewN ?_ _ | refine Ext.up1N (by first | omega | simp) ?_) | refine Ext.alloc ?_ _ | refine Ext.setCell ?_ (.inr (by first | omega | simp)) _))⟩
  · have d1 : decide (n < 0) = false := decide_eq_false h1
    have d3 : decide ((l.length : Int) < n) = true := decide_eq_true (by omega)
    go_enter Tryz.func8, Tryz.ntmps8
    go_wp2
    go_returns
    exact ⟨rfl, by (repeat (first | with_reducible (first | exact Ext.refl _ _ | assumption | refine Ext.upN ?_ | refine Ext.alloc ?_ _ | refine Ext.drew ?_ | refine Ext.drewN ?_ _ | refine Ext.up1N (by first | omega | simp) ?_) | refine Ext.alloc ?_ _ | refine Ext.setCell ?_ (.inr (by first | omega | simp)) _))⟩
end Go.Proofs.YtekbonciafbjiaaGreat
