/- Joined texts: SagaBeginsP, Saga15, Saga16. What each proves stands at its head; no conditions beside those in its theorems. -/
import Derived.Test.YtekbonciafbjiaaSagaP3
import Derived.Test.YtekbonciafbjiaaTermsP
import Derived.Test.YtekbonciafbjiaaSaga4
import Derived.Test.YtekbonciafbjiaaJoinG
import Derived.Test.YtekbonciafbjiaaSaga5
import Derived.Test.YtekbonciafbjiaaTerms
/- Layer 22 in plain words: what the beginning of a log tells. No program in sight. -/
namespace Go.Proofs.Ytekbonciafbjiaa
open F64
set_option linter.unusedVariables false
set_option linter.unusedSimpArgs false
theorem stepsL_take : ∀ (l : List Req) (g : Lg) (k : Nat), stepsL g (l.take k) = (stepsL g l).take k
  | [], g, k => by rw [List.take_nil]; show [] = List.take k []; rw [List.take_nil]
  | a :: t, g, 0 => rfl
  | a :: t, g, k + 1 => by
    show spOf g a :: stepsL (stepL g a) (t.take k) = spOf g a :: (stepsL (stepL g a) t).take k
    rw [stepsL_take t]
theorem outI_take (q : Req) : ∀ (sp : List Sp) (k i : Nat), outI q (sp.take k) = some i → outI q sp = some i ∧ i < k
  | [], k, i, h => by rw [List.take_nil] at h; cases h
  | a :: t, 0, i, h => by cases h
  | a :: t, k + 1, i, h => by
    have h : (if hitB q a = true then some 0 else (outI q (t.take k)).map (· + 1)) = some i := h
    show (if hitB q a = true then some 0 else (outI q t).map (· + 1)) = some i ∧ i < k + 1
    by_cases ha : hitB q a = true
    · rw [if_pos ha] at h ⊢
      injection h with h
      exact ⟨by rw [h], by omega⟩
    · rw [if_neg ha] at h ⊢
      cases ho : outI q (t.take k) with
      | none => rw [ho] at h; cases h
      | some j =>
        rw [ho] at h
        injection h with h
        have h : j + 1 = i := h
        obtain ⟨h1, h2⟩ := outI_take q t k j ho
        rw [h1]
        exact ⟨by rw [← h]; rfl, by omega⟩
theorem gAt_take (xs : List Int) (l : List Req) {j k : Nat} (h : j ≤ k) : gAt xs (l.take k) j = gAt xs l j := by
  unfold gAt
  rw [List.take_take, Nat.min_eq_left h]
theorem memN_take (xs : List Int) (l : List Req) {n k : Nat} (h : 4 * n ≤ k) : memN xs (l.take k) n = memN xs l n := by
  unfold memN
  rw [List.take_take, Nat.min_eq_left h]
/-- Is there a configuration of that epoch? -/
def cfB (len : Nat) (n : Int) : Bool := decide (0 ≤ n) && decide (n ≤ 60) && decide (4 * n ≤ (len : Int))
/-- As many bad members as there may be. -/
def badN (bad mem : List Int) : Nat := (mem.filter (hasB bad)).length
def fewS (bad mem : List Int) : Bool := decide ((badN bad mem : Int) ≤ faultsI (mem.length : Int))
def soundTo (xs : List Int) (l : List Req) (bad : List Int) (e : Nat) : Bool := (List.range e).all (fun i => fewS bad (memN xs l i))
/-- How many epochs there are. -/
def epN (len : Nat) : Nat := min 60 (len / 4) + 1
def soundB (xs : List Int) (l : List Req) (bad : List Int) : Bool := soundTo xs l bad (epN l.length)
theorem soundTo_succ (xs : List Int) (l : List Req) (bad : List Int) (e : Nat) : soundTo xs l bad (e + 1) = (soundTo xs l bad e && fewS bad (memN xs l e)) := by
  unfold soundTo
  rw [List.range_succ, List.all_append]
  simp
theorem soundTo_no {xs : List Int} {l : List Req} {bad : List Int} {e : Nat} {n : Nat} (h : e < n) (hf : fewS bad (memN xs l e) = false) : soundTo xs l bad n = false := by
  unfold soundTo
  rw [List.all_eq_false]
  exact ⟨e, List.mem_range.2 h, by rw [hf]; simp⟩
theorem soundB_take {xs : List Int} {l : List Req} {bad : List Int} {k : Nat} (hk : k ≤ l.length) (h : soundB xs l bad = true) : soundB xs (l.take k) bad = true := by
  unfold soundB soundTo at *
  rw [List.all_eq_true] at *
  intro i hi
  have hi := List.mem_range.1 hi
  rw [List.length_take, Nat.min_eq_left hk] at hi
  unfold epN at hi
  have h1 := h i (List.mem_range.2 (by unfold epN; omega))
  rw [memN_take xs l (show 4 * i ≤ k by omega)]
  exact h1
theorem badN_take (bad mem : List Int) (i : Nat) (h : i < mem.length) : badN bad (mem.take (i + 1)) = badN bad (mem.take i) + (if hasB bad mem[i] = true then 1 else 0) := by
  unfold badN
  rw [List.take_succ_eq_append_getElem h, List.filter_append, List.length_append]
  congr 1
  by_cases hb : hasB bad mem[i] = true
  · rw [List.filter_cons_of_pos hb, if_pos hb]; rfl
  · rw [List.filter_cons_of_neg hb, if_neg hb]; rfl
end Go.Proofs.Ytekbonciafbjiaa

/- Contracts of layer 22: what a saga tells: State. -/
namespace Go.Proofs.Ytekbonciafbjiaa
open Go.RowKit Go.Lib F64
set_option linter.unusedSimpArgs false
set_option linter.unusedVariables false
attribute [local go_sem] run_store_float
attribute [local go_sem low] EW.cellN EW.frozN alloc_cell_or alloc_froz_or EW.cellF EW.frozF EW.cell1 EW.froz1
attribute [local go_sem] relAt relUpon
/-- What State answers of a ledger: its text, turned or not. -/
def stS (g : Lg) (t : Bool) : ByteArray := if t = true then (if turnE g = 0 then ledgS (turnL g) else ByteArray.empty) else ledgS g
def stB (g : Lg) (t : Bool) : Bool := !t || decide (turnE g = 0)
set_option maxHeartbeats 1000000 in
set_option maxRecDepth 100000 in
theorem saga_State (base s : Nat) (v1 v2 : Value) (xs : List Int) (l : List Req) (bs : List (Nat × Nat)) (hm : membersB xs = true) (hl : l.length ≤ 1000) (hq : ∀ q ∈ l, q.op.real < 18446744073709551616) (n : Nat) (hn : n ≤ l.length) (t : Bool) (w : World) (h : SgW base w s v1 v2 xs l bs) :
    Calls Try.prog 24 #[.pointer (some ⟨s, 0, none⟩), .int .i64 n, .bool t] w fun e w' => e = .returned (.tuple #[.string (stS (gAt xs l n) t), .bool (stB (gAt xs l n) t)]) ∧ Ext Non w w' := by
  obtain ⟨g1, cap1, rfl, hc1, hcs1, hcell⟩ := book_cell h
  obtain ⟨a2, c2, rfl, h2, h3⟩ := own_shape h.r2
  have nb := h.nb
  have hlt : n < bs.length := by omega
  obtain ⟨b, m, hbm⟩ : ∃ b m, bs[n] = (b, m) := ⟨_, _, rfl⟩
  have q0 : w.cell? ⟨s, 0, none⟩ = some (.slice (some ⟨g1, 0, none⟩) (l.length + 1) cap1) := h.box.cell rfl
  have q1 : w.cell? ⟨s, 1, none⟩ = some (.slice a2 l.length c2) := by rw [← stepsL_len l (newL xs)]; exact h.box.cell rfl
  have q2 : w.cell? ⟨g1, n, none⟩ = some (.pointer (some ⟨b, 0, none⟩)) := by have := hcell _ hlt; rw [hbm] at this; exact this
  have HLD : Hid (LD w b m (gAt xs l n)) := Go.Lib.hid (by have := h.ld _ hlt; rw [hbm] at this; exact this)
  have I := Go.Lib.hid (gAt_inv' hm hq n : Inv (gAt xs l n))
  have hsp := h.box.lt
  clear h hcell hbm h2 h3 hm hq
  generalize gAt xs l n = g at *
  have d1 : decide ((n : Int) < 0) = false := decide_eq_false (by omega)
  have d3 : decide ((l.length : Int) < (n : Int)) = false := decide_eq_false (by omega)
  have e5 : (0 : Int) ≤ (n : Int) ∧ (n : Int) < (l.length : Int) + 1 := by omega
  obtain ⟨e5a, e5b⟩ := e5
  cases t
  · have HS : Hid (ledgS g = stS g false) := Go.Lib.hid rfl
    have HB : Hid (stB g false = true) := Go.Lib.hid rfl
    go_enter Try.func24, Try.ntmps24
    go_wp2_with fail
    refine (ledger_Copy b m g I.out _ (HLD.out.extN (by (repeat (first | with_reducible exact Ext.refl _ _ | assumption | with_reducible refine Ext.upN ?_ | with_reducible refine Ext.alloc ?_ _ | with_reducible refine Ext.upA (by assumption) ?_ | with_reducible refine Ext.upW ?_ | with_reducible refine Ext.drew ?_ | with_reducible refine Ext.drewN ?_ _ | with_reducible refine Ext.upF ?_ | with_reducible refine Ext.upFF (by first | omega | simp) ?_ | with_reducible refine Ext.setCellsF _ _ _ (by first | omega | simp) ?_ | with_reducible refine Ext.setCellF _ _ _ (by first | omega | simp) ?_ | with_reducible refine Ext.upFN (by first | omega | simp) ?_ | with_reducible refine Ext.up1F (by first | omega | simp) ?_ | with_reducible refine Ext.up1N (by first | omega | simp) ?_ | with_reducible refine Ext.setCell ?_ (.inr (by first | omega | simp)) _ | refine Ext.alloc ?_ _ | refine Ext.setCellF _ _ _ (by first | omega | simp) ?_ | refine Ext.setCell ?_ (.inr (by first | omega | simp)) _))))).mono ?_
    rintro e _ ⟨b2, m2, rfl, hx, hL2, hb2, hm2⟩
    obtain ⟨x2, rfl⟩ := hx.ew
    have HL2 := Go.Lib.hid hL2
    clear hx hL2
    go_wp2_with fail
    refine Calls.ew (ledger_Text b2 m2 g I.out _ (HL2.out.extN (by (repeat (first | with_reducible exact Ext.refl _ _ | assumption | with_reducible refine Ext.upN ?_ | with_reducible refine Ext.alloc ?_ _ | with_reducible refine Ext.upA (by assumption) ?_ | with_reducible refine Ext.upW ?_ | with_reducible refine Ext.drew ?_ | with_reducible refine Ext.drewN ?_ _ | with_reducible refine Ext.upF ?_ | with_reducible refine Ext.upFF (by first | omega | simp) ?_ | with_reducible refine Ext.setCellsF _ _ _ (by first | omega | simp) ?_ | with_reducible refine Ext.setCellF _ _ _ (by first | omega | simp) ?_ | with_reducible refine Ext.upFN (by first | omega | simp) ?_ | with_reducible refine Ext.up1F (by first | omega | simp) ?_ | with_reducible refine Ext.up1N (by first | omega | simp) ?_ | with_reducible refine Ext.setCell ?_ (.inr (by first | omega | simp)) _ | refine Ext.alloc ?_ _ | refine Ext.setCellF _ _ _ (by first | omega | simp) ?_ | refine Ext.setCell ?_ (.inr (by first | omega | simp)) _))))) ?_
    rintro e x3 rfl
    rw [HS.out]
    go_wp2
    go_returns
    exact ⟨by rw [HB.out]; rfl, by (repeat (first | with_reducible exact Ext.refl _ _ | assumption | with_reducible refine Ext.upN ?_ | with_reducible refine Ext.alloc ?_ _ | with_reducible refine Ext.upA (by assumption) ?_ | with_reducible refine Ext.upW ?_ | with_reducible refine Ext.drew ?_ | with_reducible refine Ext.drewN ?_ _ | with_reducible refine Ext.upF ?_ | with_reducible refine Ext.upFF (by first | omega | simp) ?_ | with_reducible refine Ext.setCellsF _ _ _ (by first | omega | simp) ?_ | with_reducible refine Ext.setCellF _ _ _ (by first | omega | simp) ?_ | with_reducible refine Ext.upFN (by first | omega | simp) ?_ | with_reducible refine Ext.up1F (by first | omega | simp) ?_ | with_reducible refine Ext.up1N (by first | omega | simp) ?_ | with_reducible refine Ext.setCell ?_ (.inr (by first | omega | simp)) _ | refine Ext.alloc ?_ _ | refine Ext.setCellF _ _ _ (by first | omega | simp) ?_ | refine Ext.setCell ?_ (.inr (by first | omega | simp)) _))⟩
  · have IT := Go.Lib.hid (inv_turn I.out)
    by_cases ht : turnE g = 0
    · have HS : Hid (ledgS (turnL g) = stS g true) := Go.Lib.hid (by unfold stS; rw [if_pos rfl, if_pos ht])
      have HB : Hid (stB g true = true) := Go.Lib.hid (by unfold stB; rw [decide_eq_true ht]; rfl)
      have HT := Go.Lib.hid ht
      clear ht
      go_enter Try.func24, Try.ntmps24
      go_wp2_with fail
      refine (ledger_Copy b m g I.out _ (HLD.out.extN (by (repeat (first | with_reducible exact Ext.refl _ _ | assumption | with_reducible refine Ext.upN ?_ | with_reducible refine Ext.alloc ?_ _ | with_reducible refine Ext.upA (by assumption) ?_ | with_reducible refine Ext.upW ?_ | with_reducible refine Ext.drew ?_ | with_reducible refine Ext.drewN ?_ _ | with_reducible refine Ext.upF ?_ | with_reducible refine Ext.upFF (by first | omega | simp) ?_ | with_reducible refine Ext.setCellsF _ _ _ (by first | omega | simp) ?_ | with_reducible refine Ext.setCellF _ _ _ (by first | omega | simp) ?_ | with_reducible refine Ext.upFN (by first | omega | simp) ?_ | with_reducible refine Ext.up1F (by first | omega | simp) ?_ | with_reducible refine Ext.up1N (by first | omega | simp) ?_ | with_reducible refine Ext.setCell ?_ (.inr (by first | omega | simp)) _ | refine Ext.alloc ?_ _ | refine Ext.setCellF _ _ _ (by first | omega | simp) ?_ | refine Ext.setCell ?_ (.inr (by first | omega | simp)) _))))).mono ?_
      rintro e _ ⟨b2, m2, rfl, hx, hL2, hb2, hm2⟩
      obtain ⟨x2, rfl⟩ := hx.ew
      have HL2 := Go.Lib.hid hL2
      clear hx hL2
      go_wp2_with fail
      refine (ledger_Turn b2 m2 g I.out _ (HL2.out.extN (by (repeat (first | with_reducible exact Ext.refl _ _ | assumption | with_reducible refine Ext.upN ?_ | with_reducible refine Ext.alloc ?_ _ | with_reducible refine Ext.upA (by assumption) ?_ | with_reducible refine Ext.upW ?_ | with_reducible refine Ext.drew ?_ | with_reducible refine Ext.drewN ?_ _ | with_reducible refine Ext.upF ?_ | with_reducible refine Ext.upFF (by first | omega | simp) ?_ | with_reducible refine Ext.setCellsF _ _ _ (by first | omega | simp) ?_ | with_reducible refine Ext.setCellF _ _ _ (by first | omega | simp) ?_ | with_reducible refine Ext.upFN (by first | omega | simp) ?_ | with_reducible refine Ext.up1F (by first | omega | simp) ?_ | with_reducible refine Ext.up1N (by first | omega | simp) ?_ | with_reducible refine Ext.setCell ?_ (.inr (by first | omega | simp)) _ | refine Ext.alloc ?_ _ | refine Ext.setCellF _ _ _ (by first | omega | simp) ?_ | refine Ext.setCell ?_ (.inr (by first | omega | simp)) _))))).mono ?_
      rintro e w5 ⟨rfl, hT, hLT⟩
      have HLT := Go.Lib.hid hLT
      rw [HT.out]
      obtain ⟨x5, hx5⟩ := (x2.ext.own hT (fun j e => by have : j = b2 := e; omega)).ew
      subst hx5
      clear hT hLT
      go_wp2_with fail
      refine Calls.ew (ledger_Text b2 m2 _ IT.out _ (HLT.out.extN (by (repeat (first | with_reducible exact Ext.refl _ _ | assumption | with_reducible refine Ext.upN ?_ | with_reducible refine Ext.alloc ?_ _ | with_reducible refine Ext.upA (by assumption) ?_ | with_reducible refine Ext.upW ?_ | with_reducible refine Ext.drew ?_ | with_reducible refine Ext.drewN ?_ _ | with_reducible refine Ext.upF ?_ | with_reducible refine Ext.upFF (by first | omega | simp) ?_ | with_reducible refine Ext.setCellsF _ _ _ (by first | omega | simp) ?_ | with_reducible refine Ext.setCellF _ _ _ (by first | omega | simp) ?_ | with_reducible refine Ext.upFN (by first | omega | simp) ?_ | with_reducible refine Ext.up1F (by first | omega | simp) ?_ | with_reducible refine Ext.up1N (by first | omega | simp) ?_ | with_reducible refine Ext.setCell ?_ (.inr (by first | omega | simp)) _ | refine Ext.alloc ?_ _ | refine Ext.setCellF _ _ _ (by first | omega | simp) ?_ | refine Ext.setCell ?_ (.inr (by first | omega | simp)) _))))) ?_
      rintro e x3 rfl
      rw [HS.out]
      go_wp2
      go_returns
      exact ⟨by rw [HB.out]; rfl, by (repeat (first | with_reducible exact Ext.refl _ _ | assumption | with_reducible refine Ext.upN ?_ | with_reducible refine Ext.alloc ?_ _ | with_reducible refine Ext.upA (by assumption) ?_ | with_reducible refine Ext.upW ?_ | with_reducible refine Ext.drew ?_ | with_reducible refine Ext.drewN ?_ _ | with_reducible refine Ext.upF ?_ | with_reducible refine Ext.upFF (by first | omega | simp) ?_ | with_reducible refine Ext.setCellsF _ _ _ (by first | omega | simp) ?_ | with_reducible refine Ext.setCellF _ _ _ (by first | omega | simp) ?_ | with_reducible refine Ext.upFN (by first | omega | simp) ?_ | with_reducible refine Ext.up1F (by first | omega | simp) ?_ | with_reducible refine Ext.up1N (by first | omega | simp) ?_ | with_reducible refine Ext.setCell ?_ (.inr (by first | omega | simp)) _ | refine Ext.alloc ?_ _ | refine Ext.setCellF _ _ _ (by first | omega | simp) ?_ | refine Ext.setCell ?_ (.inr (by first | omega | simp)) _))⟩
    · have HS : Hid (stS g true = ByteArray.empty) := Go.Lib.hid (by unfold stS; rw [if_pos rfl, if_neg ht])
      have HB : Hid (stB g true = false) := Go.Lib.hid (by unfold stB; rw [decide_eq_false ht]; rfl)
      have hne : (turnE g != 0) = true := by simpa using ht
      clear ht
      go_enter Try.func24, Try.ntmps24
      go_wp2_with fail
      refine (ledger_Copy b m g I.out _ (HLD.out.extN (by (repeat (first | with_reducible exact Ext.refl _ _ | assumption | with_reducible refine Ext.upN ?_ | with_reducible refine Ext.alloc ?_ _ | with_reducible refine Ext.upA (by assumption) ?_ | with_reducible refine Ext.upW ?_ | with_reducible refine Ext.drew ?_ | with_reducible refine Ext.drewN ?_ _ | with_reducible refine Ext.upF ?_ | with_reducible refine Ext.upFF (by first | omega | simp) ?_ | with_reducible refine Ext.setCellsF _ _ _ (by first | omega | simp) ?_ | with_reducible refine Ext.setCellF _ _ _ (by first | omega | simp) ?_ | with_reducible refine Ext.upFN (by first | omega | simp) ?_ | with_reducible refine Ext.up1F (by first | omega | simp) ?_ | with_reducible refine Ext.up1N (by first | omega | simp) ?_ | with_reducible refine Ext.setCell ?_ (.inr (by first | omega | simp)) _ | refine Ext.alloc ?_ _ | refine Ext.setCellF _ _ _ (by first | omega | simp) ?_ | refine Ext.setCell ?_ (.inr (by first | omega | simp)) _))))).mono ?_
      rintro e _ ⟨b2, m2, rfl, hx, hL2, hb2, hm2⟩
      obtain ⟨x2, rfl⟩ := hx.ew
      have HL2 := Go.Lib.hid hL2
      clear hx hL2
      go_wp2_with fail
      refine (ledger_Turn b2 m2 g I.out _ (HL2.out.extN (by (repeat (first | with_reducible exact Ext.refl _ _ | assumption | with_reducible refine Ext.upN ?_ | with_reducible refine Ext.alloc ?_ _ | with_reducible refine Ext.upA (by assumption) ?_ | with_reducible refine Ext.upW ?_ | with_reducible refine Ext.drew ?_ | with_reducible refine Ext.drewN ?_ _ | with_reducible refine Ext.upF ?_ | with_reducible refine Ext.upFF (by first | omega | simp) ?_ | with_reducible refine Ext.setCellsF _ _ _ (by first | omega | simp) ?_ | with_reducible refine Ext.setCellF _ _ _ (by first | omega | simp) ?_ | with_reducible refine Ext.upFN (by first | omega | simp) ?_ | with_reducible refine Ext.up1F (by first | omega | simp) ?_ | with_reducible refine Ext.up1N (by first | omega | simp) ?_ | with_reducible refine Ext.setCell ?_ (.inr (by first | omega | simp)) _ | refine Ext.alloc ?_ _ | refine Ext.setCellF _ _ _ (by first | omega | simp) ?_ | refine Ext.setCell ?_ (.inr (by first | omega | simp)) _))))).mono ?_
      rintro e w5 ⟨rfl, hT, hLT⟩
      obtain ⟨x5, hx5⟩ := (x2.ext.own hT (fun j e => by have : j = b2 := e; omega)).ew
      subst hx5
      clear hT hLT
      generalize turnE g = te at *
      go_wp2
      go_returns
      exact ⟨by rw [HB.out, HS.out]; rfl, by (repeat (first | with_reducible exact Ext.refl _ _ | assumption | with_reducible refine Ext.upN ?_ | with_reducible refine Ext.alloc ?_ _ | with_reducible refine Ext.upA (by assumption) ?_ | with_reducible refine Ext.upW ?_ | with_reducible refine Ext.drew ?_ | with_reducible refine Ext.drewN ?_ _ | with_reducible refine Ext.upF ?_ | with_reducible refine Ext.upFF (by first | omega | simp) ?_ | with_reducible refine Ext.setCellsF _ _ _ (by first | omega | simp) ?_ | with_reducible refine Ext.setCellF _ _ _ (by first | omega | simp) ?_ | with_reducible refine Ext.upFN (by first | omega | simp) ?_ | with_reducible refine Ext.up1F (by first | omega | simp) ?_ | with_reducible refine Ext.up1N (by first | omega | simp) ?_ | with_reducible refine Ext.setCell ?_ (.inr (by first | omega | simp)) _ | refine Ext.alloc ?_ _ | refine Ext.setCellF _ _ _ (by first | omega | simp) ?_ | refine Ext.setCell ?_ (.inr (by first | omega | simp)) _))⟩
set_option maxHeartbeats 1000000 in
set_option maxRecDepth 100000 in
theorem saga_State_no (base s : Nat) (v1 v2 : Value) (xs : List Int) (l : List Req) (bs : List (Nat × Nat)) (n : Int) (hno : n < 0 ∨ (l.length : Int) < n) (t : Bool) (w : World) (h : SgW base w s v1 v2 xs l bs) :
    Calls Try.prog 24 #[.pointer (some ⟨s, 0, none⟩), .int .i64 n, .bool t] w fun e w' => e = .returned (.tuple #[.string ByteArray.empty, .bool false]) ∧ Ext Non w w' := by
  obtain ⟨a2, c2, rfl, h2, h3⟩ := own_shape h.r2
  have q1 : w.cell? ⟨s, 1, none⟩ = some (.slice a2 l.length c2) := by rw [← stepsL_len l (newL xs)]; exact h.box.cell rfl
  clear h h2 h3
  by_cases h1 : n < 0
  · go_enter Try.func24, Try.ntmps24
    go_wp2
    go_returns
    exact ⟨rfl, by (repeat (first | with_reducible exact Ext.refl _ _ | assumption | with_reducible refine Ext.upN ?_ | with_reducible refine Ext.alloc ?_ _ | with_reducible refine Ext.upA (by assumption) ?_ | with_reducible refine Ext.upW ?_ | with_reducible refine Ext.drew ?_ | with_reducible refine Ext.drewN ?_ _ | with_reducible refine Ext.upF ?_ | with_reducible refine Ext.upFF (by first | omega | simp) ?_ | with_reducible refine Ext.setCellsF _ _ _ (by first | omega | simp) ?_ | with_reducible refine Ext.setCellF _ _ _ (by first | omega | simp) ?_ | with_reducible refine Ext.upFN (by first | omega | simp) ?_ | with_reducible refine Ext.up1F (by first | omega | simp) ?_ | with_reducible refine Ext.up1N (by first | omega | simp) ?_ | with_reducible refine Ext.setCell ?_ (.inr (by first | omega | simp)) _ | refine Ext.alloc ?_ _ | refine Ext.setCellF _ _ _ (by first | omega | simp) ?_ | refine Ext.setCell ?_ (.inr (by first | omega | simp)) _))⟩
  · have d1 : decide (n < 0) = false := decide_eq_false h1
    have d3 : decide ((l.length : Int) < n) = true := decide_eq_true (by omega)
    go_enter Try.func24, Try.ntmps24
    go_wp2
    go_returns
    exact ⟨rfl, by (repeat (first | with_reducible exact Ext.refl _ _ | assumption | with_reducible refine Ext.upN ?_ | with_reducible refine Ext.alloc ?_ _ | with_reducible refine Ext.upA (by assumption) ?_ | with_reducible refine Ext.upW ?_ | with_reducible refine Ext.drew ?_ | with_reducible refine Ext.drewN ?_ _ | with_reducible refine Ext.upF ?_ | with_reducible refine Ext.upFF (by first | omega | simp) ?_ | with_reducible refine Ext.setCellsF _ _ _ (by first | omega | simp) ?_ | with_reducible refine Ext.setCellF _ _ _ (by first | omega | simp) ?_ | with_reducible refine Ext.upFN (by first | omega | simp) ?_ | with_reducible refine Ext.up1F (by first | omega | simp) ?_ | with_reducible refine Ext.up1N (by first | omega | simp) ?_ | with_reducible refine Ext.setCell ?_ (.inr (by first | omega | simp)) _ | refine Ext.alloc ?_ _ | refine Ext.setCellF _ _ _ (by first | omega | simp) ?_ | refine Ext.setCell ?_ (.inr (by first | omega | simp)) _))⟩
end Go.Proofs.Ytekbonciafbjiaa

/- Contracts of layer 22: what a saga tells: any epoch's Conf; Sound. -/
namespace Go.Proofs.Ytekbonciafbjiaa
open Go.RowKit Go.Lib F64
set_option linter.unusedSimpArgs false
set_option linter.unusedVariables false
attribute [local go_sem] run_store_float
attribute [local go_sem low] EW.cellN EW.frozN alloc_cell_or alloc_froz_or EW.cellF EW.frozF EW.cell1 EW.froz1
attribute [local go_sem] relAt relUpon
theorem info_confS : (Try.prog.info? 24).map (·.size) = some 2 := by kernel_rfl
def cfE (len : Nat) (n : Int) : Int := if cfB len n = true then n else 0
theorem cfB_iff {len : Nat} {n : Int} : cfB len n = true ↔ 0 ≤ n ∧ n ≤ 60 ∧ 4 * n ≤ len := by
  unfold cfB; simp only [Bool.and_eq_true, decide_eq_true_eq]; omega
theorem saga_ConfA (base s : Nat) (v1 v2 : Value) (xs : List Int) (l : List Req) (bs : List (Nat × Nat)) (hm : membersB xs = true) (hl : l.length ≤ 244) (hq : ∀ q ∈ l, AskOk q) (n : Int) (hn : I64 n) (w : World) (h : SgW base w s v1 v2 xs l bs) :
    Calls Try.prog 16 #[.pointer (some ⟨s, 0, none⟩), .int .i64 n] w fun e w' => ∃ a cap ys, e = .returned (.tuple #[.agg #[.int .i64 (cfE l.length n), .slice a (ys : List Int).length cap], .bool (cfB l.length n)]) ∧ Ints w' a cap ys ∧ Ext Non w w' ∧ (cfB l.length n = true → ys = memN xs l n.toNat) := by
  by_cases hc : cfB l.length n = true
  · obtain ⟨h0, h1, h2⟩ := cfB_iff.1 hc
    obtain ⟨k, rfl⟩ : ∃ k : Nat, n = k := ⟨n.toNat, by omega⟩
    refine (saga_Conf_yes base s v1 v2 xs l bs hm hl hq k (by omega) (by omega) w h).mono fun e w' ⟨a, cap, he, hI, hx⟩ => ⟨a, cap, memN xs l k, ?_, hI, hx, fun _ => rfl⟩
    rw [he, hc]; unfold cfE; rw [if_pos hc]
  · have hf : cfB l.length n = false := by simpa using hc
    have hno : n < 0 ∨ 60 < n ∨ (l.length : Int) < 4 * n := by
      rcases Classical.em (n < 0 ∨ 60 < n ∨ (l.length : Int) < 4 * n) with h | h
      · exact h
      · exact absurd (cfB_iff.2 (by omega)) hc
    refine (saga_Conf_no base s v1 v2 xs l bs n hn hno w h).mono fun e w' ⟨he, hx⟩ => ⟨none, 0, [], ?_, Ints.nil' w', hx, fun h => absurd h hc⟩
    rw [he, hf]; unfold cfE; rw [if_neg hc]; rfl
theorem faults_le (n : Nat) : faultsI n ≤ n := by unfold faultsI; split <;> omega
set_option maxHeartbeats 2000000 in
set_option maxRecDepth 100000 in
theorem saga_Sound (base s : Nat) (v1 v2 : Value) (xs : List Int) (l : List Req) (bs : List (Nat × Nat)) (hm : membersB xs = true) (hl : l.length ≤ 244) (hq : ∀ q ∈ l, AskOk q) (ba : Option Addr) (bc : Nat) (bad : List Int) (w : World) (h : SgW base w s v1 v2 xs l bs) (hb : Ints w ba bc bad) :
    Calls Try.prog 27 #[.pointer (some ⟨s, 0, none⟩), .slice ba bad.length bc] w fun e w' => e = .returned (.bool (soundB xs l bad)) ∧ Ext Non w w' := by
  have HS := Go.Lib.hid h; have HB := Go.Lib.hid hb; have HM := Go.Lib.hid hm; have HQ := Go.Lib.hid hq
  clear h hb hm hq
  have hN : epN l.length ≤ 61 := by unfold epN; omega
  have HNd : Hid (epN l.length = min 60 (l.length / 4) + 1) := Go.Lib.hid rfl
  have HSB : Hid (soundB xs l bad = soundTo xs l bad (epN l.length)) := Go.Lib.hid rfl
  generalize epN l.length = N at *
  go_enter Try.func27, Try.ntmps27
  go_wp2_with fail
  go_loopg [5, 6, 7, 8, 10] N (fun g ev v6 v7 v8 v10 wr => ∃ (e : Nat) (z : EW Non w), e ≤ N ∧ g = N - e ∧ ev = .int .i64 e ∧ wr = z.on ∧ Hid (soundTo xs l bad e = true))
  case atStart => exact ⟨0, ⟨_, by (repeat (first | with_reducible exact Ext.refl _ _ | assumption | with_reducible refine Ext.upN ?_ | with_reducible refine Ext.alloc ?_ _ | with_reducible refine Ext.upA (by assumption) ?_ | with_reducible refine Ext.upW ?_ | with_reducible refine Ext.drew ?_ | with_reducible refine Ext.drewN ?_ _ | with_reducible refine Ext.upF ?_ | with_reducible refine Ext.upFF (by first | omega | simp) ?_ | with_reducible refine Ext.setCellsF _ _ _ (by first | omega | simp) ?_ | with_reducible refine Ext.setCellF _ _ _ (by first | omega | simp) ?_ | with_reducible refine Ext.upFN (by first | omega | simp) ?_ | with_reducible refine Ext.up1F (by first | omega | simp) ?_ | with_reducible refine Ext.up1N (by first | omega | simp) ?_ | with_reducible refine Ext.setCell ?_ (.inr (by first | omega | simp)) _ | refine Ext.alloc ?_ _ | refine Ext.setCellF _ _ _ (by first | omega | simp) ?_ | refine Ext.setCell ?_ (.inr (by first | omega | simp)) _))⟩, Nat.zero_le _, rfl, rfl, rfl, Go.Lib.hid rfl⟩
  case round =>
    obtain ⟨e, z, he, hg, rfl, rfl, HD⟩ := hrel
    have HG := Go.Lib.hid hg; clear hg
    go_wp2_with fail
    refine (saga_ConfA base s v1 v2 xs l bs HM.out hl HQ.out e (by unfold I64; omega) _ (HS.out.extN (by (repeat (first | with_reducible exact Ext.refl _ _ | assumption | with_reducible refine Ext.upN ?_ | with_reducible refine Ext.alloc ?_ _ | with_reducible refine Ext.upA (by assumption) ?_ | with_reducible refine Ext.upW ?_ | with_reducible refine Ext.drew ?_ | with_reducible refine Ext.drewN ?_ _ | with_reducible refine Ext.upF ?_ | with_reducible refine Ext.upFF (by first | omega | simp) ?_ | with_reducible refine Ext.setCellsF _ _ _ (by first | omega | simp) ?_ | with_reducible refine Ext.setCellF _ _ _ (by first | omega | simp) ?_ | with_reducible refine Ext.upFN (by first | omega | simp) ?_ | with_reducible refine Ext.up1F (by first | omega | simp) ?_ | with_reducible refine Ext.up1N (by first | omega | simp) ?_ | with_reducible refine Ext.setCell ?_ (.inr (by first | omega | simp)) _ | refine Ext.alloc ?_ _ | refine Ext.setCellF _ _ _ (by first | omega | simp) ?_ | refine Ext.setCell ?_ (.inr (by first | omega | simp)) _))))).mono ?_
    rintro r _ ⟨ca, cc, ys, rfl, hI, hx, hys⟩
    obtain ⟨x1, rfl⟩ := hx.ew
    have HI := Go.Lib.hid hI; have HY := Go.Lib.hid hys
    have hys1 := hI.small; have hys2 := hI.le
    clear hx hI hys
    generalize cfE l.length (e : Int) = ce at *
    go_upto_region 6 with (refine wpList_store_box rfl 24 _ _ rfl x1.on.heap.size _ [.int .i64 ce, .slice ca ys.length cc] _ rfl rfl (Bx.newAt _ _ _ _ rfl) rfl info_confS (by simp [Value.oneCell']) (fun W hB => ?_); have BK := Go.Lib.hid hB; clear hB)
    have XW : Ext Non x1.on W.on := by (repeat (first | with_reducible exact Ext.refl _ _ | assumption | with_reducible refine Ext.upN ?_ | with_reducible refine Ext.alloc ?_ _ | with_reducible refine Ext.upA (by assumption) ?_ | with_reducible refine Ext.upW ?_ | with_reducible refine Ext.drew ?_ | with_reducible refine Ext.drewN ?_ _ | with_reducible refine Ext.upF ?_ | with_reducible refine Ext.upFF (by first | omega | simp) ?_ | with_reducible refine Ext.setCellsF _ _ _ (by first | omega | simp) ?_ | with_reducible refine Ext.setCellF _ _ _ (by first | omega | simp) ?_ | with_reducible refine Ext.upFN (by first | omega | simp) ?_ | with_reducible refine Ext.up1F (by first | omega | simp) ?_ | with_reducible refine Ext.up1N (by first | omega | simp) ?_ | with_reducible refine Ext.setCell ?_ (.inr (by first | omega | simp)) _ | refine Ext.alloc ?_ _ | refine Ext.setCellF _ _ _ (by first | omega | simp) ?_ | refine Ext.setCell ?_ (.inr (by first | omega | simp)) _))
    have HI2 := Go.Lib.hid (HI.out.extN XW)
    obtain ⟨x2, hx2⟩ := ((z.ext.trans x1.ext).trans XW).ew
    rw [hx2] at HI2 BK ⊢
    clear hx2 XW W HI
    try simp only [Act.put]
    generalize x1.on.heap.size = kc at *
    have y1 : x2.on.cell? ⟨kc, 1, none⟩ = some (.slice ca ys.length cc) := BK.out.cell rfl
    by_cases hlt : e < N
    · have hc : cfB l.length (e : Int) = true := cfB_iff.2 (by have := HNd.out; omega)
      have hyy := HY.out hc
      rw [Int.toNat_natCast] at hyy
      have HYY := Go.Lib.hid hyy
      have hyl : ys.length ≤ 10 := by
        rw [hyy]; exact (members_facts (gAt_inv HM.out HQ.out (4 * e) : Inv (gAt xs l (4 * e))).mn).2.2.2
      have HSC := Go.Lib.hid (soundTo_succ xs l bad e)
      have HNO := Go.Lib.hid (@soundTo_no xs l bad e N hlt)
      rw [hc]
      clear hc hyy HY
      go_wp2_with fail
      go_loopg [8, 10, 26] ys.length (fun g nv iv2 iv wr => ∃ (i : Nat) (u : EW Non x2.on), i ≤ ys.length ∧ g = ys.length - i ∧ iv = .int .i64 i ∧ nv = .int .i64 (badN bad (ys.take i)) ∧ wr = u.on)
      case atStart => exact ⟨0, ⟨_, by (repeat (first | with_reducible exact Ext.refl _ _ | assumption | with_reducible refine Ext.upN ?_ | with_reducible refine Ext.alloc ?_ _ | with_reducible refine Ext.upA (by assumption) ?_ | with_reducible refine Ext.upW ?_ | with_reducible refine Ext.drew ?_ | with_reducible refine Ext.drewN ?_ _ | with_reducible refine Ext.upF ?_ | with_reducible refine Ext.upFF (by first | omega | simp) ?_ | with_reducible refine Ext.setCellsF _ _ _ (by first | omega | simp) ?_ | with_reducible refine Ext.setCellF _ _ _ (by first | omega | simp) ?_ | with_reducible refine Ext.upFN (by first | omega | simp) ?_ | with_reducible refine Ext.up1F (by first | omega | simp) ?_ | with_reducible refine Ext.up1N (by first | omega | simp) ?_ | with_reducible refine Ext.setCell ?_ (.inr (by first | omega | simp)) _ | refine Ext.alloc ?_ _ | refine Ext.setCellF _ _ _ (by first | omega | simp) ?_ | refine Ext.setCell ?_ (.inr (by first | omega | simp)) _))⟩, Nat.zero_le _, rfl, rfl, rfl, rfl⟩
      case round =>
        obtain ⟨i, u, hi, hg2, rfl, rfl, rfl⟩ := hrel
        have HG2 := Go.Lib.hid hg2; clear hg2
        have hbn : badN bad (ys.take i) ≤ ys.length := by
          unfold badN; exact Nat.le_trans (List.length_filter_le _ _) (by rw [List.length_take]; omega)
        by_cases hlt2 : i < ys.length
        · obtain ⟨ab, ao, rfl, hcell, hx64⟩ := HI2.out.at_ i hlt2
          have HT := Go.Lib.hid (badN_take bad ys i hlt2)
          have hbn2 : badN bad (ys.take i) + 1 ≤ 9223372036854775807 := by
            have : badN bad (ys.take i) ≤ i := by unfold badN; exact Nat.le_trans (List.length_filter_le _ _) (by rw [List.length_take]; omega)
            omega
          generalize ys[i] = x at *
          go_wp2_with fail
          refine (slices_Contains ba bc bad x _ (HB.out.extN (by (repeat (first | with_reducible exact Ext.refl _ _ | assumption | with_reducible refine Ext.upN ?_ | with_reducible refine Ext.alloc ?_ _ | with_reducible refine Ext.upA (by assumption) ?_ | with_reducible refine Ext.upW ?_ | with_reducible refine Ext.drew ?_ | with_reducible refine Ext.drewN ?_ _ | with_reducible refine Ext.upF ?_ | with_reducible refine Ext.upFF (by first | omega | simp) ?_ | with_reducible refine Ext.setCellsF _ _ _ (by first | omega | simp) ?_ | with_reducible refine Ext.setCellF _ _ _ (by first | omega | simp) ?_ | with_reducible refine Ext.upFN (by first | omega | simp) ?_ | with_reducible refine Ext.up1F (by first | omega | simp) ?_ | with_reducible refine Ext.up1N (by first | omega | simp) ?_ | with_reducible refine Ext.setCell ?_ (.inr (by first | omega | simp)) _ | refine Ext.alloc ?_ _ | refine Ext.setCellF _ _ _ (by first | omega | simp) ?_ | refine Ext.setCell ?_ (.inr (by first | omega | simp)) _))))).mono ?_
          rintro r _ ⟨rfl, rfl⟩
          cases hh : hasB bad x
          · have HF : Hid (badN bad (ys.take (i + 1)) = badN bad (ys.take i)) := Go.Lib.hid (by rw [HT.out, hh]; simp)
            clear hh
            go_wp2_with fail
            go_roundg (ys.length - (i + 1))
            case measure => have := HG2.out; omega
            case rel => exact ⟨i + 1, ⟨_, by (repeat (first | with_reducible exact Ext.refl _ _ | assumption | with_reducible refine Ext.upN ?_ | with_reducible refine Ext.alloc ?_ _ | with_reducible refine Ext.upA (by assumption) ?_ | with_reducible refine Ext.upW ?_ | with_reducible refine Ext.drew ?_ | with_reducible refine Ext.drewN ?_ _ | with_reducible refine Ext.upF ?_ | with_reducible refine Ext.upFF (by first | omega | simp) ?_ | with_reducible refine Ext.setCellsF _ _ _ (by first | omega | simp) ?_ | with_reducible refine Ext.setCellF _ _ _ (by first | omega | simp) ?_ | with_reducible refine Ext.upFN (by first | omega | simp) ?_ | with_reducible refine Ext.up1F (by first | omega | simp) ?_ | with_reducible refine Ext.up1N (by first | omega | simp) ?_ | with_reducible refine Ext.setCell ?_ (.inr (by first | omega | simp)) _ | refine Ext.alloc ?_ _ | refine Ext.setCellF _ _ _ (by first | omega | simp) ?_ | refine Ext.setCell ?_ (.inr (by first | omega | simp)) _))⟩, hlt2, rfl, by go_num, by rw [HF.out], rfl⟩
          · have HF : Hid (badN bad (ys.take (i + 1)) = badN bad (ys.take i) + 1) := Go.Lib.hid (by rw [HT.out, hh]; simp)
            clear hh
            generalize badN bad (ys.take i) = bn at *
            have hw1 : IntKind.i64.wrap ((bn : Int) + 1) = (bn : Int) + 1 := IntWalk.i64_in _ (by omega)
            go_wp2_with fail
            go_roundg (ys.length - (i + 1))
            case measure => have := HG2.out; omega
            case rel => exact ⟨i + 1, ⟨_, by (repeat (first | with_reducible exact Ext.refl _ _ | assumption | with_reducible refine Ext.upN ?_ | with_reducible refine Ext.alloc ?_ _ | with_reducible refine Ext.upA (by assumption) ?_ | with_reducible refine Ext.upW ?_ | with_reducible refine Ext.drew ?_ | with_reducible refine Ext.drewN ?_ _ | with_reducible refine Ext.upF ?_ | with_reducible refine Ext.upFF (by first | omega | simp) ?_ | with_reducible refine Ext.setCellsF _ _ _ (by first | omega | simp) ?_ | with_reducible refine Ext.setCellF _ _ _ (by first | omega | simp) ?_ | with_reducible refine Ext.upFN (by first | omega | simp) ?_ | with_reducible refine Ext.up1F (by first | omega | simp) ?_ | with_reducible refine Ext.up1N (by first | omega | simp) ?_ | with_reducible refine Ext.setCell ?_ (.inr (by first | omega | simp)) _ | refine Ext.alloc ?_ _ | refine Ext.setCellF _ _ _ (by first | omega | simp) ?_ | refine Ext.setCell ?_ (.inr (by first | omega | simp)) _))⟩, hlt2, rfl, by go_num, by rw [HF.out]; rfl, rfl⟩
        · obtain rfl : i = ys.length := by omega
          rw [List.take_length] at hbn ⊢
          have HFW : Hid (fewS bad ys = decide ((badN bad ys : Int) ≤ faultsI (ys.length : Int))) := Go.Lib.hid rfl
          generalize badN bad ys = bn at *
          have y1u : u.on.cell? ⟨kc, 1, none⟩ = some (.slice ca ys.length cc) := (u.ext.cell (lt_of_cell y1) (fun f => f)).trans y1
          clear y1
          go_wp2_with fail
          refine (council_Faults (ys.length : Int) (by omega) (by omega) _).mono ?_
          rintro r _ ⟨rfl, rfl⟩
          generalize faultsI (ys.length : Int) = fa at *
          by_cases hle : (bn : Int) ≤ fa
          · have HF : Hid (soundTo xs l bad (e + 1) = true) := Go.Lib.hid (by rw [HSC.out, HD.out, ← HYY.out, HFW.out, decide_eq_true hle]; rfl)
            have dd : decide (fa < (bn : Int)) = false := decide_eq_false (by omega)
            go_wp2_with fail
            go_roundg (N - (e + 1))
            case measure => have := HG.out; omega
            case rel => exact ⟨e + 1, ⟨_, by (repeat (first | with_reducible exact Ext.refl _ _ | assumption | with_reducible refine Ext.upN ?_ | with_reducible refine Ext.alloc ?_ _ | with_reducible refine Ext.upA (by assumption) ?_ | with_reducible refine Ext.upW ?_ | with_reducible refine Ext.drew ?_ | with_reducible refine Ext.drewN ?_ _ | with_reducible refine Ext.upF ?_ | with_reducible refine Ext.upFF (by first | omega | simp) ?_ | with_reducible refine Ext.setCellsF _ _ _ (by first | omega | simp) ?_ | with_reducible refine Ext.setCellF _ _ _ (by first | omega | simp) ?_ | with_reducible refine Ext.upFN (by first | omega | simp) ?_ | with_reducible refine Ext.up1F (by first | omega | simp) ?_ | with_reducible refine Ext.up1N (by first | omega | simp) ?_ | with_reducible refine Ext.setCell ?_ (.inr (by first | omega | simp)) _ | refine Ext.alloc ?_ _ | refine Ext.setCellF _ _ _ (by first | omega | simp) ?_ | refine Ext.setCell ?_ (.inr (by first | omega | simp)) _))⟩, hlt, rfl, by go_num, rfl, HF⟩
          · have HF : Hid (soundB xs l bad = false) := Go.Lib.hid (by rw [HSB.out]; exact HNO.out (by rw [← HYY.out, HFW.out, decide_eq_false hle]))
            have dd : decide (fa < (bn : Int)) = true := decide_eq_true (by omega)
            go_wp2
            go_ret
            exact ⟨by rw [HF.out]; rfl, by (repeat (first | with_reducible exact Ext.refl _ _ | assumption | with_reducible refine Ext.upN ?_ | with_reducible refine Ext.alloc ?_ _ | with_reducible refine Ext.upA (by assumption) ?_ | with_reducible refine Ext.upW ?_ | with_reducible refine Ext.drew ?_ | with_reducible refine Ext.drewN ?_ _ | with_reducible refine Ext.upF ?_ | with_reducible refine Ext.upFF (by first | omega | simp) ?_ | with_reducible refine Ext.setCellsF _ _ _ (by first | omega | simp) ?_ | with_reducible refine Ext.setCellF _ _ _ (by first | omega | simp) ?_ | with_reducible refine Ext.upFN (by first | omega | simp) ?_ | with_reducible refine Ext.up1F (by first | omega | simp) ?_ | with_reducible refine Ext.up1N (by first | omega | simp) ?_ | with_reducible refine Ext.setCell ?_ (.inr (by first | omega | simp)) _ | refine Ext.alloc ?_ _ | refine Ext.setCellF _ _ _ (by first | omega | simp) ?_ | refine Ext.setCell ?_ (.inr (by first | omega | simp)) _))⟩
    · obtain rfl : e = N := by omega
      have hc : cfB l.length (e : Int) = false := by
        rw [Bool.eq_false_iff]
        intro hh
        have := cfB_iff.1 hh; have := HNd.out; omega
      have HF : Hid (soundB xs l bad = true) := Go.Lib.hid (by rw [HSB.out]; exact HD.out)
      rw [hc]
      clear hc
      go_wp2
      go_ret
      exact ⟨by rw [HF.out]; rfl, by (repeat (first | with_reducible exact Ext.refl _ _ | assumption | with_reducible refine Ext.upN ?_ | with_reducible refine Ext.alloc ?_ _ | with_reducible refine Ext.upA (by assumption) ?_ | with_reducible refine Ext.upW ?_ | with_reducible refine Ext.drew ?_ | with_reducible refine Ext.drewN ?_ _ | with_reducible refine Ext.upF ?_ | with_reducible refine Ext.upFF (by first | omega | simp) ?_ | with_reducible refine Ext.setCellsF _ _ _ (by first | omega | simp) ?_ | with_reducible refine Ext.setCellF _ _ _ (by first | omega | simp) ?_ | with_reducible refine Ext.upFN (by first | omega | simp) ?_ | with_reducible refine Ext.up1F (by first | omega | simp) ?_ | with_reducible refine Ext.up1N (by first | omega | simp) ?_ | with_reducible refine Ext.setCell ?_ (.inr (by first | omega | simp)) _ | refine Ext.alloc ?_ _ | refine Ext.setCellF _ _ _ (by first | omega | simp) ?_ | refine Ext.setCell ?_ (.inr (by first | omega | simp)) _))⟩
end Go.Proofs.Ytekbonciafbjiaa
