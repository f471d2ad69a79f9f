/- Contracts of layer 22: New. -/
import Derived.Test.YtekbonciafbjiaaSaga2
namespace Go.Proofs.Ytekbonciafbjiaa
open Go.RowKit Go.Lib F64
set_option linter.unusedSimpArgs false
set_option linter.unusedVariables false
attribute [local go_sem] run_store_float
attribute [local go_sem low] EW.cellN EW.frozN alloc_cell_or alloc_froz_or EW.cellF EW.frozF EW.cell1 EW.froz1
attribute [local go_sem] relAt relUpon
def allAsked (l : List Req) : Bool := l.all askedB
theorem allAsked_take {l : List Req} {i : Nat} (h : i < l.length) : allAsked (l.take (i + 1)) = (allAsked (l.take i) && askedB l[i]) := by
  unfold allAsked
  rw [List.take_succ_eq_append_getElem h, List.all_append]
  simp
set_option maxHeartbeats 1000000 in
set_option maxRecDepth 100000 in
theorem slices_IndexFunc (a : Option Addr) (cap : Nat) (l : List Req) (hok : ∀ r ∈ l, ReqOk r) (w : World) (h : Reqs w a cap l) : Calls Try.prog 51 #[.slice a l.length cap, .func (Fn.func 30) #[] #[]] w fun e w' =>
    ∃ n : Int, e = .returned (.int .i64 n) ∧ decide (0 ≤ n) = !allAsked l ∧ Ext Non w w' := by
  have HA := Go.Lib.hid h; have HK := Go.Lib.hid hok
  have s1 := h.small; have s2 := h.le
  clear h hok
  go_enter Try.func51, Try.ntmps51
  go_wp2_with fail
  go_loopg [5, 8] l.length (fun n v5 iv wr => ∃ (i : Nat) (z : EW Non w), i ≤ l.length ∧ n = l.length - i ∧ iv = .int .i64 i ∧ wr = z.on ∧ Hid (allAsked (l.take i) = true))
  case atStart => exact ⟨0, ⟨_, by (repeat (first | with_reducible exact Ext.refl _ _ | assumption | with_reducible refine Ext.upN ?_ | with_reducible refine Ext.alloc ?_ _ | with_reducible refine Ext.upA (by assumption) ?_ | with_reducible refine Ext.upW ?_ | with_reducible refine Ext.drew ?_ | with_reducible refine Ext.drewN ?_ _ | with_reducible refine Ext.upF ?_ | with_reducible refine Ext.upFF (by first | omega | simp) ?_ | with_reducible refine Ext.setCellsF _ _ _ (by first | omega | simp) ?_ | with_reducible refine Ext.setCellF _ _ _ (by first | omega | simp) ?_ | with_reducible refine Ext.upFN (by first | omega | simp) ?_ | with_reducible refine Ext.up1F (by first | omega | simp) ?_ | with_reducible refine Ext.up1N (by first | omega | simp) ?_ | with_reducible refine Ext.setCell ?_ (.inr (by first | omega | simp)) _ | refine Ext.alloc ?_ _ | refine Ext.setCellF _ _ _ (by first | omega | simp) ?_ | refine Ext.setCell ?_ (.inr (by first | omega | simp)) _))⟩, Nat.zero_le _, rfl, rfl, rfl, Go.Lib.hid rfl⟩
  case round =>
    obtain ⟨i, z, hi, hn, rfl, rfl, HD⟩ := hrel
    have HN := Go.Lib.hid hn; clear hn
    by_cases hlt : i < l.length
    · obtain ⟨ab, ao, rfl, hab, hc⟩ := HA.out.at_ i hlt
      have HT := Go.Lib.hid (allAsked_take hlt)
      have HR := Go.Lib.hid (HK.out _ (List.getElem_mem hlt))
      have HB : Hid (askedB l[i] = false → allAsked l = false) := Go.Lib.hid (fun e => by
        unfold allAsked
        rw [List.all_eq_false]
        exact ⟨l[i], List.getElem_mem hlt, by rw [e]; simp⟩)
      generalize l[i] = o at *
      obtain ⟨c, st, ⟨k, key, x, id⟩⟩ := o
      have q0 : w.cell? ⟨ab, ao + i * 6, none⟩ = some (.int .i64 c) := hc 0 _ rfl
      have q1 : w.cell? ⟨ab, ao + i * 6 + 1, none⟩ = some (.int .i64 st) := hc 1 _ rfl
      have q2 : w.cell? ⟨ab, ao + i * 6 + 2, none⟩ = some (.int .i64 k) := hc 2 _ rfl
      have q3 : w.cell? ⟨ab, ao + i * 6 + 3, none⟩ = some (.string key) := hc 3 _ rfl
      have q4 : w.cell? ⟨ab, ao + i * 6 + 4, none⟩ = some (.float .f64 x) := hc 4 _ rfl
      have q5 : w.cell? ⟨ab, ao + i * 6 + 5, none⟩ = some (.int .i64 id) := hc 5 _ rfl
      clear hc
      go_wp2_with fail
      refine Calls.ew (saga_New1 c st k key x id HR.out _) ?_
      rintro e x1 rfl
      cases hs : askedB ⟨c, st, ⟨k, key, x, id⟩⟩
      · have HF := Go.Lib.hid (HB.out hs)
        clear hs
        go_wp2
        go_ret
        exact ⟨(i : Int), rfl, by rw [HF.out, decide_eq_true (by omega)]; rfl, by (repeat (first | with_reducible exact Ext.refl _ _ | assumption | with_reducible refine Ext.upN ?_ | with_reducible refine Ext.alloc ?_ _ | with_reducible refine Ext.upA (by assumption) ?_ | with_reducible refine Ext.upW ?_ | with_reducible refine Ext.drew ?_ | with_reducible refine Ext.drewN ?_ _ | with_reducible refine Ext.upF ?_ | with_reducible refine Ext.upFF (by first | omega | simp) ?_ | with_reducible refine Ext.setCellsF _ _ _ (by first | omega | simp) ?_ | with_reducible refine Ext.setCellF _ _ _ (by first | omega | simp) ?_ | with_reducible refine Ext.upFN (by first | omega | simp) ?_ | with_reducible refine Ext.up1F (by first | omega | simp) ?_ | with_reducible refine Ext.up1N (by first | omega | simp) ?_ | with_reducible refine Ext.setCell ?_ (.inr (by first | omega | simp)) _ | refine Ext.alloc ?_ _ | refine Ext.setCellF _ _ _ (by first | omega | simp) ?_ | refine Ext.setCell ?_ (.inr (by first | omega | simp)) _))⟩
      · have HF : Hid (allAsked (l.take (i + 1)) = true) := Go.Lib.hid (by rw [HT.out, HD.out, hs]; rfl)
        clear hs
        go_wp2_with fail
        go_roundg (l.length - (i + 1))
        case measure => have := HN.out; omega
        case rel => exact ⟨i + 1, ⟨_, by (repeat (first | with_reducible exact Ext.refl _ _ | assumption | with_reducible refine Ext.upN ?_ | with_reducible refine Ext.alloc ?_ _ | with_reducible refine Ext.upA (by assumption) ?_ | with_reducible refine Ext.upW ?_ | with_reducible refine Ext.drew ?_ | with_reducible refine Ext.drewN ?_ _ | with_reducible refine Ext.upF ?_ | with_reducible refine Ext.upFF (by first | omega | simp) ?_ | with_reducible refine Ext.setCellsF _ _ _ (by first | omega | simp) ?_ | with_reducible refine Ext.setCellF _ _ _ (by first | omega | simp) ?_ | with_reducible refine Ext.upFN (by first | omega | simp) ?_ | with_reducible refine Ext.up1F (by first | omega | simp) ?_ | with_reducible refine Ext.up1N (by first | omega | simp) ?_ | with_reducible refine Ext.setCell ?_ (.inr (by first | omega | simp)) _ | refine Ext.alloc ?_ _ | refine Ext.setCellF _ _ _ (by first | omega | simp) ?_ | refine Ext.setCell ?_ (.inr (by first | omega | simp)) _))⟩, hlt, rfl, by go_num, rfl, HF⟩
    · obtain rfl : i = l.length := by omega
      have hd := HD.out
      rw [List.take_length] at hd
      have HF := Go.Lib.hid hd
      clear hd
      go_wp2
      go_ret
      exact ⟨-1, rfl, by rw [HF.out]; rfl, by (repeat (first | with_reducible exact Ext.refl _ _ | assumption | with_reducible refine Ext.upN ?_ | with_reducible refine Ext.alloc ?_ _ | with_reducible refine Ext.upA (by assumption) ?_ | with_reducible refine Ext.upW ?_ | with_reducible refine Ext.drew ?_ | with_reducible refine Ext.drewN ?_ _ | with_reducible refine Ext.upF ?_ | with_reducible refine Ext.upFF (by first | omega | simp) ?_ | with_reducible refine Ext.setCellsF _ _ _ (by first | omega | simp) ?_ | with_reducible refine Ext.setCellF _ _ _ (by first | omega | simp) ?_ | with_reducible refine Ext.upFN (by first | omega | simp) ?_ | with_reducible refine Ext.up1F (by first | omega | simp) ?_ | with_reducible refine Ext.up1N (by first | omega | simp) ?_ | with_reducible refine Ext.setCell ?_ (.inr (by first | omega | simp)) _ | refine Ext.alloc ?_ _ | refine Ext.setCellF _ _ _ (by first | omega | simp) ?_ | refine Ext.setCell ?_ (.inr (by first | omega | simp)) _))⟩
theorem slices_ContainsFunc (a : Option Addr) (cap : Nat) (l : List Req) (hok : ∀ r ∈ l, ReqOk r) (w : World) (h : Reqs w a cap l) : Calls Try.prog 29 #[.slice a l.length cap, .func (Fn.func 30) #[] #[]] w fun e w' =>
    e = .returned (.bool (!allAsked l)) ∧ Ext Non w w' := by
  have HA := Go.Lib.hid h; have HK := Go.Lib.hid hok
  clear h hok
  go_enter Try.func29, Try.ntmps29
  go_wp2_with fail
  refine (slices_IndexFunc a cap l HK.out _ HA.out).mono ?_
  rintro e _ ⟨n, rfl, hn, hx⟩
  obtain ⟨x1, rfl⟩ := hx.ew
  have HN := Go.Lib.hid hn
  clear hn hx
  go_wp2
  go_ret
  exact ⟨by rw [← HN.out]; rfl, by (repeat (first | with_reducible exact Ext.refl _ _ | assumption | with_reducible refine Ext.upN ?_ | with_reducible refine Ext.alloc ?_ _ | with_reducible refine Ext.upA (by assumption) ?_ | with_reducible refine Ext.upW ?_ | with_reducible refine Ext.drew ?_ | with_reducible refine Ext.drewN ?_ _ | with_reducible refine Ext.upF ?_ | with_reducible refine Ext.upFF (by first | omega | simp) ?_ | with_reducible refine Ext.setCellsF _ _ _ (by first | omega | simp) ?_ | with_reducible refine Ext.setCellF _ _ _ (by first | omega | simp) ?_ | with_reducible refine Ext.upFN (by first | omega | simp) ?_ | with_reducible refine Ext.up1F (by first | omega | simp) ?_ | with_reducible refine Ext.up1N (by first | omega | simp) ?_ | with_reducible refine Ext.setCell ?_ (.inr (by first | omega | simp)) _ | refine Ext.alloc ?_ _ | refine Ext.setCellF _ _ _ (by first | omega | simp) ?_ | refine Ext.setCell ?_ (.inr (by first | omega | simp)) _))⟩
/-- The first error of a new saga. -/
def newE (ep : Int) (xs : List Int) (l : List Req) : Int := if confB ep xs = true ∧ ep = 0 then (if allAsked l = true then (if 244 < l.length then 3 else 0) else 1) else 1
set_option maxHeartbeats 1000000 in
set_option maxRecDepth 100000 in
theorem saga_New_no (ep : Int) (a : Option Addr) (cap : Nat) (xs : List Int) (la : Option Addr) (lcap : Nat) (l : List Req) (hok : ∀ r ∈ l, ReqOk r) (hne : newE ep xs l ≠ 0) (w : World) (h : Ints w a cap xs) (hr : Reqs w la lcap l) :
    Calls Try.prog 10 #[.agg #[.int .i64 ep, .slice a xs.length cap], .slice la l.length lcap] w fun e w' => e = .returned (.tuple #[.pointer none, .int .i64 (newE ep xs l)]) ∧ Ext Non w w' := by
  have HI := Go.Lib.hid h; have HL := Go.Lib.hid hr; have HK := Go.Lib.hid hok
  clear h hr hok
  by_cases hc : confB ep xs = true ∧ ep = 0
  · obtain ⟨hc1, rfl⟩ := hc
    have hm : membersB xs = true := by unfold confB at hc1; simp only [Bool.and_eq_true] at hc1; exact hc1.2
    have HM := Go.Lib.hid hm
    cases ha : allAsked l
    · have HE : Hid (newE 0 xs l = 1) := Go.Lib.hid (by unfold newE; rw [if_pos ⟨hc1, rfl⟩, if_neg (by rw [ha]; simp)])
      have HA := Go.Lib.hid ha
      clear ha hc1 hm hne
      go_enter Try.func10, Try.ntmps10
      go_wp2_with fail
      refine (ledger_New_ok _ _ _ HM.out _ (HI.out.extN (by (repeat (first | with_reducible exact Ext.refl _ _ | assumption | with_reducible refine Ext.upN ?_ | with_reducible refine Ext.alloc ?_ _ | with_reducible refine Ext.upA (by assumption) ?_ | with_reducible refine Ext.upW ?_ | with_reducible refine Ext.drew ?_ | with_reducible refine Ext.drewN ?_ _ | with_reducible refine Ext.upF ?_ | with_reducible refine Ext.upFF (by first | omega | simp) ?_ | with_reducible refine Ext.setCellsF _ _ _ (by first | omega | simp) ?_ | with_reducible refine Ext.setCellF _ _ _ (by first | omega | simp) ?_ | with_reducible refine Ext.upFN (by first | omega | simp) ?_ | with_reducible refine Ext.up1F (by first | omega | simp) ?_ | with_reducible refine Ext.up1N (by first | omega | simp) ?_ | with_reducible refine Ext.setCell ?_ (.inr (by first | omega | simp)) _ | refine Ext.alloc ?_ _ | refine Ext.setCellF _ _ _ (by first | omega | simp) ?_ | refine Ext.setCell ?_ (.inr (by first | omega | simp)) _))))).mono ?_
      rintro e _ ⟨b, m, rfl, hx, hL, hb, hmm⟩
      obtain ⟨x1, rfl⟩ := hx.ew
      clear hL
      go_wp2_with fail
      refine Calls.ew (slices_ContainsFunc la lcap l HK.out _ (HL.out.extN (by (repeat (first | with_reducible exact Ext.refl _ _ | assumption | with_reducible refine Ext.upN ?_ | with_reducible refine Ext.alloc ?_ _ | with_reducible refine Ext.upA (by assumption) ?_ | with_reducible refine Ext.upW ?_ | with_reducible refine Ext.drew ?_ | with_reducible refine Ext.drewN ?_ _ | with_reducible refine Ext.upF ?_ | with_reducible refine Ext.upFF (by first | omega | simp) ?_ | with_reducible refine Ext.setCellsF _ _ _ (by first | omega | simp) ?_ | with_reducible refine Ext.setCellF _ _ _ (by first | omega | simp) ?_ | with_reducible refine Ext.upFN (by first | omega | simp) ?_ | with_reducible refine Ext.up1F (by first | omega | simp) ?_ | with_reducible refine Ext.up1N (by first | omega | simp) ?_ | with_reducible refine Ext.setCell ?_ (.inr (by first | omega | simp)) _ | refine Ext.alloc ?_ _ | refine Ext.setCellF _ _ _ (by first | omega | simp) ?_ | refine Ext.setCell ?_ (.inr (by first | omega | simp)) _))))) ?_
      rintro e x2 rfl
      rw [HA.out]
      go_wp2
      go_returns
      exact ⟨by rw [HE.out]; rfl, by (repeat (first | with_reducible exact Ext.refl _ _ | assumption | with_reducible refine Ext.upN ?_ | with_reducible refine Ext.alloc ?_ _ | with_reducible refine Ext.upA (by assumption) ?_ | with_reducible refine Ext.upW ?_ | with_reducible refine Ext.drew ?_ | with_reducible refine Ext.drewN ?_ _ | with_reducible refine Ext.upF ?_ | with_reducible refine Ext.upFF (by first | omega | simp) ?_ | with_reducible refine Ext.setCellsF _ _ _ (by first | omega | simp) ?_ | with_reducible refine Ext.setCellF _ _ _ (by first | omega | simp) ?_ | with_reducible refine Ext.upFN (by first | omega | simp) ?_ | with_reducible refine Ext.up1F (by first | omega | simp) ?_ | with_reducible refine Ext.up1N (by first | omega | simp) ?_ | with_reducible refine Ext.setCell ?_ (.inr (by first | omega | simp)) _ | refine Ext.alloc ?_ _ | refine Ext.setCellF _ _ _ (by first | omega | simp) ?_ | refine Ext.setCell ?_ (.inr (by first | omega | simp)) _))⟩
    · have hlen : 244 < l.length := by
        refine Classical.byContradiction fun hh => hne ?_
        unfold newE; rw [if_pos ⟨hc1, rfl⟩, if_pos ha, if_neg hh]
      have HE : Hid (newE 0 xs l = 3) := Go.Lib.hid (by unfold newE; rw [if_pos ⟨hc1, rfl⟩, if_pos ha, if_pos hlen])
      have HA := Go.Lib.hid ha
      have hd : decide ((244 : Int) < (l.length : Int)) = true := decide_eq_true (by omega)
      clear ha hc1 hm hne
      go_enter Try.func10, Try.ntmps10
      go_wp2_with fail
      refine (ledger_New_ok _ _ _ HM.out _ (HI.out.extN (by (repeat (first | with_reducible exact Ext.refl _ _ | assumption | with_reducible refine Ext.upN ?_ | with_reducible refine Ext.alloc ?_ _ | with_reducible refine Ext.upA (by assumption) ?_ | with_reducible refine Ext.upW ?_ | with_reducible refine Ext.drew ?_ | with_reducible refine Ext.drewN ?_ _ | with_reducible refine Ext.upF ?_ | with_reducible refine Ext.upFF (by first | omega | simp) ?_ | with_reducible refine Ext.setCellsF _ _ _ (by first | omega | simp) ?_ | with_reducible refine Ext.setCellF _ _ _ (by first | omega | simp) ?_ | with_reducible refine Ext.upFN (by first | omega | simp) ?_ | with_reducible refine Ext.up1F (by first | omega | simp) ?_ | with_reducible refine Ext.up1N (by first | omega | simp) ?_ | with_reducible refine Ext.setCell ?_ (.inr (by first | omega | simp)) _ | refine Ext.alloc ?_ _ | refine Ext.setCellF _ _ _ (by first | omega | simp) ?_ | refine Ext.setCell ?_ (.inr (by first | omega | simp)) _))))).mono ?_
      rintro e _ ⟨b, m, rfl, hx, hL, hb, hmm⟩
      obtain ⟨x1, rfl⟩ := hx.ew
      clear hL
      go_wp2_with fail
      refine Calls.ew (slices_ContainsFunc la lcap l HK.out _ (HL.out.extN (by (repeat (first | with_reducible exact Ext.refl _ _ | assumption | with_reducible refine Ext.upN ?_ | with_reducible refine Ext.alloc ?_ _ | with_reducible refine Ext.upA (by assumption) ?_ | with_reducible refine Ext.upW ?_ | with_reducible refine Ext.drew ?_ | with_reducible refine Ext.drewN ?_ _ | with_reducible refine Ext.upF ?_ | with_reducible refine Ext.upFF (by first | omega | simp) ?_ | with_reducible refine Ext.setCellsF _ _ _ (by first | omega | simp) ?_ | with_reducible refine Ext.setCellF _ _ _ (by first | omega | simp) ?_ | with_reducible refine Ext.upFN (by first | omega | simp) ?_ | with_reducible refine Ext.up1F (by first | omega | simp) ?_ | with_reducible refine Ext.up1N (by first | omega | simp) ?_ | with_reducible refine Ext.setCell ?_ (.inr (by first | omega | simp)) _ | refine Ext.alloc ?_ _ | refine Ext.setCellF _ _ _ (by first | omega | simp) ?_ | refine Ext.setCell ?_ (.inr (by first | omega | simp)) _))))) ?_
      rintro e x2 rfl
      rw [HA.out]
      go_wp2
      go_returns
      exact ⟨by rw [HE.out]; rfl, by (repeat (first | with_reducible exact Ext.refl _ _ | assumption | with_reducible refine Ext.upN ?_ | with_reducible refine Ext.alloc ?_ _ | with_reducible refine Ext.upA (by assumption) ?_ | with_reducible refine Ext.upW ?_ | with_reducible refine Ext.drew ?_ | with_reducible refine Ext.drewN ?_ _ | with_reducible refine Ext.upF ?_ | with_reducible refine Ext.upFF (by first | omega | simp) ?_ | with_reducible refine Ext.setCellsF _ _ _ (by first | omega | simp) ?_ | with_reducible refine Ext.setCellF _ _ _ (by first | omega | simp) ?_ | with_reducible refine Ext.upFN (by first | omega | simp) ?_ | with_reducible refine Ext.up1F (by first | omega | simp) ?_ | with_reducible refine Ext.up1N (by first | omega | simp) ?_ | with_reducible refine Ext.setCell ?_ (.inr (by first | omega | simp)) _ | refine Ext.alloc ?_ _ | refine Ext.setCellF _ _ _ (by first | omega | simp) ?_ | refine Ext.setCell ?_ (.inr (by first | omega | simp)) _))⟩
  · have hno : confB ep xs = false ∨ ep ≠ 0 := by
      by_cases h1 : confB ep xs = true
      · exact .inr (fun h2 => hc ⟨h1, h2⟩)
      · exact .inl (by simpa using h1)
    have HNO := Go.Lib.hid hno
    have HE : Hid (newE ep xs l = 1) := Go.Lib.hid (by unfold newE; rw [if_neg hc])
    clear hc hno hne
    go_enter Try.func10, Try.ntmps10
    go_wp2_with fail
    refine Calls.ew (ledger_New_no ep a cap xs HNO.out _ (HI.out.extN (by (repeat (first | with_reducible exact Ext.refl _ _ | assumption | with_reducible refine Ext.upN ?_ | with_reducible refine Ext.alloc ?_ _ | with_reducible refine Ext.upA (by assumption) ?_ | with_reducible refine Ext.upW ?_ | with_reducible refine Ext.drew ?_ | with_reducible refine Ext.drewN ?_ _ | with_reducible refine Ext.upF ?_ | with_reducible refine Ext.upFF (by first | omega | simp) ?_ | with_reducible refine Ext.setCellsF _ _ _ (by first | omega | simp) ?_ | with_reducible refine Ext.setCellF _ _ _ (by first | omega | simp) ?_ | with_reducible refine Ext.upFN (by first | omega | simp) ?_ | with_reducible refine Ext.up1F (by first | omega | simp) ?_ | with_reducible refine Ext.up1N (by first | omega | simp) ?_ | with_reducible refine Ext.setCell ?_ (.inr (by first | omega | simp)) _ | refine Ext.alloc ?_ _ | refine Ext.setCellF _ _ _ (by first | omega | simp) ?_ | refine Ext.setCell ?_ (.inr (by first | omega | simp)) _))))) ?_
    rintro e x1 rfl
    go_wp2
    go_returns
    exact ⟨by rw [HE.out]; rfl, by (repeat (first | with_reducible exact Ext.refl _ _ | assumption | with_reducible refine Ext.upN ?_ | with_reducible refine Ext.alloc ?_ _ | with_reducible refine Ext.upA (by assumption) ?_ | with_reducible refine Ext.upW ?_ | with_reducible refine Ext.drew ?_ | with_reducible refine Ext.drewN ?_ _ | with_reducible refine Ext.upF ?_ | with_reducible refine Ext.upFF (by first | omega | simp) ?_ | with_reducible refine Ext.setCellsF _ _ _ (by first | omega | simp) ?_ | with_reducible refine Ext.setCellF _ _ _ (by first | omega | simp) ?_ | with_reducible refine Ext.upFN (by first | omega | simp) ?_ | with_reducible refine Ext.up1F (by first | omega | simp) ?_ | with_reducible refine Ext.up1N (by first | omega | simp) ?_ | with_reducible refine Ext.setCell ?_ (.inr (by first | omega | simp)) _ | refine Ext.alloc ?_ _ | refine Ext.setCellF _ _ _ (by first | omega | simp) ?_ | refine Ext.setCell ?_ (.inr (by first | omega | simp)) _))⟩
theorem own_one {w : World} {g base : Nat} {v : Value} {t : TypeId} (h : Bx w g [v] t) (hb : base ≤ g) : w.ownsRow base t 1 (.slice (some ⟨g, 0, none⟩) 1 1) 1 [v] :=
  ⟨rfl, .inr ⟨g, 1, #[v], rfl, hb, h.h, Nat.le_refl _, by unfold maxLen; omega, rfl, rfl⟩⟩
set_option maxHeartbeats 2000000 in
set_option maxRecDepth 100000 in
theorem saga_New (a : Option Addr) (cap : Nat) (xs : List Int) (hm : membersB xs = true) (la : Option Addr) (lcap : Nat) (l : List Req) (hok : ∀ r ∈ l, ReqOk r) (hask : ∀ r ∈ l, askedB r = true) (hlen : l.length ≤ 244) (w : World) (h : Ints w a cap xs) (hr : Reqs w la lcap l) :
    Calls Try.prog 10 #[.agg #[.int .i64 0, .slice a xs.length cap], .slice la l.length lcap] w fun e w' => ∃ s v1 v2 bs, e = .returned (.tuple #[.pointer (some ⟨s, 0, none⟩), .int .i64 0]) ∧ SgW w.heap.size w' s v1 v2 xs l bs ∧ Ext Non w w' := by
  have HI := Go.Lib.hid h; have HL := Go.Lib.hid hr; have HK := Go.Lib.hid hok; have HM := Go.Lib.hid hm
  have HA : Hid (allAsked l = true) := Go.Lib.hid (by unfold allAsked; rw [List.all_eq_true]; exact hask)
  have hd : decide ((244 : Int) < (l.length : Int)) = false := decide_eq_false (by omega)
  clear h hr hok hask hm
  go_enter Try.func10, Try.ntmps10
  go_wp2_with fail
  refine (ledger_New_ok _ _ _ HM.out _ (HI.out.extN (by (repeat (first | with_reducible exact Ext.refl _ _ | assumption | with_reducible refine Ext.upN ?_ | with_reducible refine Ext.alloc ?_ _ | with_reducible refine Ext.upA (by assumption) ?_ | with_reducible refine Ext.upW ?_ | with_reducible refine Ext.drew ?_ | with_reducible refine Ext.drewN ?_ _ | with_reducible refine Ext.upF ?_ | with_reducible refine Ext.upFF (by first | omega | simp) ?_ | with_reducible refine Ext.setCellsF _ _ _ (by first | omega | simp) ?_ | with_reducible refine Ext.setCellF _ _ _ (by first | omega | simp) ?_ | with_reducible refine Ext.upFN (by first | omega | simp) ?_ | with_reducible refine Ext.up1F (by first | omega | simp) ?_ | with_reducible refine Ext.up1N (by first | omega | simp) ?_ | with_reducible refine Ext.setCell ?_ (.inr (by first | omega | simp)) _ | refine Ext.alloc ?_ _ | refine Ext.setCellF _ _ _ (by first | omega | simp) ?_ | refine Ext.setCell ?_ (.inr (by first | omega | simp)) _))))).mono ?_
  rintro e _ ⟨b, m, rfl, hx, hL, hb, hmm⟩
  obtain ⟨x1, rfl⟩ := hx.ew
  have HLD := Go.Lib.hid hL
  clear hL hx
  go_wp2_with fail
  refine Calls.ew (slices_ContainsFunc la lcap l HK.out _ (HL.out.extN (by (repeat (first | with_reducible exact Ext.refl _ _ | assumption | with_reducible refine Ext.upN ?_ | with_reducible refine Ext.alloc ?_ _ | with_reducible refine Ext.upA (by assumption) ?_ | with_reducible refine Ext.upW ?_ | with_reducible refine Ext.drew ?_ | with_reducible refine Ext.drewN ?_ _ | with_reducible refine Ext.upF ?_ | with_reducible refine Ext.upFF (by first | omega | simp) ?_ | with_reducible refine Ext.setCellsF _ _ _ (by first | omega | simp) ?_ | with_reducible refine Ext.setCellF _ _ _ (by first | omega | simp) ?_ | with_reducible refine Ext.upFN (by first | omega | simp) ?_ | with_reducible refine Ext.up1F (by first | omega | simp) ?_ | with_reducible refine Ext.up1N (by first | omega | simp) ?_ | with_reducible refine Ext.setCell ?_ (.inr (by first | omega | simp)) _ | refine Ext.alloc ?_ _ | refine Ext.setCellF _ _ _ (by first | omega | simp) ?_ | refine Ext.setCell ?_ (.inr (by first | omega | simp)) _))))) ?_
  rintro e x2 rfl
  rw [HA.out]
  go_wp2_with fail
  have hx2 : w.heap.size < x2.on.heap.size := by have h1 := x1.ext.size; have h2 := x2.ext.size; simp at h1; omega
  have X2 : Ext Non w x2.on := by (repeat (first | with_reducible exact Ext.refl _ _ | assumption | with_reducible refine Ext.upN ?_ | with_reducible refine Ext.alloc ?_ _ | with_reducible refine Ext.upA (by assumption) ?_ | with_reducible refine Ext.upW ?_ | with_reducible refine Ext.drew ?_ | with_reducible refine Ext.drewN ?_ _ | with_reducible refine Ext.upF ?_ | with_reducible refine Ext.upFF (by first | omega | simp) ?_ | with_reducible refine Ext.setCellsF _ _ _ (by first | omega | simp) ?_ | with_reducible refine Ext.setCellF _ _ _ (by first | omega | simp) ?_ | with_reducible refine Ext.upFN (by first | omega | simp) ?_ | with_reducible refine Ext.up1F (by first | omega | simp) ?_ | with_reducible refine Ext.up1N (by first | omega | simp) ?_ | with_reducible refine Ext.setCell ?_ (.inr (by first | omega | simp)) _ | refine Ext.alloc ?_ _ | refine Ext.setCellF _ _ _ (by first | omega | simp) ?_ | refine Ext.setCell ?_ (.inr (by first | omega | simp)) _))
  have B1 := (Bx.newAt x2.on [.pointer (some ⟨b, 0, none⟩)] 74 _ rfl).alloc (.cells #[.slice (some ⟨x2.on.heap.size, 0, none⟩) 1 1, .slice none 0 0] 81)
  have B2 := Bx.newAt (x2.on.alloc (.cells #[.pointer (some ⟨b, 0, none⟩)] 74)) [.slice (some ⟨x2.on.heap.size, 0, none⟩) 1 1, .slice none 0 0] 81 (x2.on.heap.size + 1) (by simp)
  have X3 : Ext Non x2.on ((x2.on.alloc (.cells #[.pointer (some ⟨b, 0, none⟩)] 74)).alloc (.cells #[.slice (some ⟨x2.on.heap.size, 0, none⟩) 1 1, .slice none 0 0] 81)) := ((Ext.refl _ _).alloc _).alloc _
  have S0 : Hid (SgW w.heap.size ((x2.on.alloc (.cells #[.pointer (some ⟨b, 0, none⟩)] 74)).alloc (.cells #[.slice (some ⟨x2.on.heap.size, 0, none⟩) 1 1, .slice none 0 0] 81)) (x2.on.heap.size + 1) (.slice (some ⟨x2.on.heap.size, 0, none⟩) 1 1) (.slice none 0 0) xs [] [(b, m)]) := Go.Lib.hid (by
    refine ⟨B2, by omega, own_one B1 (by omega), World.ownsRow_nil _ _ _ _, rfl, fun i hi => ?_⟩
    have : i = 0 := by simp at hi; omega
    subst this
    exact ((HLD.out.extN x2.ext).extN X3))
  obtain ⟨x4, hx4⟩ := (X2.trans X3).ew
  rw [hx4] at S0 ⊢
  generalize x2.on.heap.size + 1 = sb at *
  clear hx4 X2 X3 B1 B2 HLD hb hmm
  go_loopg [10, 31] l.length (fun n v10 iv wr => ∃ (i : Nat) (v1 v2 : Value) (bs : List (Nat × Nat)) (z : EW Non w), i ≤ l.length ∧ n = l.length - i ∧ iv = .int .i64 i ∧ wr = z.on ∧ Hid (SgW w.heap.size wr sb v1 v2 xs (l.take i) bs))
  case atStart => exact ⟨0, _, _, _, x4, Nat.zero_le _, rfl, rfl, rfl, S0⟩
  case round =>
    clear S0
    obtain ⟨i, v1, v2, bs, z, hi, hn, rfl, rfl, HS⟩ := hrel
    have HN := Go.Lib.hid hn; clear hn
    by_cases hlt : i < l.length
    · obtain ⟨ab, ao, rfl, hab, hc⟩ := HL.out.at_ i hlt
      have HR := Go.Lib.hid (HK.out _ (List.getElem_mem hlt))
      have HT : Hid (l.take (i + 1) = l.take i ++ [l[i]]) := Go.Lib.hid (List.take_succ_eq_append_getElem hlt)
      have HQ : Hid (∀ q ∈ l.take i, q.op.real < 18446744073709551616) := Go.Lib.hid (fun q hq => (HK.out q (List.mem_of_mem_take hq)).x)
      have hli : (l.take i).length ≤ 1000 := by rw [List.length_take]; omega
      generalize l[i] = o at *
      obtain ⟨c, st, ⟨k, key, x, id⟩⟩ := o
      have q0 : w.cell? ⟨ab, ao + i * 6, none⟩ = some (.int .i64 c) := hc 0 _ rfl
      have q1 : w.cell? ⟨ab, ao + i * 6 + 1, none⟩ = some (.int .i64 st) := hc 1 _ rfl
      have q2 : w.cell? ⟨ab, ao + i * 6 + 2, none⟩ = some (.int .i64 k) := hc 2 _ rfl
      have q3 : w.cell? ⟨ab, ao + i * 6 + 3, none⟩ = some (.string key) := hc 3 _ rfl
      have q4 : w.cell? ⟨ab, ao + i * 6 + 4, none⟩ = some (.float .f64 x) := hc 4 _ rfl
      have q5 : w.cell? ⟨ab, ao + i * 6 + 5, none⟩ = some (.int .i64 id) := hc 5 _ rfl
      clear hc
      go_upto_region 10 with (refine wpList_store_box rfl 37 _ _ rfl z.on.heap.size _ [.int .i64 c, .int .i64 st, .int .i64 k, .string key, .float .f64 x, .int .i64 id] _ rfl rfl (Bx.newAt _ _ _ _ rfl) rfl info_req6 (by simp [Value.oneCell']) (fun W hB => ?_); have BX := Go.Lib.hid hB; clear hB)
      have XW : Ext Non z.on W.on := by (repeat (first | with_reducible exact Ext.refl _ _ | assumption | with_reducible refine Ext.upN ?_ | with_reducible refine Ext.alloc ?_ _ | with_reducible refine Ext.upA (by assumption) ?_ | with_reducible refine Ext.upW ?_ | with_reducible refine Ext.drew ?_ | with_reducible refine Ext.drewN ?_ _ | with_reducible refine Ext.upF ?_ | with_reducible refine Ext.upFF (by first | omega | simp) ?_ | with_reducible refine Ext.setCellsF _ _ _ (by first | omega | simp) ?_ | with_reducible refine Ext.setCellF _ _ _ (by first | omega | simp) ?_ | with_reducible refine Ext.upFN (by first | omega | simp) ?_ | with_reducible refine Ext.up1F (by first | omega | simp) ?_ | with_reducible refine Ext.up1N (by first | omega | simp) ?_ | with_reducible refine Ext.setCell ?_ (.inr (by first | omega | simp)) _ | refine Ext.alloc ?_ _ | refine Ext.setCellF _ _ _ (by first | omega | simp) ?_ | refine Ext.setCell ?_ (.inr (by first | omega | simp)) _))
      have HS1 := Go.Lib.hid (HS.out.extN XW)
      obtain ⟨x5, hx5⟩ := (z.ext.trans XW).ew
      rw [hx5] at HS1 BX ⊢
      clear hx5 XW W HS q0 q1 q2 q3 q4 q5
      try simp only [Act.put]
      generalize z.on.heap.size = kx at *
      have y0 : x5.on.cell? ⟨kx, 0, none⟩ = some (.int .i64 c) := BX.out.cell rfl
      have y1 : x5.on.cell? ⟨kx, 1, none⟩ = some (.int .i64 st) := BX.out.cell rfl
      have y2 : x5.on.cell? ⟨kx, 2, none⟩ = some (.int .i64 k) := BX.out.cell rfl
      have y3 : x5.on.cell? ⟨kx, 3, none⟩ = some (.string key) := BX.out.cell rfl
      have y4 : x5.on.cell? ⟨kx, 4, none⟩ = some (.float .f64 x) := BX.out.cell rfl
      have y5 : x5.on.cell? ⟨kx, 5, none⟩ = some (.int .i64 id) := BX.out.cell rfl
      go_wp2_with fail
      refine (saga_grow w.heap.size sb v1 v2 xs (l.take i) bs HM.out hli HQ.out c st k key x id HR.out _ HS1.out).mono ?_
      rintro e w6 ⟨rfl, v1', v2', bs', hS, hx6⟩
      have HS6 := Go.Lib.hid hS
      obtain ⟨x6, hx7⟩ := (x5.ext.own hx6 (fun j e => e)).ew
      subst hx7
      clear hS hx6 y0 y1 y2 y3 y4 y5 BX HS1
      go_wp2_with fail
      go_roundg (l.length - (i + 1))
      case measure => have := HN.out; omega
      case rel => exact ⟨i + 1, v1', v2', bs', x6, hlt, rfl, by go_num, rfl, Go.Lib.hid (by rw [HT.out]; exact HS6.out)⟩
    · obtain rfl : i = l.length := by omega
      have hS := HS.out
      rw [List.take_length] at hS
      have HF := Go.Lib.hid hS
      clear hS
      go_wp2
      go_returns
      exact ⟨sb, v1, v2, bs, rfl, HF.out, by (repeat (first | with_reducible exact Ext.refl _ _ | assumption | with_reducible refine Ext.upN ?_ | with_reducible refine Ext.alloc ?_ _ | with_reducible refine Ext.upA (by assumption) ?_ | with_reducible refine Ext.upW ?_ | with_reducible refine Ext.drew ?_ | with_reducible refine Ext.drewN ?_ _ | with_reducible refine Ext.upF ?_ | with_reducible refine Ext.upFF (by first | omega | simp) ?_ | with_reducible refine Ext.setCellsF _ _ _ (by first | omega | simp) ?_ | with_reducible refine Ext.setCellF _ _ _ (by first | omega | simp) ?_ | with_reducible refine Ext.upFN (by first | omega | simp) ?_ | with_reducible refine Ext.up1F (by first | omega | simp) ?_ | with_reducible refine Ext.up1N (by first | omega | simp) ?_ | with_reducible refine Ext.setCell ?_ (.inr (by first | omega | simp)) _ | refine Ext.alloc ?_ _ | refine Ext.setCellF _ _ _ (by first | omega | simp) ?_ | refine Ext.setCell ?_ (.inr (by first | omega | simp)) _))⟩
end Go.Proofs.Ytekbonciafbjiaa
