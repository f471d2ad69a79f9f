/- Joined texts: Saga3, Saga5, SagaNil22. What each proves stands at its head; no conditions beside those in its theorems. -/
import Derived.Test.YtekbonciafbjiaaGreatPjAA
import Derived.Test.YtekbonciafbjiaaGreatPjAC
import Derived.Test.YtekbonciafbjiaaGreatPjAD
import Derived.Test.YtekbonciafbjiaaGreatPjAG
import Derived.Test.YtekbonciafbjiaaGreatPjAH
import Derived.Test.YtekbonciafbjiaaGreatPjAI
import Derived.Test.YtekbonciafbjiaaGreatPjAN
import Derived.Test.YtekbonciafbjiaaGreatPjAJ
import Derived.Test.YtekbonciafbjiaaGreatPjAS
import Derived.Test.YtekbonciafbjiaaGreatPjAT
import Derived.Test.YtekbonciafbjiaaGreatPjAU
import Derived.Test.YtekbonciafbjiaaGreatPjAV
import Derived.Test.YtekbonciafbjiaaGreatPjAY
import Derived.Test.YtekbonciafbjiaaGreatPjAL
import Derived.Test.YtekbonciafbjiaaGreatPjAM
import Derived.Test.YtekbonciafbjiaaGreatPjAO
import Derived.Test.YtekbonciafbjiaaGreatPjAR
import Derived.Test.YtekbonciafbjiaaGreatPjAW
import Derived.Test.YtekbonciafbjiaaGreatPjBC
import Derived.Test.YtekbonciafbjiaaGreatPjAE
import Derived.Test.YtekbonciafbjiaaGreatPjAP
import Derived.Test.YtekbonciafbjiaaGreatPjBA
import Derived.Test.YtekbonciafbjiaaGreatPjBI
import Derived.Test.YtekbonciafbjiaaGreatPjBJ
import Derived.Test.YtekbonciafbjiaaGreatPjAX
/- Contracts of layer 22: New. -/
namespace Go.Proofs.YtekbonciafbjiaaGreat
open Go.RowKit Go.Lib F64
set_option linter.unusedSimpArgs false
set_option linter.unusedVariables false
attribute [local go_sem] run_store_float
attribute [local go_sem low] EW.cellN EW.frozN alloc_cell_or alloc_froz_or EW.cellF EW.frozF EW.cell1 EW.froz1
attribute [local go_sem] relAt relUpon
def allAsked (l : List Req) : Bool := l.all askedB
theorem allAsked_take {l : List Req} {i : Nat} (h : i < l.length) : allAsked (l.take (i + 1)) = (allAsked (l.take i) && askedB l[i]) := by
  unfold allAsked
  rw [List.take_succ_eq_append_getElem h, List.all_append]
  simp
set_option maxHeartbeats 1000000 in
set_option maxRecDepth 100000 in
theorem slices_IndexFunc (a : Option Addr) (cap : Nat) (l : List Req) (hok : ∀ r ∈ l, ReqOk r) (w : World) (h : Reqs w a cap l) : Calls Tryz.prog 49 #[.slice a l.length cap, .func (Fn.func 22) #[] #[]] w fun e w' =>
    ∃ n : Int, e = .returned (.int .i64 n) ∧ decide (0 ≤ n) = !allAsked l ∧ Ext Non w w' := by
  have HA := Go.Lib.hid h; have HK := Go.Lib.hid hok
  have s1 := h.small; have s2 := h.le
  clear h hok
  go_enter Tryz.func49, Tryz.ntmps49
  go_wp2_with fail
  go_loopg [5, 8] l.length (fun n v5 iv wr => ∃ (i : Nat) (z : EW Non w), i ≤ l.length ∧ n = l.length - i ∧ iv = .int .i64 i ∧ wr = z.on ∧ Hid (allAsked (l.take i) = true))
  case atStart => exact ⟨0, ⟨_, by (repeat (first | with_reducible (first | exact Ext.refl _ _ | assumption | refine Ext.upN ?_ | refine Ext.alloc ?_ _ | refine Ext.drew ?_ | refine Ext.drewN ?_ _ | refine Ext.up1N (by first | omega | simp) ?_) | refine Ext.alloc ?_ _ | refine Ext.setCell ?_ (.inr (by first | omega | simp)) _))⟩, Nat.zero_le _, rfl, rfl, rfl, Go.Lib.hid rfl⟩
  case round =>
    obtain ⟨i, z, hi, hn, rfl, rfl, HD⟩ := hrel
    have HN := Go.Lib.hid hn; clear hn
    by_cases hlt : i < l.length
    · obtain ⟨ab, ao, rfl, hab, hc⟩ := HA.out.at_ i hlt
      have HT := Go.Lib.hid (allAsked_take hlt)
      have HR := Go.Lib.hid (HK.out _ (List.getElem_mem hlt))
      have HB : Hid (askedB l[i] = false → allAsked l = false) := Go.Lib.hid (fun e => by
        unfold allAsked
        rw [List.all_eq_false]
        exact ⟨l[i], List.getElem_mem hlt, by rw [e]; simp⟩)
      generalize l[i] = o at *
      obtain ⟨c, st, ⟨k, key, x, id⟩⟩ := o
      have q0 : w.cell? ⟨ab, ao + i * 6, none⟩ = some (.int .i64 c) := hc 0 _ rfl
      have q1 : w.cell? ⟨ab, ao + i * 6 + 1, none⟩ = some (.int .i64 st) := hc 1 _ rfl
      have q2 : w.cell? ⟨ab, ao + i * 6 + 2, none⟩ = some (.int .i64 k) := hc 2 _ rfl
      have q3 : w.cell? ⟨ab, ao + i * 6 + 3, none⟩ = some (.string key) := hc 3 _ rfl
      have q4 : w.cell? ⟨ab, ao + i * 6 + 4, none⟩ = some (.float .f64 x) := hc 4 _ rfl
      have q5 : w.cell? ⟨ab, ao + i * 6 + 5, none⟩ = some (.int .i64 id) := hc 5 _ rfl
      clear hc
      go_wp2_with fail
      refine Calls.ew (saga_New1 c st k key x id HR.out _) ?_
      rintro e x1 rfl
      cases hs : askedB ⟨c, st, ⟨k, key, x, id⟩⟩
      · have HF := Go.Lib.hid (HB.out hs)
        clear hs
        go_wp2
        go_ret
        exact ⟨(i : Int), rfl, by rw [HF.out, decide_eq_true (by omega)]; rfl, by (repeat (first | with_reducible (first | exact Ext.refl _ _ | assumption | refine Ext.upN ?_ | refine Ext.alloc ?_ _ | refine Ext.drew ?_ | refine Ext.drewN ?_ _ | refine Ext.up1N (by first | omega | simp) ?_) | refine Ext.alloc ?_ _ | refine Ext.setCell ?_ (.inr (by first | omega | simp)) _))⟩
      · have HF : Hid (allAsked (l.take (i + 1)) = true) := Go.Lib.hid (by rw [HT.out, HD.out, hs]; rfl)
        clear hs
        go_wp2_with fail
        go_roundg (l.length - (i + 1))
        case measure => have := HN.out; omega
        case rel => exact ⟨i + 1, ⟨_, by (repeat (first | with_reducible (first | exact Ext.refl _ _ | assumption | refine Ext.upN ?_ | refine Ext.alloc ?_ _ | refine Ext.drew ?_ | refine Ext.drewN ?_ _ | refine Ext.up1N (by first | omega | simp) ?_) | refine Ext.alloc ?_ _ | refine Ext.setCell ?_ (.inr (by first | omega | simp)) _))⟩, hlt, rfl, by go_num, rfl, HF⟩
    · obtain rfl : i = l.length := by omega
      have hd := HD.out
      rw [List.take_length] at hd
      have HF := Go.Lib.hid hd
      clear hd
      go_wp2
      go_ret
      exact ⟨-1, rfl, by rw [HF.out]; rfl, by (repeat (first | with_reducible (first | exact Ext.refl _ _ | assumption | refine Ext.upN ?_ | refine Ext.alloc ?_ _ | refine Ext.drew ?_ | refine Ext.drewN ?_ _ | refine Ext.up1N (by first | omega | simp) ?_) | refine Ext.alloc ?_ _ | refine Ext.setCell ?_ (.inr (by first | omega | simp)) _))⟩
theorem slices_ContainsFunc (a : Option Addr) (cap : Nat) (l : List Req) (hok : ∀ r ∈ l, ReqOk r) (w : World) (h : Reqs w a cap l) : Calls Tryz.prog 21 #[.slice a l.length cap, .func (Fn.func 22) #[] #[]] w fun e w' =>
    e = .returned (.bool (!allAsked l)) ∧ Ext Non w w' := by
  have HA := Go.Lib.hid h; have HK := Go.Lib.hid hok
  clear h hok
  go_enter Tryz.func21, Tryz.ntmps21
  go_wp2_with fail
  refine (slices_IndexFunc a cap l HK.out _ HA.out).mono ?_
  rintro e _ ⟨n, rfl, hn, hx⟩
  obtain ⟨x1, rfl⟩ := hx.ew
  have HN := Go.Lib.hid hn
  clear hn hx
  go_wp2
  go_ret
  exact ⟨by rw [← HN.out]; rfl, by (repeat (first | with_reducible (first | exact Ext.refl _ _ | assumption | refine Ext.upN ?_ | refine Ext.alloc ?_ _ | refine Ext.drew ?_ | refine Ext.drewN ?_ _ | refine Ext.up1N (by first | omega | simp) ?_) | refine Ext.alloc ?_ _ | refine Ext.setCell ?_ (.inr (by first | omega | simp)) _))⟩
/-- The first error of a new saga. -/
def newE (ep : Int) (xs : List Int) (l : List Req) : Int := if confB ep xs = true ∧ ep = 0 then (if allAsked l = true then (if 244 < l.length then 3 else 0) else 1) else 1
set_option maxHeartbeats 1000000 in
set_option maxRecDepth 100000 in
theorem saga_New_no (ep : Int) (a : Option Addr) (cap : Nat) (xs : List Int) (la : Option Addr) (lcap : Nat) (l : List Req) (hok : ∀ r ∈ l, ReqOk r) (hne : newE ep xs l ≠ 0) (w : World) (h : Ints w a cap xs) (hr : Reqs w la lcap l) :
    Calls Tryz.prog 5 #[.agg #[.int .i64 ep, .slice a xs.length cap], .slice la l.length lcap] w fun e w' => e = .returned (.tuple #[.pointer none, .int .i64 (newE ep xs l)]) ∧ Ext Non w w' := by
  have HI := Go.Lib.hid h; have HL := Go.Lib.hid hr; have HK := Go.Lib.hid hok
  clear h hr hok
  by_cases hc : confB ep xs = true ∧ ep = 0
  · obtain ⟨hc1, rfl⟩ := hc
    have hm : membersB xs = true := by unfold confB at hc1; simp only [Bool.and_eq_true] at hc1; exact hc1.2
    have HM := Go.Lib.hid hm
    cases ha : allAsked l
    · have HE : Hid (newE 0 xs l = 1) := Go.Lib.hid (by unfold newE; rw [if_pos ⟨hc1, rfl⟩, if_neg (by rw [ha]; simp)])
      have HA := Go.Lib.hid ha
      clear ha hc1 hm hne
      go_enter Tryz.func5, Tryz.ntmps5
      go_wp2_with fail
      refine (ledger_New_ok _ _ _ HM.out _ (HI.out.extN (by (repeat (first | with_reducible (first | exact Ext.refl _ _ | assumption | refine Ext.upN ?_ | refine Ext.alloc ?_ _ | refine Ext.drew ?_ | refine Ext.drewN ?_ _ | refine Ext.up1N (by first | omega | simp) ?_) | refine Ext.alloc ?_ _ | refine Ext.setCell ?_ (.inr (by first | omega | simp)) _))))).mono ?_
      rintro e _ ⟨b, m, rfl, hx, hL, hb, hmm⟩
      obtain ⟨x1, rfl⟩ := hx.ew
      clear hL
      go_wp2_with fail
      refine Calls.ew (slices_ContainsFunc la lcap l HK.out _ (HL.out.extN (by (repeat (first | with_reducible (first | exact Ext.refl _ _ | assumption | refine Ext.upN ?_ | refine Ext.alloc ?_ _ | refine Ext.drew ?_ | refine Ext.drewN ?_ _ | refine Ext.up1N (by first | omega | simp) ?_) | refine Ext.alloc ?_ _ | refine Ext.setCell ?_ (.inr (by first | omega | simp)) _))))) ?_
      rintro e x2 rfl
      rw [HA.out]
      go_wp2
      go_returns
      exact ⟨by rw [HE.out]; rfl, by (repeat (first | with_reducible (first | exact Ext.refl _ _ | assumption | refine Ext.upN ?_ | refine Ext.alloc ?_ _ | refine Ext.drew ?_ | refine Ext.drewN ?_ _ | refine Ext.up1N (by first | omega | simp) ?_) | refine Ext.alloc ?_ _ | refine Ext.setCell ?_ (.inr (by first | omega | simp)) _))⟩
    · have hlen : 244 < l.length := by
        refine Classical.byContradiction fun hh => hne ?_
        unfold newE; rw [if_pos ⟨hc1, rfl⟩, if_pos ha, if_neg hh]
      have HE : Hid (newE 0 xs l = 3) := Go.Lib.hid (by unfold newE; rw [if_pos ⟨hc1, rfl⟩, if_pos ha, if_pos hlen])
      have HA := Go.Lib.hid ha
      have hd : decide ((244 : Int) < (l.length : Int)) = true := decide_eq_true (by omega)
      clear ha hc1 hm hne
      go_enter Tryz.func5, Tryz.ntmps5
      go_wp2_with fail
      refine (ledger_New_ok _ _ _ HM.out _ (HI.out.extN (by (repeat (first | with_reducible (first | exact Ext.refl _ _ | assumption | refine Ext.upN ?_ | refine Ext.alloc ?_ _ | refine Ext.drew ?_ | refine Ext.drewN ?_ _ | refine Ext.up1N (by first | omega | simp) ?_) | refine Ext.alloc ?_ _ | refine Ext.setCell ?_ (.inr (by first | omega | simp)) _))))).mono ?_
      rintro e _ ⟨b, m, rfl, hx, hL, hb, hmm⟩
      obtain ⟨x1, rfl⟩ := hx.ew
      clear hL
      go_wp2_with fail
      refine Calls.ew (slices_ContainsFunc la lcap l HK.out _ (HL.out.extN (by (repeat (first | with_reducible (first | exact Ext.refl _ _ | assumption | refine Ext.upN ?_ | refine Ext.alloc ?_ _ | refine Ext.drew ?_ | refine Ext.drewN ?_ _ | refine Ext.up1N (by first | omega | simp) ?_) | refine Ext.alloc ?_ _ | refine Ext.setCell ?_ (.inr (by first | omega | simp)) _))))) ?_
      rintro e x2 rfl
      rw [HA.out]
      go_wp2
      go_returns
      exact ⟨by rw [HE.out]; rfl, by (repeat (first | with_reducible (first | exact Ext.refl _ _ | assumption | refine Ext.upN ?_ | refine Ext.alloc ?_ _ | refine Ext.drew ?_ | refine Ext.drewN ?_ _ | refine Ext.up1N (by first | omega | simp) ?_) | refine Ext.alloc ?_ _ | refine Ext.setCell ?_ (.inr (by first | omega | simp)) _))⟩
  · have hno : confB ep xs = false ∨ ep ≠ 0 := by
      by_cases h1 : confB ep xs = true
      · exact .inr (fun h2 => hc ⟨h1, h2⟩)
      · exact .inl (by simpa using h1)
    have HNO := Go.Lib.hid hno
    have HE : Hid (newE ep xs l = 1) := Go.Lib.hid (by unfold newE; rw [if_neg hc])
    clear hc hno hne
    go_enter Tryz.func5, Tryz.ntmps5
    go_wp2_with fail
    refine Calls.ew (ledger_New_no ep a cap xs HNO.out _ (HI.out.extN (by (repeat (first | with_reducible (first | exact Ext.refl _ _ | assumption | refine Ext.upN ?_ | refine Ext.alloc ?_ _ | refine Ext.drew ?_ | refine Ext.drewN ?_ _ | refine Ext.up1N (by first | omega | simp) ?_) | refine Ext.alloc ?_ _ | refine Ext.setCell ?_ (.inr (by first | omega | simp)) _))))) ?_
    rintro e x1 rfl
    go_wp2
    go_returns
    exact ⟨by rw [HE.out]; rfl, by (repeat (first | with_reducible (first | exact Ext.refl _ _ | assumption | refine Ext.upN ?_ | refine Ext.alloc ?_ _ | refine Ext.drew ?_ | refine Ext.drewN ?_ _ | refine Ext.up1N (by first | omega | simp) ?_) | refine Ext.alloc ?_ _ | refine Ext.setCell ?_ (.inr (by first | omega | simp)) _))⟩
theorem own_one {w : World} {g base : Nat} {v : Value} {t : TypeId} (h : Bx w g [v] t) (hb : base ≤ g) : w.ownsRow base t 1 (.slice (some ⟨g, 0, none⟩) 1 1) 1 [v] :=
  ⟨rfl, .inr ⟨g, 1, #[v], rfl, hb, h.h, Nat.le_refl _, by unfold maxLen; omega, rfl, rfl⟩⟩
set_option maxHeartbeats 2000000 in
set_option maxRecDepth 100000 in
theorem saga_New (a : Option Addr) (cap : Nat) (xs : List Int) (hm : membersB xs = true) (la : Option Addr) (lcap : Nat) (l : List Req) (hok : ∀ r ∈ l, ReqOk r) (hask : ∀ r ∈ l, askedB r = true) (hlen : l.length ≤ 244) (w : World) (h : Ints w a cap xs) (hr : Reqs w la lcap l) :
    Calls Tryz.prog 5 #[.agg #[.int .i64 0, .slice a xs.length cap], .slice la l.length lcap] w fun e w' => ∃ s v1 v2 bs, e = .returned (.tuple #[.pointer (some ⟨s, 0, none⟩), .int .i64 0]) ∧ SgW w.heap.size w' s v1 v2 xs l bs ∧ Ext Non w w' := by
  have HI := Go.Lib.hid h; have HL := Go.Lib.hid hr; have HK := Go.Lib.hid hok; have HM := Go.Lib.hid hm
  have HA : Hid (allAsked l = true) := Go.Lib.hid (by unfold allAsked; rw [List.all_eq_true]; exact hask)
  have hd : decide ((244 : Int) < (l.length : Int)) = false := decide_eq_false (by omega)
  clear h hr hok hask hm
  go_enter Tryz.func5, Tryz.ntmps5
  go_wp2_with fail
  refine (ledger_New_ok _ _ _ HM.out _ (HI.out.extN (by (repeat (first | with_reducible (first | exact Ext.refl _ _ | assumption | refine Ext.upN ?_ | refine Ext.alloc ?_ _ | refine Ext.drew ?_ | refine Ext.drewN ?_ _ | refine Ext.up1N (by first | omega | simp) ?_) | refine Ext.alloc ?_ _ | refine Ext.setCell ?_ (.inr (by first | omega | simp)) _))))).mono ?_
  rintro e _ ⟨b, m, rfl, hx, hL, hb, hmm⟩
  obtain ⟨x1, rfl⟩ := hx.ew
  have HLD := Go.Lib.hid hL
  clear hL hx
  go_wp2_with fail
  refine Calls.ew (slices_ContainsFunc la lcap l HK.out _ (HL.out.extN (by (repeat (first | with_reducible (first | exact Ext.refl _ _ | assumption | refine Ext.upN ?_ | refine Ext.alloc ?_ _ | refine Ext.drew ?_ | refine Ext.drewN ?_ _ | refine Ext.up1N (by first | omega | simp) ?_) | refine Ext.alloc ?_ _ | refine Ext.setCell ?_ (.inr (by first | omega | simp)) _))))) ?_
  rintro e x2 rfl
  rw [HA.out]
  go_wp2_with fail
  have hx2 : w.heap.size < x2.on.heap.size := by have h1 := x1.ext.size; have h2 := x2.ext.size; simp at h1; omega
  have X2 : Ext Non w x2.on := by (repeat (first | with_reducible (first | exact Ext.refl _ _ | assumption | refine Ext.upN ?_ | refine Ext.alloc ?_ _ | refine Ext.drew ?_ | refine Ext.drewN ?_ _ | refine Ext.up1N (by first | omega | simp) ?_) | refine Ext.alloc ?_ _ | refine Ext.setCell ?_ (.inr (by first | omega | simp)) _))
  have B1 := (Bx.newAt x2.on [.pointer (some ⟨b, 0, none⟩)] 62 _ rfl).alloc (.cells #[.slice (some ⟨x2.on.heap.size, 0, none⟩) 1 1, .slice none 0 0] 70)
  have B2 := Bx.newAt (x2.on.alloc (.cells #[.pointer (some ⟨b, 0, none⟩)] 62)) [.slice (some ⟨x2.on.heap.size, 0, none⟩) 1 1, .slice none 0 0] 70 (x2.on.heap.size + 1) (by simp)
  have X3 : Ext Non x2.on ((x2.on.alloc (.cells #[.pointer (some ⟨b, 0, none⟩)] 62)).alloc (.cells #[.slice (some ⟨x2.on.heap.size, 0, none⟩) 1 1, .slice none 0 0] 70)) := ((Ext.refl _ _).alloc _).alloc _
  have S0 : Hid (SgW w.heap.size ((x2.on.alloc (.cells #[.pointer (some ⟨b, 0, none⟩)] 62)).alloc (.cells #[.slice (some ⟨x2.on.heap.size, 0, none⟩) 1 1, .slice none 0 0] 70)) (x2.on.heap.size + 1) (.slice (some ⟨x2.on.heap.size, 0, none⟩) 1 1) (.slice none 0 0) xs [] [(b, m)]) := Go.Lib.hid (by
    refine ⟨B2, by omega, own_one B1 (by omega), World.ownsRow_nil _ _ _ _, rfl, fun i hi => ?_⟩
    have : i = 0 := by simp at hi; omega
    subst this
    exact ((HLD.out.extN x2.ext).extN X3))
  obtain ⟨x4, hx4⟩ := (X2.trans X3).ew
  rw [hx4] at S0 ⊢
  generalize x2.on.heap.size + 1 = sb at *
  clear hx4 X2 X3 B1 B2 HLD hb hmm
  go_loopg [10, 31] l.length (fun n v10 iv wr => ∃ (i : Nat) (v1 v2 : Value) (bs : List (Nat × Nat)) (z : EW Non w), i ≤ l.length ∧ n = l.length - i ∧ iv = .int .i64 i ∧ wr = z.on ∧ Hid (SgW w.heap.size wr sb v1 v2 xs (l.take i) bs))
  case atStart => exact ⟨0, _, _, _, x4, Nat.zero_le _, rfl, rfl, rfl, S0⟩
  case round =>
    clear S0
    obtain ⟨i, v1, v2, bs, z, hi, hn, rfl, rfl, HS⟩ := hrel
    have HN := Go.Lib.hid hn; clear hn
    by_cases hlt : i < l.length
    · obtain ⟨ab, ao, rfl, hab, hc⟩ := HL.out.at_ i hlt
      have HR := Go.Lib.hid (HK.out _ (List.getElem_mem hlt))
      have HT : Hid (l.take (i + 1) = l.take i ++ [l[i]]) := Go.Lib.hid (List.take_succ_eq_append_getElem hlt)
      have HQ : Hid (∀ q ∈ l.take i, q.op.real < 18446744073709551616) := Go.Lib.hid (fun q hq => (HK.out q (List.mem_of_mem_take hq)).x)
      have hli : (l.take i).length ≤ 1000 := by rw [List.length_take]; omega
      generalize l[i] = o at *
      obtain ⟨c, st, ⟨k, key, x, id⟩⟩ := o
      have q0 : w.cell? ⟨ab, ao + i * 6, none⟩ = some (.int .i64 c) := hc 0 _ rfl
      have q1 : w.cell? ⟨ab, ao + i * 6 + 1, none⟩ = some (.int .i64 st) := hc 1 _ rfl
      have q2 : w.cell? ⟨ab, ao + i * 6 + 2, none⟩ = some (.int .i64 k) := hc 2 _ rfl
      have q3 : w.cell? ⟨ab, ao + i * 6 + 3, none⟩ = some (.string key) := hc 3 _ rfl
      have q4 : w.cell? ⟨ab, ao + i * 6 + 4, none⟩ = some (.float .f64 x) := hc 4 _ rfl
      have q5 : w.cell? ⟨ab, ao + i * 6 + 5, none⟩ = some (.int .i64 id) := hc 5 _ rfl
      clear hc
      go_upto_region 10 with (refine wpList_store_box rfl 53 _ _ rfl z.on.heap.size _ [.int .i64 c, .int .i64 st, .int .i64 k, .string key, .float .f64 x, .int .i64 id] _ rfl rfl (Bx.newAt _ _ _ _ rfl) rfl info_req6 (by simp [Value.oneCell']) (fun W hB => ?_); have BX := Go.Lib.hid hB; clear hB)
      have XW : Ext Non z.on W.on := by (repeat (first | with_reducible (first | exact Ext.refl _ _ | assumption | refine Ext.upN ?_ | refine Ext.alloc ?_ _ | refine Ext.drew ?_ | refine Ext.drewN ?_ _ | refine Ext.up1N (by first | omega | simp) ?_) | refine Ext.alloc ?_ _ | refine Ext.setCell ?_ (.inr (by first | omega | simp)) _))
      have HS1 := Go.Lib.hid (HS.out.extN XW)
      obtain ⟨x5, hx5⟩ := (z.ext.trans XW).ew
      rw [hx5] at HS1 BX ⊢
      clear hx5 XW W HS q0 q1 q2 q3 q4 q5
      try simp only [Act.put]
      generalize z.on.heap.size = kx at *
      have y0 : x5.on.cell? ⟨kx, 0, none⟩ = some (.int .i64 c) := BX.out.cell rfl
      have y1 : x5.on.cell? ⟨kx, 1, none⟩ = some (.int .i64 st) := BX.out.cell rfl
      have y2 : x5.on.cell? ⟨kx, 2, none⟩ = some (.int .i64 k) := BX.out.cell rfl
      have y3 : x5.on.cell? ⟨kx, 3, none⟩ = some (.string key) := BX.out.cell rfl
      have y4 : x5.on.cell? ⟨kx, 4, none⟩ = some (.float .f64 x) := BX.out.cell rfl
      have y5 : x5.on.cell? ⟨kx, 5, none⟩ = some (.int .i64 id) := BX.out.cell rfl
      go_wp2_with fail
      refine (saga_grow w.heap.size sb v1 v2 xs (l.take i) bs HM.out hli HQ.out c st k key x id HR.out _ HS1.out).mono ?_
      rintro e w6 ⟨rfl, v1', v2', bs', hS, hx6⟩
      have HS6 := Go.Lib.hid hS
      obtain ⟨x6, hx7⟩ := (x5.ext.own hx6 (fun j e => e)).ew
      subst hx7
      clear hS hx6 y0 y1 y2 y3 y4 y5 BX HS1
      go_wp2_with fail
      go_roundg (l.length - (i + 1))
      case measure => have := HN.out; omega
      case rel => exact ⟨i + 1, v1', v2', bs', x6, hlt, rfl, by go_num, rfl, Go.Lib.hid (by rw [HT.out]; exact HS6.out)⟩
    · obtain rfl : i = l.length := by omega
      have hS := HS.out
      rw [List.take_length] at hS
      have HF := Go.Lib.hid hS
      clear hS
      go_wp2
      go_returns
      exact ⟨sb, v1, v2, bs, rfl, HF.out, by (repeat (first | with_reducible (first | exact Ext.refl _ _ | assumption | refine Ext.upN ?_ | refine Ext.alloc ?_ _ | refine Ext.drew ?_ | refine Ext.drewN ?_ _ | refine Ext.up1N (by first | omega | simp) ?_) | refine Ext.alloc ?_ _ | refine Ext.setCell ?_ (.inr (by first | omega | simp)) _))⟩
end Go.Proofs.YtekbonciafbjiaaGreat

/- The law of layer 22: lives (four joins). -/
namespace Go.Proofs.YtekbonciafbjiaaGreat
open Go.RowKit Go.Lib F64
set_option linter.unusedSimpArgs false
set_option linter.unusedVariables false
attribute [local go_sem] run_store_float
attribute [local go_sem low] EW.cellN EW.frozN alloc_cell_or alloc_froz_or EW.cellF EW.frozF EW.cell1 EW.froz1
attribute [local go_sem] relAt relUpon
def qJ (i : Nat) : Req := ⟨1, (i : Int) + 1, ⟨6, ByteArray.empty, 0, 4 + (i : Int)⟩⟩
def lJ : List Req := [qJ 0, qJ 1, qJ 2, qJ 3]
theorem lJ_ok : ∀ r ∈ lJ, ReqOk r := fun r hr => by
  have h : r = qJ 0 ∨ r = qJ 1 ∨ r = qJ 2 ∨ r = qJ 3 := by simpa [lJ] using hr
  rcases h with rfl | rfl | rfl | rfl <;> exact ⟨by unfold I64 qJ; simp, by unfold I64 qJ; simp, by unfold I64 qJ; simp, by unfold I64 qJ; simp, by simp [qJ], by simp [qJ]⟩
theorem lJ_asked : ∀ r ∈ lJ, askedB r = true := fun r hr => by
  have h : r = qJ 0 ∨ r = qJ 1 ∨ r = qJ 2 ∨ r = qJ 3 := by simpa [lJ] using hr
  rcases h with rfl | rfl | rfl | rfl <;> decide +kernel
theorem lJ_take (i : Nat) (h : i < 4) : lJ.take (i + 1) = lJ.take i ++ [qJ i] := by
  have h4 : i = 0 ∨ i = 1 ∨ i = 2 ∨ i = 3 := by omega
  rcases h4 with rfl | rfl | rfl | rfl <;> rfl
theorem lJ_out : outI (qJ 2) (stepsL (newL l4) lJ) = some 2 := by decide +kernel
theorem lJ_mem : (memN l4 lJ 1).length = 8 := by decide +kernel
set_option maxHeartbeats 2000000 in
set_option maxRecDepth 100000 in
theorem law22_lives (w : World) : Calls Tryz.prog 4 #[] w fun e w' => e = .returned (.bool true) ∧ Ext Non w w' := by
  have ROW0 : Hid (w.ownsRow w.heap.size 53 6 (.slice none 0 0) 0 []) := Go.Lib.hid (World.ownsRow_nil _ _ _ _)
  go_enter Tryz.func4, Tryz.ntmps4
  go_wp2_with fail
  go_loopg [1, 2] 4 (fun n ov iv wr => ∃ (v : Value) (i : Nat) (z : EW Non w), v = ov ∧ i ≤ 4 ∧ n = 4 - i ∧ iv = .int .i64 i ∧ wr = z.on ∧ Hid (wr.ownsRow w.heap.size 53 6 v i ((lJ.take i).flatMap Req.cells)))
  case atStart => exact ⟨_, 0, ⟨_, by (repeat (first | with_reducible (first | exact Ext.refl _ _ | assumption | refine Ext.upN ?_ | refine Ext.alloc ?_ _ | refine Ext.drew ?_ | refine Ext.drewN ?_ _ | refine Ext.up1N (by first | omega | simp) ?_) | refine Ext.alloc ?_ _ | refine Ext.setCell ?_ (.inr (by first | omega | simp)) _))⟩, rfl, by omega, rfl, rfl, rfl, ROW0⟩
  case round =>
    clear ROW0
    obtain ⟨v, i, z, rfl, hi, hn, rfl, rfl, HO⟩ := hrel
    have HN := Go.Lib.hid hn; clear hn
    by_cases hlt : i < 4
    · have HT := Go.Lib.hid (lJ_take i hlt)
      have hd : decide ((i : Int) < 4) = true := decide_eq_true (by omega)
      have hsz : w.heap.size ≤ z.on.heap.size := z.ext.size
      have w1 : IntKind.i64.wrap ((i : Int) + 1) = (i : Int) + 1 := IntWalk.i64_in _ (by omega)
      have w2 : IntKind.i64.wrap (4 + (i : Int)) = 4 + (i : Int) := IntWalk.i64_in _ (by omega)
      go_wp2_with (at_builtin; refine wpList_append_rowB rfl _ _ 36 rfl w.heap.size 53 6 56 _ Tryz.underlying36 info_req9 (by rfl) (by omega) v i _ rfl (ownR_extN HO.out (by (repeat (first | with_reducible (first | exact Ext.refl _ _ | assumption | refine Ext.upN ?_ | refine Ext.alloc ?_ _ | refine Ext.drew ?_ | refine Ext.drewN ?_ _ | refine Ext.up1N (by first | omega | simp) ?_) | refine Ext.alloc ?_ _ | refine Ext.setCell ?_ (.inr (by first | omega | simp)) _)))) z.on.heap.size [.int .i64 1, .int .i64 ((i : Int) + 1), .int .i64 6, .string ByteArray.empty, .float .f64 0, .int .i64 (4 + (i : Int))] 53 rfl (Bx.newAt _ _ _ _ rfl) rfl (by simp [Value.oneCell']) (by omega) (by omega) (by simp; omega) (fun v' W2 hO hrow => ?_); have HO2 := Go.Lib.hid hO; clear hO hrow)
      have XF : Ext Non w W2.on := (z.ext.alloc (.cells [.int .i64 1, .int .i64 ((i : Int) + 1), .int .i64 6, .string ByteArray.empty, .float .f64 0, .int .i64 (4 + (i : Int))].toArray 53)).step W2.ext (fun j hj h => by have := (own_row HO.out j h).1; omega)
      go_roundg (4 - (i + 1))
      case measure => have := HN.out; omega
      case rel => exact ⟨_, i + 1, ⟨_, XF⟩, rfl, by omega, rfl, by go_num, rfl, Go.Lib.hid (by rw [HT.out, List.flatMap_append]; exact HO2.out)⟩
    · obtain rfl : i = 4 := by omega
      have hO := HO.out
      have e4 : lJ.take 4 = lJ := rfl
      rw [e4] at hO
      obtain ⟨ra, rc, e, hR⟩ := reqs_of_own lJ hO
      have e' : v = .slice ra 4 rc := e
      subst e'
      have HR := Go.Lib.hid hR
      clear hO e4 e hR
      go_wp2_with fail
      have HA : Hid (Ints (z.on.alloc (.cells #[.int .i64 0, .int .i64 1, .int .i64 2, .int .i64 3] 3)) (some ⟨z.on.heap.size, 0, none⟩) 4 l4) := Go.Lib.hid (Ints.ofHeap (t := 3) (xs := l4) (heap_alloc_new z.on _) (by decide) (fun x hx => by simp [l4] at hx; unfold I64; omega))
      obtain ⟨rb, ro, rfl, hrb, hc⟩ := HR.out.at_ 2 (by decide)
      have q0 : z.on.cell? ⟨rb, ro + 12, none⟩ = some (.int .i64 1) := hc 0 _ rfl
      have q1 : z.on.cell? ⟨rb, ro + 12 + 1, none⟩ = some (.int .i64 3) := hc 1 _ rfl
      have q2 : z.on.cell? ⟨rb, ro + 12 + 2, none⟩ = some (.int .i64 6) := hc 2 _ rfl
      have q3 : z.on.cell? ⟨rb, ro + 12 + 3, none⟩ = some (.string ByteArray.empty) := hc 3 _ rfl
      have q4 : z.on.cell? ⟨rb, ro + 12 + 4, none⟩ = some (.float .f64 0) := hc 4 _ rfl
      have q5 : z.on.cell? ⟨rb, ro + 12 + 5, none⟩ = some (.int .i64 6) := hc 5 _ rfl
      clear hc
      refine (saga_New _ 4 l4 l4_ok (some ⟨rb, ro, none⟩) rc lJ lJ_ok lJ_asked (by decide) _ HA.out (HR.out.extN (by (repeat (first | with_reducible (first | exact Ext.refl _ _ | assumption | refine Ext.upN ?_ | refine Ext.alloc ?_ _ | refine Ext.drew ?_ | refine Ext.drewN ?_ _ | refine Ext.up1N (by first | omega | simp) ?_) | refine Ext.alloc ?_ _ | refine Ext.setCell ?_ (.inr (by first | omega | simp)) _))))).mono ?_
      rintro e _ ⟨s, v1, v2, bs, rfl, hS, hx⟩
      obtain ⟨x5, rfl⟩ := hx.ew
      have HS := Go.Lib.hid hS
      clear hS hx
      go_wp2_with fail
      refine (saga_Conf_yes _ s v1 v2 l4 lJ bs l4_ok (by decide) (fun q hq => ⟨by have := lJ_asked q hq; unfold askedB at this; simpa using this, (lJ_ok q hq).x⟩) 1 (by omega) (by decide) _ HS.out).mono ?_
      rintro e _ ⟨ca, cc, rfl, hI, hx⟩
      obtain ⟨x6, rfl⟩ := hx.ew
      rw [lJ_mem]
      clear hI hx
      go_wp2_with fail
      refine (saga_Outcome _ s v1 v2 l4 lJ bs (by decide) lJ_ok 1 3 6 ByteArray.empty 0 6 (lJ_ok (qJ 2) (by simp [lJ])) _ (HS.out.extN (by (repeat (first | with_reducible (first | exact Ext.refl _ _ | assumption | refine Ext.upN ?_ | refine Ext.alloc ?_ _ | refine Ext.drew ?_ | refine Ext.drewN ?_ _ | refine Ext.up1N (by first | omega | simp) ?_) | refine Ext.alloc ?_ _ | refine Ext.setCell ?_ (.inr (by first | omega | simp)) _))))).mono ?_
      rintro e _ ⟨rfl, hx⟩
      obtain ⟨x7, rfl⟩ := hx.ew
      have e2 : outI ⟨1, 3, ⟨6, ByteArray.empty, 0, 6⟩⟩ (stepsL (newL l4) lJ) = some 2 := lJ_out
      rw [e2]
      clear hx e2
      have ev : outV (stepsL (newL l4) lJ) (some 2) = .tuple #[.int .i64 3, .agg #[.int .i64 ((stepsL (newL l4) lJ).getD 2 zeroSp).code, .float .f64 ((stepsL (newL l4) lJ).getD 2 zeroSp).real], .bool true] := rfl
      rw [ev]
      clear ev
      generalize ((stepsL (newL l4) lJ).getD 2 zeroSp).code = cd
      generalize ((stepsL (newL l4) lJ).getD 2 zeroSp).real = rl
      go_wp2_with fail
      refine Calls.ew (saga_Len _ s v1 v2 l4 lJ bs _ (HS.out.extN (by (repeat (first | with_reducible (first | exact Ext.refl _ _ | assumption | refine Ext.upN ?_ | refine Ext.alloc ?_ _ | refine Ext.drew ?_ | refine Ext.drewN ?_ _ | refine Ext.up1N (by first | omega | simp) ?_) | refine Ext.alloc ?_ _ | refine Ext.setCell ?_ (.inr (by first | omega | simp)) _))))) ?_
      rintro e x8 rfl
      have el : lJ.length = 4 := rfl
      rw [el]
      go_wp2
      go_ret
      exact ⟨rfl, by (repeat (first | with_reducible (first | exact Ext.refl _ _ | assumption | refine Ext.upN ?_ | refine Ext.alloc ?_ _ | refine Ext.drew ?_ | refine Ext.drewN ?_ _ | refine Ext.up1N (by first | omega | simp) ?_) | refine Ext.alloc ?_ _ | refine Ext.setCell ?_ (.inr (by first | omega | simp)) _))⟩
end Go.Proofs.YtekbonciafbjiaaGreat

/- The law SagaNil: the walk; a question as it comes in. -/
namespace Go.Proofs.YtekbonciafbjiaaGreat
open Go.RowKit Go.Lib F64
set_option linter.unusedSimpArgs false
set_option linter.unusedVariables false
attribute [local go_sem] run_store_float
attribute [local go_sem low] EW.cellN EW.frozN alloc_cell_or alloc_froz_or EW.cellF EW.frozF EW.cell1 EW.froz1
attribute [local go_sem] relAt relUpon
section
open Go.ChangeShapes Go.WideShapes
variable {H : Type} {enc : TypeId × Value → H} {W : World} {base n : Nat} {spare : Nat → Bool} {held : Bool}
theorem read_bool22 {cs : List Value} {x : DataW H × List MemPlace} (h : DataW.trod enc Tryz.prog W base spare held n 4 cs = some x) : ∃ k : Bool, cs = [.bool k] := by
  obtain ⟨k, e, _⟩ := DataW.trod_bool Tryz.underlying4 h
  exact ⟨k, e⟩
theorem c_bool22 : (Tryz.prog).cellsOf 4 = 1 := by kernel_rfl
theorem c_q22 : (Tryz.prog).cellsOf 30 = 10 := by kernel_rfl
theorem read_q22 {cs : List Value} {x : DataW H × List MemPlace} (h : DataW.trod enc Tryz.prog W base spare held n 30 cs = some x) :
    ∃ (q0 q1 : Int) (q2 : Bool) (c s k : Int) (key : ByteArray) (b id : Int) (ba : Option Addr) (bc : Nat) (bad : List Int), cs = [.int .i64 q0, .int .i64 q1, .bool q2, .int .i64 c, .int .i64 s, .int .i64 k, .string key, .int .u64 b, .int .i64 id, .slice ba bad.length bc] ∧ I64 q0 ∧ I64 q1 ∧ ReqOk ⟨c, s, ⟨k, key, b.toNat, id⟩⟩ ∧ Ints W ba bc bad := by
  obtain ⟨hl, hf⟩ := read_struct Tryz.underlying30 h
  have hl : cs.length = 10 := hl.trans c_q22
  match cs, hl with
  | [v0, v1, v2, v3, v4, v5, v6, v7, v8, v9], _ =>
    obtain ⟨_, _, h0⟩ := hf 0 _ 3 0 1 rfl rfl rfl c_int
    obtain ⟨_, _, h1⟩ := hf 1 _ 3 1 1 rfl rfl rfl c_int
    obtain ⟨_, _, h2⟩ := hf 2 _ 4 2 1 rfl rfl rfl c_bool22
    obtain ⟨_, _, h3⟩ := hf 3 _ 28 3 6 rfl rfl rfl c_ask
    obtain ⟨_, _, h4⟩ := hf 4 _ 22 9 1 rfl rfl rfl c_ints
    obtain ⟨k0, e0, w0⟩ := read_int h0
    obtain ⟨k1, e1, w1⟩ := read_int h1
    obtain ⟨k2, e2⟩ := read_bool22 h2
    obtain ⟨kc, ks, kk, key, bits, kid, e3, w3⟩ := read_ask h3
    obtain ⟨ba, bc, bad, e4, hb, _⟩ := read_ints h4
    simp at e0 e1 e2 e3 e4
    obtain ⟨rfl, rfl, rfl, rfl, rfl, rfl⟩ := e3
    subst e0; subst e1; subst e2; subst e4
    exact ⟨k0, k1, k2, kc, ks, kk, key, bits, kid, ba, bc, bad, rfl, w0, w1, w3, hb⟩
end
end Go.Proofs.YtekbonciafbjiaaGreat
