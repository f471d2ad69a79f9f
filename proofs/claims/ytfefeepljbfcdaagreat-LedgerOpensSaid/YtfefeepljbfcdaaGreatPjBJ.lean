/- Joined texts: OpenP, OpenQ, OpenR. What each proves stands at its head; no conditions beside those in its theorems. -/
import Derived.Deep.MidRow
import Derived.Deep.WholeRow
import Derived.Shelf.SlMaps.Clone
import Derived.Test.YtfefeepljbfcdaaGreatPjBI
/- Layer 12: opening bytes, in plain words. No program in sight. -/
namespace Go.Proofs.YtfefeepljbfcdaaGreat
open F64
set_option linter.unusedVariables false
set_option linter.unusedSimpArgs false
/-! Rows of numbers of one byte. -/
def nsR : Nat → Rd → Rd
 | 0, r => r
 | n + 1, r => numR 1 (nsR n r)
def nsV : Nat → Rd → List Int
 | 0, _ => []
 | n + 1, r => nsV n r ++ [(numV 1 (nsR n r) : Int)]
theorem nsV_succ (n : Nat) (r : Rd) : nsV (n + 1) r = nsV n r ++ [(numV 1 (nsR n r) : Int)] := rfl
theorem nsR_succ (n : Nat) (r : Rd) : nsR (n + 1) r = numR 1 (nsR n r) := rfl
theorem nsV_len : ∀ (n : Nat) (r : Rd), (nsV n r).length = n
 | 0, _ => rfl
 | n + 1, r => by unfold nsV; rw [List.length_append, nsV_len n r]; rfl
theorem nsV_lt : ∀ (n : Nat) (r : Rd), ∀ x ∈ nsV n r, 0 ≤ x ∧ x ≤ 255
 | 0, _, x, h => by simp [nsV] at h
 | n + 1, r, x, h => by
  unfold nsV at h
  rcases List.mem_append.1 h with h | h
  ·exact nsV_lt n r x h
  ·have := numV_lt 1 (nsR n r)
   simp only [List.mem_singleton] at h
   omega
theorem nsR_len : ∀ (n : Nat) (r : Rd), (nsR n r).s.length ≤ r.s.length
 | 0, _ => Nat.le_refl _
 | n + 1, r => Nat.le_trans (numR_len 1 _) (nsR_len n r)
def cR1 (t : List UInt8) : Rd := numR 1 ⟨t, false⟩
def cEp (t : List UInt8) : Int := (numV 2 (cR1 t) : Nat)
def cR2 (t : List UInt8) : Rd := numR 2 (cR1 t)
def cN (t : List UInt8) : Nat := numV 1 (cR2 t)
def cR3 (t : List UInt8) : Rd := numR 1 (cR2 t)
def cXs (t : List UInt8) : List Int := nsV (cN t) (cR3 t)
def cR4 (t : List UInt8) : Rd := nsR (cN t) (cR3 t)
def readCB (t : List UInt8) : Bool := decide (numV 1 ⟨t, false⟩ = 67) && decide (endE (cR4 t) = 0) && confB (cEp t) (cXs t)
def readCE (t : List UInt8) : Int := if readCB t = true then 0 else 5
def readCep (t : List UInt8) : Int := if readCB t = true then cEp t else 0
def readCxs (t : List UInt8) : List Int := if readCB t = true then cXs t else []
/-! A result. -/
def xR1 (t : List UInt8) : Rd := numR 1 ⟨t, false⟩
def xCd (t : List UInt8) : Int := (numV 1 ⟨t, false⟩ : Nat)
def xBits (t : List UInt8) : Nat := numV 8 (xR1 t)
def xR2 (t : List UInt8) : Rd := numR 8 (xR1 t)
def readXB (t : List UInt8) : Bool := fromB (xBits t) && decide (endE (xR2 t) = 0) && decide (xCd t ≤ 8)
def readXE (t : List UInt8) : Int := if readXB t = true then 0 else 5
def readXcd (t : List UInt8) : Int := if readXB t = true then xCd t else 0
def readXre (t : List UInt8) : Nat := if readXB t = true then xBits t else 0
/-! A ledger. -/
def itR : Nat → Rd → Rd
 | 0, r => r
 | n + 1, r => numR 8 (textR (itR n r))
def itV : Nat → Rd → Ks
 | 0, _ => []
 | n + 1, r => itV n r ++ [(sB (textV (itR n r)), numV 8 (textR (itR n r)))]
def clR : Nat → Rd → Rd
 | 0, r => r
 | n + 1, r => textR (numR 4 (clR n r))
def clV (n : Nat) (r : Rd) (i : Nat) : Cl := if i < n then ⟨(numV 4 (clR i r) : Nat), readXcd (textV (numR 4 (clR i r))), readXre (textV (numR 4 (clR i r)))⟩ else ⟨0, 0, 0⟩
def clE : Nat → Rd → Int → Int
 | 0, _, e => e
 | n + 1, r, e => if readXE (textV (numR 4 (clR n r))) = 0 then clE n r e else 5
def oR1 (t : List UInt8) : Rd := numR 1 ⟨t, false⟩
def oC (t : List UInt8) : List UInt8 := textV (oR1 t)
def oR2 (t : List UInt8) : Rd := textR (oR1 t)
def oN (t : List UInt8) : Nat := numV 1 (oR2 t)
def oR3 (t : List UInt8) : Rd := numR 1 (oR2 t)
def oNext (t : List UInt8) : List Int := nsV (oN t) (oR3 t)
def oR4 (t : List UInt8) : Rd := nsR (oN t) (oR3 t)
def oDone (t : List UInt8) : Int := (numV 4 (oR4 t) : Nat)
def oR5 (t : List UInt8) : Rd := numR 4 (oR4 t)
def oK (t : List UInt8) : Nat := numV 1 (oR5 t)
def oR6 (t : List UInt8) : Rd := numR 1 (oR5 t)
def oItems (t : List UInt8) : Ks := itV (oK t) (oR6 t)
def oR7 (t : List UInt8) : Rd := itR (oK t) (oR6 t)
def oR8 (t : List UInt8) : Rd := clR 8 (oR7 t)
def openG (t : List UInt8) : Lg := ⟨readCep (oC t), readCxs (oC t), oNext t, oDone t, oItems t, clV 8 (oR7 t)⟩
def itemOk (l : Ks) (i : Nat) : Bool := match l[i]? with
 | none => true
 | some p => decide (1 ≤ p.1.size) && decide (p.1.size ≤ 16) && (match i with | 0 => true | j + 1 => (match l[j]? with | none => true | some q => decide (kl q < kl p))) && fromB p.2
def cliOk (c : Cl) : Bool := decide (c.stamp ≤ 1048576) && (decide (c.stamp ≠ 0) || (decide (c.code = 0) && decide (canonN c.real = 0)))
def mayB (g : Lg) : Bool := confB g.epoch g.mem && membersB g.next && decide (4 * g.epoch ≤ g.done) && decide (g.done ≤ 4 * (g.epoch + 1)) && decide (g.keys.length ≤ 16) && (List.range g.keys.length).all (itemOk g.keys) && (List.range 8).all (fun i => cliOk (g.cl i))
def openB (t : List UInt8) : Bool := decide (numV 1 ⟨t, false⟩ = 76) && decide (clE 8 (oR7 t) (readCE (oC t)) = 0) && decide (endE (oR8 t) = 0) && mayB (openG t)
theorem itR_len : ∀ (n : Nat) (r : Rd), (itR n r).s.length ≤ r.s.length
 | 0, _ => Nat.le_refl _
 | n + 1, r => Nat.le_trans (numR_len 8 _) (Nat.le_trans (textR_len _) (itR_len n r))
theorem clR_len : ∀ (n : Nat) (r : Rd), (clR n r).s.length ≤ r.s.length
 | 0, _ => Nat.le_refl _
 | n + 1, r => Nat.le_trans (textR_len _) (Nat.le_trans (numR_len 4 _) (clR_len n r))
theorem itV_succ (n : Nat) (r : Rd) : itV (n + 1) r = itV n r ++ [(sB (textV (itR n r)), numV 8 (textR (itR n r)))] := rfl
theorem itR_succ (n : Nat) (r : Rd) : itR (n + 1) r = numR 8 (textR (itR n r)) := rfl
theorem clR_succ (n : Nat) (r : Rd) : clR (n + 1) r = textR (numR 4 (clR n r)) := rfl
theorem clE_succ (n : Nat) (r : Rd) (e : Int) : clE (n + 1) r e = if readXE (textV (numR 4 (clR n r))) = 0 then clE n r e else 5 := rfl
theorem itV_len : ∀ (n : Nat) (r : Rd), (itV n r).length = n
 | 0, _ => rfl
 | n + 1, r => by unfold itV; rw [List.length_append, itV_len n r]; rfl
/-! What was written is read again. -/
theorem ns_of : ∀ (xs : List Int) (t : List UInt8), (∀ x ∈ xs, 0 ≤ x ∧ x ≤ 255) → nsV xs.length ⟨xs.flatMap big1 ++ t, false⟩ = xs ∧ nsR xs.length ⟨xs.flatMap big1 ++ t, false⟩ = ⟨t, false⟩ := by
 intro xs t h
 have key : ∀ (n : Nat) (hn : n ≤ xs.length), nsV n ⟨xs.flatMap big1 ++ t, false⟩ = xs.take n ∧ nsR n ⟨xs.flatMap big1 ++ t, false⟩ = ⟨(xs.drop n).flatMap big1 ++ t, false⟩ := by
  intro n
  induction n with
  | zero => intro _; exact ⟨rfl, rfl⟩
  | succ n ih =>
   intro hn
   obtain ⟨h1, h2⟩ := ih (by omega)
   have hlt : n < xs.length := by omega
   have e : (xs.drop n).flatMap big1 ++ t = big1 xs[n] ++ ((xs.drop (n + 1)).flatMap big1 ++ t) := by
    rw [List.drop_eq_getElem_cons hlt, List.flatMap_cons, List.append_assoc]
   have hx := h _ (List.getElem_mem hlt)
   obtain ⟨n1, n2⟩ := num1_of hx ((xs.drop (n + 1)).flatMap big1 ++ t)
   rw [nsV_succ, nsR_succ, h1, h2, e, n1, n2, List.take_succ_eq_append_getElem hlt]
   refine ⟨?_, rfl⟩
   congr 2
   omega
 obtain ⟨h1, h2⟩ := key xs.length (Nat.le_refl _)
 rw [h1, h2, List.take_length, List.drop_length]
 exact ⟨rfl, rfl⟩
theorem endE_nil : endE ⟨[], false⟩ = 0 := rfl
theorem readC_of {ep : Int} {xs : List Int} (h : confB ep xs = true) : readCB (confT ep xs) = true ∧ cEp (confT ep xs) = ep ∧ cXs (confT ep xs) = xs := by
 have hh := h
 unfold confB at hh
 simp only [Bool.and_eq_true, decide_eq_true_eq] at hh
 obtain ⟨⟨e0, e60⟩, hm⟩ := hh
 obtain ⟨m1, -, -, m10⟩ := members_facts hm
 have e : confT ep xs = big1 67 ++ (big2 ep ++ (big1 xs.length ++ (xs.flatMap big1 ++ []))) := by unfold confT; simp only [List.append_assoc, List.append_nil]
 have a := num1_of (n := 67) (by omega) (big2 ep ++ (big1 xs.length ++ (xs.flatMap big1 ++ [])))
 have b := num2_of (n := ep) (by omega) (big1 xs.length ++ (xs.flatMap big1 ++ []))
 have c := num1_of (n := xs.length) (by omega) (xs.flatMap big1 ++ [])
 have d := ns_of xs [] (fun x hx => by have := m1 x hx; omega)
 have r1 : cR1 (confT ep xs) = ⟨big2 ep ++ (big1 xs.length ++ (xs.flatMap big1 ++ [])), false⟩ := by unfold cR1; rw [e, a.2]
 have r2 : cR2 (confT ep xs) = ⟨big1 xs.length ++ (xs.flatMap big1 ++ []), false⟩ := by unfold cR2; rw [r1, b.2]
 have r3 : cR3 (confT ep xs) = ⟨xs.flatMap big1 ++ [], false⟩ := by unfold cR3; rw [r2, c.2]
 have hn : cN (confT ep xs) = xs.length := by unfold cN; rw [r2, c.1]; omega
 have hep : cEp (confT ep xs) = ep := by unfold cEp; rw [r1, b.1]; omega
 have hxs : cXs (confT ep xs) = xs := by unfold cXs; rw [hn, r3, d.1]
 have r4 : cR4 (confT ep xs) = ⟨[], false⟩ := by unfold cR4; rw [hn, r3, d.2]
 refine ⟨?_, hep, hxs⟩
 unfold readCB
 rw [hep, hxs, h, r4, e, a.1, endE_nil]
 decide
theorem fromB_canon {x : Nat} (hx : canonN x = x) : fromB x = true := by
 unfold fromB
 unfold canonN at hx
 split at hx
 ·rename_i hw; subst hx; decide
 ·rename_i hw; simp [hw]
theorem readX_of {cd : Int} {x : Nat} (h : 0 ≤ cd ∧ cd ≤ 8) (hx : canonN x = x) (h64 : x < 18446744073709551616) : readXB (resT cd x) = true ∧ xCd (resT cd x) = cd ∧ xBits (resT cd x) = x := by
 have e : resT cd x = big1 cd ++ (big8 x ++ []) := by unfold resT; rw [List.append_nil]
 have a := num1_of (n := cd) (by omega) (big8 x ++ [])
 have b := num8_of (n := x) (by omega) []
 have r1 : xR1 (resT cd x) = ⟨big8 x ++ [], false⟩ := by unfold xR1; rw [e, a.2]
 have hc : xCd (resT cd x) = cd := by unfold xCd; rw [e, a.1]; omega
 have hb : xBits (resT cd x) = x := by unfold xBits; rw [r1, b.1]; omega
 have r2 : xR2 (resT cd x) = ⟨[], false⟩ := by unfold xR2; rw [r1, b.2]
 refine ⟨?_, hc, hb⟩
 unfold readXB
 rw [hc, hb, r2, fromB_canon hx, endE_nil]
 simp [h.2]
theorem it_of : ∀ (l : Ks) (t : List UInt8), (∀ p ∈ l, p.1.size ≤ 65535 ∧ p.2 < 18446744073709551616) → itV l.length ⟨l.flatMap itemT ++ t, false⟩ = l ∧ itR l.length ⟨l.flatMap itemT ++ t, false⟩ = ⟨t, false⟩ := by
 intro l t h
 have key : ∀ (n : Nat) (hn : n ≤ l.length), itV n ⟨l.flatMap itemT ++ t, false⟩ = l.take n ∧ itR n ⟨l.flatMap itemT ++ t, false⟩ = ⟨(l.drop n).flatMap itemT ++ t, false⟩ := by
  intro n
  induction n with
  | zero => intro _; exact ⟨rfl, rfl⟩
  | succ n ih =>
   intro hn
   obtain ⟨h1, h2⟩ := ih (by omega)
   have hlt : n < l.length := by omega
   have hx := h _ (List.getElem_mem hlt)
   have e : (l.drop n).flatMap itemT ++ t = big2 (kl l[n]).length ++ kl l[n] ++ (big8 (l[n]).2 ++ ((l.drop (n + 1)).flatMap itemT ++ t)) := by
    rw [List.drop_eq_getElem_cons hlt, List.flatMap_cons]
    unfold itemT textB
    simp only [List.append_assoc]
   have hs : (kl l[n]).length = (l[n]).1.size := size_data _
   obtain ⟨n1, n2⟩ := text_of (s := kl l[n]) (by omega) (big8 (l[n]).2 ++ ((l.drop (n + 1)).flatMap itemT ++ t))
   obtain ⟨m1, m2⟩ := num8_of (n := (l[n]).2) (by omega) ((l.drop (n + 1)).flatMap itemT ++ t)
   rw [itV_succ, itR_succ, h1, h2, e, n1, n2, m1, m2, List.take_succ_eq_append_getElem hlt]
   refine ⟨?_, rfl⟩
   have e1 : sB (kl l[n]) = (l[n]).1 := sB_of _
   have e2 : ((l[n]).2 : Int).toNat = (l[n]).2 := by omega
   rw [e1, e2]
 obtain ⟨h1, h2⟩ := key l.length (Nat.le_refl _)
 rw [h1, h2, List.take_length, List.drop_length]
 exact ⟨rfl, rfl⟩
theorem cl_of (cl : Nat → Cl) (h : ∀ i, 0 ≤ (cl i).stamp ∧ (cl i).stamp ≤ 1048576 ∧ 0 ≤ (cl i).code ∧ (cl i).code ≤ 8 ∧ (cl i).real < 18446744073709551616 ∧ canonN (cl i).real = (cl i).real) :
  ∀ (n : Nat), n ≤ 8 → clR n ⟨(List.range 8).flatMap (fun i => cliT (cl i)), false⟩ = ⟨((List.range 8).drop n).flatMap (fun i => cliT (cl i)), false⟩ ∧ (∀ i, i < n → clV n ⟨(List.range 8).flatMap (fun i => cliT (cl i)), false⟩ i = cl i) ∧ clE n ⟨(List.range 8).flatMap (fun i => cliT (cl i)), false⟩ 0 = 0 := by
 intro n
 induction n with
 | zero => intro _; exact ⟨rfl, fun i hi => absurd hi (by omega), rfl⟩
 | succ n ih =>
  intro hn
  obtain ⟨h1, h2, h3⟩ := ih (by omega)
  generalize hr0 : (⟨(List.range 8).flatMap (fun i => cliT (cl i)), false⟩ : Rd) = r0 at *
  have hlt : n < (List.range 8).length := by rw [List.length_range]; omega
  obtain ⟨s0, s1, c0, c1, x0, x1⟩ := h n
  have e : ((List.range 8).drop n).flatMap (fun i => cliT (cl i)) = big4 (cl n).stamp ++ (big2 (resT (cl n).code (cl n).real).length ++ resT (cl n).code (cl n).real ++ ((List.range 8).drop (n + 1)).flatMap (fun i => cliT (cl i))) := by
   rw [List.drop_eq_getElem_cons hlt, List.flatMap_cons, List.getElem_range]
   unfold cliT textB
   simp only [List.append_assoc]
  obtain ⟨a1, a2⟩ := num4_of (n := (cl n).stamp) (by omega) (big2 (resT (cl n).code (cl n).real).length ++ resT (cl n).code (cl n).real ++ ((List.range 8).drop (n + 1)).flatMap (fun i => cliT (cl i)))
  obtain ⟨b1, b2⟩ := text_of (s := resT (cl n).code (cl n).real) (by rw [resT_len]; omega) (((List.range 8).drop (n + 1)).flatMap (fun i => cliT (cl i)))
  obtain ⟨y1, y2, y3⟩ := readX_of ⟨c0, c1⟩ x1 x0
  have q1 : numR 4 (clR n r0) = ⟨big2 (resT (cl n).code (cl n).real).length ++ resT (cl n).code (cl n).real ++ ((List.range 8).drop (n + 1)).flatMap (fun i => cliT (cl i)), false⟩ := by rw [h1, e, a2]
  have q2 : textV (numR 4 (clR n r0)) = resT (cl n).code (cl n).real := by rw [q1, b1]
  have q3 : (numV 4 (clR n r0) : Int) = (cl n).stamp := by rw [h1, e, a1]; omega
  refine ⟨?_, ?_, ?_⟩
  ·rw [clR_succ, q1, b2]
  ·intro i hi
   by_cases hin : i < n
   ·have := h2 i hin
    unfold clV at this ⊢
    rw [if_pos hin] at this
    rw [if_pos hi]
    exact this
   ·obtain rfl : i = n := by omega
    unfold clV readXcd readXre
    rw [if_pos hi, q2, q3, if_pos y1, if_pos y1, y2, y3]
  ·rw [clE_succ, q2]; unfold readXE; rw [if_pos y1, if_pos rfl, h3]
end Go.Proofs.YtfefeepljbfcdaaGreat

/- Layer 12: a ledger's bytes can be opened, in plain words. No program in sight. -/
namespace Go.Proofs.YtfefeepljbfcdaaGreat
open F64
set_option linter.unusedVariables false
set_option linter.unusedSimpArgs false
theorem open_parts {g : Lg} (I : Inv g) (nd : NdK g.keys) : numV 1 ⟨ledgT g, false⟩ = 76 ∧ oC (ledgT g) = confT g.epoch g.mem ∧ oNext (ledgT g) = g.next ∧ oDone (ledgT g) = g.done ∧ oItems (ledgT g) = sortK g.keys ∧ oR7 (ledgT g) = ⟨(List.range 8).flatMap (fun i => cliT (g.cl i)), false⟩ := by
 obtain ⟨n1, -, -, n10⟩ := members_facts I.mn
 obtain ⟨-, -, -, m10⟩ := members_facts I.mm
 have hk : (sortK g.keys).length = g.keys.length := sortK_len g.keys
 have hkl := I.kl; have hdn := I.dn; have hep := I.ep
 obtain ⟨C, hC⟩ : ∃ C, C = (List.range 8).flatMap (fun i => cliT (g.cl i)) := ⟨_, rfl⟩
 obtain ⟨T6, h6⟩ : ∃ T, T = (sortK g.keys).flatMap itemT ++ C := ⟨_, rfl⟩
 obtain ⟨T5, h5⟩ : ∃ T, T = big1 g.keys.length ++ T6 := ⟨_, rfl⟩
 obtain ⟨T4, h4⟩ : ∃ T, T = big4 g.done ++ T5 := ⟨_, rfl⟩
 obtain ⟨T3, h3⟩ : ∃ T, T = g.next.flatMap big1 ++ T4 := ⟨_, rfl⟩
 obtain ⟨T2, h2⟩ : ∃ T, T = big1 g.next.length ++ T3 := ⟨_, rfl⟩
 obtain ⟨T1, h1⟩ : ∃ T, T = big2 (confT g.epoch g.mem).length ++ confT g.epoch g.mem ++ T2 := ⟨_, rfl⟩
 have e : ledgT g = big1 76 ++ T1 := by
  unfold ledgT textB
  rw [h1, h2, h3, h4, h5, h6, hC]
  simp only [List.append_assoc]
 have a1 := num1_of (n := 76) (by omega) T1
 have r1 : oR1 (ledgT g) = ⟨T1, false⟩ := by unfold oR1; rw [e, a1.2]
 have a2 := text_of (s := confT g.epoch g.mem) (by rw [confT_len]; omega) T2
 rw [← h1] at a2
 have c2 : oC (ledgT g) = confT g.epoch g.mem := by unfold oC; rw [r1, a2.1]
 have r2 : oR2 (ledgT g) = ⟨T2, false⟩ := by unfold oR2; rw [r1, a2.2]
 have a3 := num1_of (n := g.next.length) (by omega) T3
 rw [← h2] at a3
 have c3 : oN (ledgT g) = g.next.length := by unfold oN; rw [r2, a3.1]; omega
 have r3 : oR3 (ledgT g) = ⟨T3, false⟩ := by unfold oR3; rw [r2, a3.2]
 have a4 := ns_of g.next T4 (fun x hx => by have := n1 x hx; omega)
 rw [← h3] at a4
 have c4 : oNext (ledgT g) = g.next := by unfold oNext; rw [c3, r3, a4.1]
 have r4 : oR4 (ledgT g) = ⟨T4, false⟩ := by unfold oR4; rw [c3, r3, a4.2]
 have a5 := num4_of (n := g.done) (by omega) T5
 rw [← h4] at a5
 have c5 : oDone (ledgT g) = g.done := by unfold oDone; rw [r4, a5.1]; omega
 have r5 : oR5 (ledgT g) = ⟨T5, false⟩ := by unfold oR5; rw [r4, a5.2]
 have a6 := num1_of (n := g.keys.length) (by omega) T6
 rw [← h5] at a6
 have c6 : oK (ledgT g) = (sortK g.keys).length := by unfold oK; rw [r5, a6.1]; omega
 have r6 : oR6 (ledgT g) = ⟨T6, false⟩ := by unfold oR6; rw [r5, a6.2]
 have a7 := it_of (sortK g.keys) C (fun p hp => by have := I.kb p (mem_sortK hp); omega)
 rw [← h6] at a7
 have c7 : oItems (ledgT g) = sortK g.keys := by unfold oItems; rw [c6, r6, a7.1]
 have r7 : oR7 (ledgT g) = ⟨C, false⟩ := by unfold oR7; rw [c6, r6, a7.2]
 exact ⟨by rw [e, a1.1]; rfl, c2, c4, c5, c7, by rw [r7, hC]⟩
theorem rise_item {l : Ks} (h : RiseK l) (hb : ∀ p ∈ l, 1 ≤ p.1.size ∧ p.1.size ≤ 16 ∧ fromB p.2 = true) : ∀ i, i < l.length → itemOk l i = true := fun i hi => by
 unfold itemOk
 rw [List.getElem?_eq_getElem hi]
 obtain ⟨h1, h2, h3⟩ := hb _ (List.getElem_mem hi)
 cases i with
 | zero => simp [h1, h2, h3]
 | succ j =>
  have hj : j < l.length := by omega
  have hlt : kl l[j] < kl l[j + 1] := List.pairwise_iff_getElem.1 h j (j + 1) hj hi (by omega)
  simp only [List.getElem?_eq_getElem hj]
  simp [h1, h2, h3, hlt]
theorem open_ok {g : Lg} (I : Inv g) (nd : NdK g.keys) : openB (ledgT g) = true ∧ (openG (ledgT g)).keys = sortK g.keys := by
 obtain ⟨p1, p2, p3, p4, p5, p6⟩ := open_parts I nd
 have hcf : confB g.epoch g.mem = true := by unfold confB; rw [I.mm]; simp [I.ep.1, I.ep.2]
 obtain ⟨c1, c2, c3⟩ := readC_of hcf
 obtain ⟨d1, d2, d3⟩ := cl_of g.cl (fun i => by have := I.cb i; exact ⟨this.1, this.2.1, this.2.2.1, this.2.2.2.1, this.2.2.2.2.1, this.2.2.2.2.2.1⟩) 8 (Nat.le_refl _)
 have hce : readCE (oC (ledgT g)) = 0 := by unfold readCE; rw [p2, if_pos c1]
 have hr8 : oR8 (ledgT g) = ⟨[], false⟩ := by unfold oR8; rw [p6, d1]; rfl
 have hg : openG (ledgT g) = ⟨g.epoch, g.mem, g.next, g.done, sortK g.keys, clV 8 (oR7 (ledgT g))⟩ := by
  unfold openG readCep readCxs
  rw [p2, if_pos c1, if_pos c1, c2, c3, p3, p4, p5]
 refine ⟨?_, by rw [hg]⟩
 unfold openB
 rw [p1, hce, p6, d3, hr8, endE_nil, hg]
 have hm : mayB ⟨g.epoch, g.mem, g.next, g.done, sortK g.keys, clV 8 (oR7 (ledgT g))⟩ = true := by
  unfold mayB
  have hk : (sortK g.keys).length ≤ 16 := by rw [sortK_len]; exact I.kl
  have hi : (List.range (sortK g.keys).length).all (itemOk (sortK g.keys)) = true := by
   rw [List.all_eq_true]
   intro i hi
   exact rise_item (sortK_rise nd) (fun p hp => by
    have := I.kb p (mem_sortK hp)
    exact ⟨this.1, this.2.1, fromB_canon this.2.2.2⟩) i (List.mem_range.1 hi)
  have hc : (List.range 8).all (fun i => cliOk (clV 8 (oR7 (ledgT g)) i)) = true := by
   rw [List.all_eq_true]
   intro i hi
   have hi8 := List.mem_range.1 hi
   rw [p6, d2 i hi8]
   have := I.cb i
   unfold cliOk
   by_cases h0 : (g.cl i).stamp = 0
   ·have z := this.2.2.2.2.2.2 h0
    simp [this.2.1, z.1, z.2, canon0]
   ·simp [this.2.1, h0]
  show (confB g.epoch g.mem && membersB g.next && decide (4 * g.epoch ≤ g.done) && decide (g.done ≤ 4 * (g.epoch + 1)) && decide ((sortK g.keys).length ≤ 16) && (List.range (sortK g.keys).length).all (itemOk (sortK g.keys)) && (List.range 8).all (fun i => cliOk (clV 8 (oR7 (ledgT g)) i))) = true
  rw [hcf, I.mn, hi, hc, decide_eq_true I.dn.1, decide_eq_true I.dn.2, decide_eq_true hk]
  rfl
 rw [hm]
 rfl
end Go.Proofs.YtfefeepljbfcdaaGreat

/- Layer 12: bytes that can be opened are a ledger's, in plain words. No program in sight. -/
namespace Go.Proofs.YtfefeepljbfcdaaGreat
open F64
set_option linter.unusedVariables false
set_option linter.unusedSimpArgs false
theorem clE_allP : ∀ (n : Nat) (r : Rd) (e : Int), clE n r e = 0 → e = 0 ∧ ∀ i, i < n → readXE (textV (numR 4 (clR i r))) = 0
 | 0, _, _, h => ⟨h, fun i hi => absurd hi (by omega)⟩
 | n + 1, r, e, h => by
  rw [clE_succ] at h
  by_cases hx : readXE (textV (numR 4 (clR n r))) = 0
  ·rw [if_pos hx] at h
   obtain ⟨h1, h2⟩ := clE_allP n r e h
   exact ⟨h1, fun i hi => by by_cases q : i = n; subst q; exact hx; exact h2 i (by omega)⟩
  ·rw [if_neg hx] at h; cases h
theorem canon_fromB' {x : Nat} (h : fromB x = true) : canonN x = x := by
 unfold fromB at h
 unfold canonN
 by_cases hw : wild x = true
 ·rw [hw] at h
  simp at h
  rw [if_pos hw, h]
 ·rw [if_neg hw]
theorem lowB_eq {n : Int} {c : UInt8} (h0 : 0 ≤ n) (h : n.toNat % 256 = c.toNat) : lowB n = c := UInt8.toNat_inj.1 ((lowB_nat n h0).trans h)
theorem big1_back {l : List UInt8} (h : l.length = 1) : big1 (beN l : Nat) = l := by
 match l, h with
 | [a], _ =>
  have ha := a.toNat_lt
  unfold big1 beN
  simp only [List.foldl_cons, List.foldl_nil]
  simp only [List.cons.injEq, and_true]
  exact lowB_eq (by omega) (by omega)
theorem big2_back {l : List UInt8} (h : l.length = 2) : big2 (beN l : Nat) = l := by
 match l, h with
 | [a, b], _ =>
  have ha := a.toNat_lt; have hb := b.toNat_lt
  unfold big2 beN
  simp only [List.foldl_cons, List.foldl_nil]
  simp only [List.cons.injEq, and_true]
  exact ⟨lowB_eq (by omega) (by omega), lowB_eq (by omega) (by omega)⟩
theorem big4_back {l : List UInt8} (h : l.length = 4) : big4 (beN l : Nat) = l := by
 match l, h with
 | [a, b, c, d], _ =>
  have ha := a.toNat_lt; have hb := b.toNat_lt; have hc := c.toNat_lt; have hd := d.toNat_lt
  unfold big4 beN
  simp only [List.foldl_cons, List.foldl_nil]
  simp only [List.cons.injEq, and_true]
  exact ⟨lowB_eq (by omega) (by omega), lowB_eq (by omega) (by omega), lowB_eq (by omega) (by omega), lowB_eq (by omega) (by omega)⟩
theorem big8_back {l : List UInt8} (h : l.length = 8) : big8 (beN l : Nat) = l := by
 match l, h with
 | [a, b, c, d, e, f, g, k], _ =>
  have ha := a.toNat_lt; have hb := b.toNat_lt; have hc := c.toNat_lt; have hd := d.toNat_lt
  have he := e.toNat_lt; have hf := f.toNat_lt; have hg := g.toNat_lt; have hk := k.toNat_lt
  unfold big8 big4 beN
  simp only [List.foldl_cons, List.foldl_nil, List.cons_append, List.nil_append]
  simp only [List.cons.injEq, and_true]
  exact ⟨lowB_eq (by omega) (by omega), lowB_eq (by omega) (by omega), lowB_eq (by omega) (by omega), lowB_eq (by omega) (by omega), lowB_eq (by omega) (by omega), lowB_eq (by omega) (by omega), lowB_eq (by omega) (by omega), lowB_eq (by omega) (by omega)⟩
theorem num_back {k : Nat} {r : Rd} (big : Int → List UInt8) (hbig : ∀ l : List UInt8, l.length = k → big (beN l : Nat) = l) (h : (numR k r).bad = false) : r.bad = false ∧ r.s = big (numV k r : Nat) ++ (numR k r).s := by
 have hc : canR k r = true := by
  cases hc : canR k r
  ·unfold numR at h; rw [hc] at h; cases h
  ·rfl
 have hc2 := hc
 unfold canR at hc2
 simp only [Bool.and_eq_true, decide_eq_true_eq, Bool.not_eq_true'] at hc2
 refine ⟨hc2.1, ?_⟩
 unfold numV numR
 rw [if_pos hc, if_pos hc, hbig _ (by rw [List.length_take]; omega)]
 exact (List.take_append_drop k r.s).symm
theorem text_back {r : Rd} (h : (textR r).bad = false) : r.bad = false ∧ r.s = textB (textV r) ++ (textR r).s := by
 have hc : canT r = true := by
  cases hc : canT r
  ·unfold textR at h; rw [hc] at h; cases h
  ·rfl
 have hc2 := hc
 unfold canT canR at hc2
 simp only [Bool.and_eq_true, decide_eq_true_eq, Bool.not_eq_true'] at hc2
 obtain ⟨⟨h1, h2⟩, h3⟩ := hc2
 refine ⟨h1, ?_⟩
 unfold textV textR
 rw [if_pos hc, if_pos hc]
 show r.s = textB ((r.s.drop 2).take (txtN r)) ++ r.s.drop (2 + txtN r)
 unfold textB
 have hl : ((r.s.drop 2).take (txtN r)).length = txtN r := by rw [List.length_take, List.length_drop]; omega
 rw [hl]
 have h2' : big2 ((txtN r : Nat) : Int) = r.s.take 2 := by unfold txtN; exact big2_back (by rw [List.length_take]; omega)
 rw [h2', List.append_assoc, ← List.drop_drop, List.take_append_drop, List.take_append_drop]
theorem ns_back : ∀ (n : Nat) (r : Rd), (nsR n r).bad = false → r.bad = false ∧ r.s = (nsV n r).flatMap big1 ++ (nsR n r).s
 | 0, r, h => ⟨h, rfl⟩
 | n + 1, r, h => by
  rw [nsR_succ] at h
  obtain ⟨h1, h2⟩ := num_back (r := nsR n r) big1 (fun _ => big1_back) h
  obtain ⟨h3, h4⟩ := ns_back n r h1
  refine ⟨h3, ?_⟩
  rw [nsV_succ, nsR_succ, List.flatMap_append, List.flatMap_cons, List.flatMap_nil, List.append_nil, List.append_assoc, ← h2]
  exact h4
theorem kl_sB (t : List UInt8) (x : Nat) : kl (sB t, x) = t := sB_toList t
theorem it_back : ∀ (n : Nat) (r : Rd), (itR n r).bad = false → r.bad = false ∧ r.s = (itV n r).flatMap itemT ++ (itR n r).s
 | 0, r, h => ⟨h, rfl⟩
 | n + 1, r, h => by
  rw [itR_succ] at h
  obtain ⟨h1, h2⟩ := num_back (r := textR (itR n r)) big8 (fun _ => big8_back) h
  obtain ⟨h3, h4⟩ := text_back h1
  obtain ⟨h5, h6⟩ := it_back n r h3
  refine ⟨h5, ?_⟩
  rw [itV_succ, itR_succ, List.flatMap_append, List.flatMap_cons, List.flatMap_nil, List.append_nil, List.append_assoc]
  unfold itemT
  rw [kl_sB, List.append_assoc, ← h2, ← h4]
  exact h6
theorem endE_zero {r : Rd} (h : endE r = 0) : r.bad = false ∧ r.s = [] := by
 unfold endE at h
 cases hb : r.bad
 ·rw [hb] at h
  simp only [Bool.false_eq_true, if_false] at h
  by_cases hs : r.s = []
  ·exact ⟨rfl, hs⟩
  ·rw [if_neg hs] at h; cases h
 ·rw [hb] at h; cases h
theorem res_back {t : List UInt8} (h : readXB t = true) : t = resT (xCd t) (xBits t) := by
 unfold readXB at h
 simp only [Bool.and_eq_true, decide_eq_true_eq] at h
 obtain ⟨hb, hs⟩ := endE_zero h.1.2
 obtain ⟨h1, h2⟩ := num_back (r := xR1 t) big8 (fun _ => big8_back) hb
 obtain ⟨h3, h4⟩ := num_back (r := ⟨t, false⟩) big1 (fun _ => big1_back) h1
 have h5 : t = big1 (numV 1 ⟨t, false⟩ : Nat) ++ (xR1 t).s := h4
 have h6 : (xR1 t).s = big8 (xBits t : Nat) ++ (xR2 t).s := h2
 rw [hs, List.append_nil] at h6
 unfold resT xCd
 rw [← h6]
 exact h5
theorem conf_back {t : List UInt8} (h : readCB t = true) : t = confT (cEp t) (cXs t) := by
 unfold readCB at h
 simp only [Bool.and_eq_true, decide_eq_true_eq] at h
 obtain ⟨⟨h0, he⟩, -⟩ := h
 obtain ⟨hb, hs⟩ := endE_zero he
 obtain ⟨a1, a2⟩ := ns_back (cN t) (cR3 t) hb
 obtain ⟨b1, b2⟩ := num_back (r := cR2 t) big1 (fun _ => big1_back) a1
 obtain ⟨c1, c2⟩ := num_back (r := cR1 t) big2 (fun _ => big2_back) b1
 obtain ⟨d1, d2⟩ := num_back (r := ⟨t, false⟩) big1 (fun _ => big1_back) c1
 have e1 : t = big1 (numV 1 ⟨t, false⟩ : Nat) ++ (cR1 t).s := d2
 have e2 : (cR1 t).s = big2 (cEp t) ++ (cR2 t).s := c2
 have e3 : (cR2 t).s = big1 (cN t : Nat) ++ (cR3 t).s := b2
 have e4 : (cR3 t).s = (cXs t).flatMap big1 ++ (cR4 t).s := a2
 have hl : (cXs t).length = cN t := nsV_len _ _
 rw [hs, List.append_nil] at e4
 unfold confT
 rw [hl, List.append_assoc, List.append_assoc, ← e4, ← e3, ← e2]
 rw [h0] at e1
 exact e1
theorem cl_back (N : Nat) (r : Rd) : ∀ (n : Nat), n ≤ N → (∀ i, i < n → readXE (textV (numR 4 (clR i r))) = 0) → (clR n r).bad = false → r.bad = false ∧ r.s = (List.range n).flatMap (fun i => cliT (clV N r i)) ++ (clR n r).s
 | 0, _, _, h => ⟨h, rfl⟩
 | n + 1, hn, hx, h => by
  rw [clR_succ] at h
  obtain ⟨h1, h2⟩ := text_back h
  obtain ⟨h3, h4⟩ := num_back (r := clR n r) big4 (fun _ => big4_back) h1
  obtain ⟨h5, h6⟩ := cl_back N r n (by omega) (fun i hi => hx i (by omega)) h3
  refine ⟨h5, ?_⟩
  have hxn := hx n (Nat.lt_succ_self n)
  have hb : readXB (textV (numR 4 (clR n r))) = true := by
   unfold readXE at hxn
   by_cases q : readXB (textV (numR 4 (clR n r))) = true
   ·exact q
   ·rw [if_neg q] at hxn; cases hxn
  have hc : cliT (clV N r n) = big4 (numV 4 (clR n r) : Nat) ++ textB (textV (numR 4 (clR n r))) := by
   unfold clV cliT
   rw [if_pos (by omega)]
   simp only
   unfold readXcd readXre
   rw [if_pos hb, if_pos hb, ← res_back hb]
  rw [List.range_succ, List.flatMap_append, List.flatMap_cons, List.flatMap_nil, List.append_nil, List.append_assoc, hc, clR_succ, List.append_assoc, ← h2, ← h4]
  exact h6
theorem rise_of {l : Ks} (h : ∀ i, i < l.length → itemOk l i = true) : RiseK l := by
 have adj : ∀ i (hi : i + 1 < l.length), kl l[i] < kl l[i + 1] := fun i hi => by
  have := h (i + 1) hi
  unfold itemOk at this
  rw [List.getElem?_eq_getElem hi] at this
  simp only [List.getElem?_eq_getElem (show i < l.length by omega), Bool.and_eq_true, decide_eq_true_eq] at this
  exact this.1.2
 refine List.pairwise_iff_getElem.2 fun i j hi hj hij => ?_
 have key : ∀ d (hd : i + (d + 1) < l.length), kl l[i] < kl l[i + (d + 1)] := by
  intro d
  induction d with
  | zero => intro hd; exact adj i hd
  | succ d ih => intro hd; exact List.lt_trans (ih (by omega)) (adj (i + (d + 1)) hd)
 have := key (j - i - 1) (by omega)
 have e : i + (j - i - 1 + 1) = j := by omega
 simp only [e] at this
 exact this
theorem open_back {t : List UInt8} (h : openB t = true) : Inv (openG t) ∧ RiseK (openG t).keys ∧ t = ledgT (openG t) := by
 unfold openB at h
 simp only [Bool.and_eq_true, decide_eq_true_eq] at h
 obtain ⟨⟨⟨o1, o2⟩, o3⟩, o4⟩ := h
 obtain ⟨hce, hxe⟩ := clE_allP _ _ _ o2
 unfold mayB at o4
 simp only [Bool.and_eq_true, decide_eq_true_eq, List.all_eq_true, List.mem_range] at o4
 obtain ⟨⟨⟨⟨⟨⟨m1, m2⟩, m3⟩, m4⟩, m5⟩, m6⟩, m7⟩ := o4
 have hr : RiseK (openG t).keys := rise_of m6
 have hcb : readCB (oC t) = true := by
  unfold readCE at hce
  by_cases q : readCB (oC t) = true
  ·exact q
  ·rw [if_neg q] at hce; cases hce
 have hcT : oC t = confT (openG t).epoch (openG t).mem := by
  show oC t = confT (readCep (oC t)) (readCxs (oC t))
  unfold readCep readCxs
  rw [if_pos hcb, if_pos hcb]
  exact conf_back hcb
 obtain ⟨hb, hs⟩ := endE_zero o3
 obtain ⟨a1, a2⟩ := cl_back 8 (oR7 t) 8 (Nat.le_refl _) hxe hb
 obtain ⟨b1, b2⟩ := it_back (oK t) (oR6 t) a1
 obtain ⟨c1, c2⟩ := num_back (r := oR5 t) big1 (fun _ => big1_back) b1
 obtain ⟨d1, d2⟩ := num_back (r := oR4 t) big4 (fun _ => big4_back) c1
 obtain ⟨e1, e2⟩ := ns_back (oN t) (oR3 t) d1
 obtain ⟨f1, f2⟩ := num_back (r := oR2 t) big1 (fun _ => big1_back) e1
 obtain ⟨g1, g2⟩ := text_back (r := oR1 t) f1
 obtain ⟨k1, k2⟩ := num_back (r := ⟨t, false⟩) big1 (fun _ => big1_back) g1
 have z1 : t = big1 (numV 1 ⟨t, false⟩ : Nat) ++ (oR1 t).s := k2
 have z2 : (oR1 t).s = textB (oC t) ++ (oR2 t).s := g2
 have z3 : (oR2 t).s = big1 (oN t : Nat) ++ (oR3 t).s := f2
 have z4 : (oR3 t).s = (oNext t).flatMap big1 ++ (oR4 t).s := e2
 have z5 : (oR4 t).s = big4 (oDone t) ++ (oR5 t).s := d2
 have z6 : (oR5 t).s = big1 (oK t : Nat) ++ (oR6 t).s := c2
 have z7 : (oR6 t).s = (oItems t).flatMap itemT ++ (oR7 t).s := b2
 have z8 : (oR7 t).s = (List.range 8).flatMap (fun i => cliT (clV 8 (oR7 t) i)) ++ (oR8 t).s := a2
 rw [hs, List.append_nil] at z8
 refine ⟨⟨?_, ?_, m2, ⟨m3, m4⟩, m5, fun p hp => ?_, fun i => ?_⟩, hr, ?_⟩
 ·unfold confB at m1; simp only [Bool.and_eq_true, decide_eq_true_eq] at m1; exact m1.1
 ·unfold confB at m1; simp only [Bool.and_eq_true, decide_eq_true_eq] at m1; exact m1.2
 ·obtain ⟨j, hj, rfl⟩ := List.getElem_of_mem hp
  have := m6 j hj
  unfold itemOk at this
  rw [List.getElem?_eq_getElem hj] at this
  simp only [Bool.and_eq_true, decide_eq_true_eq] at this
  refine ⟨this.1.1.1, this.1.1.2, ?_, canon_fromB' this.2⟩
  have hall : ∀ (n : Nat) (r : Rd), ∀ q ∈ itV n r, q.2 < 18446744073709551616 := by
   intro n r
   induction n with
   | zero => intro q hq; cases hq
   | succ n ih =>
    intro q hq
    rw [itV_succ] at hq
    rcases List.mem_append.1 hq with h1 | h1
    ·exact ih q h1
    ·have h1 := List.mem_singleton.1 h1
     subst h1
     have := numV_lt 8 (textR (itR n r))
     show numV 8 _ < _
     omega
  exact hall _ _ _ (List.getElem_mem hj)
 ·change (fun c : Cl => 0 ≤ c.stamp ∧ c.stamp ≤ 1048576 ∧ 0 ≤ c.code ∧ c.code ≤ 8 ∧ c.real < 18446744073709551616 ∧ canonN c.real = c.real ∧ (c.stamp = 0 → c.code = 0 ∧ c.real = 0)) (clV 8 (oR7 t) i)
  dsimp only
  have hx : ∀ s : List UInt8, 0 ≤ readXcd s ∧ readXcd s ≤ 8 ∧ readXre s < 18446744073709551616 ∧ canonN (readXre s) = readXre s := fun s => by
   unfold readXcd readXre
   split
   ·rename_i h
    unfold readXB at h
    simp only [Bool.and_eq_true, decide_eq_true_eq] at h
    refine ⟨by unfold xCd; omega, h.2, ?_, canon_fromB' h.1.1⟩
    have := numV_lt 8 (xR1 s)
    unfold xBits
    omega
   ·exact ⟨by omega, by omega, by omega, canon0⟩
  by_cases h8 : i < 8
  ·have hok : cliOk (clV 8 (oR7 t) i) = true := m7 i h8
   unfold cliOk at hok
   simp only [Bool.and_eq_true, Bool.or_eq_true, decide_eq_true_eq] at hok
   have hxx := hx (textV (numR 4 (clR i (oR7 t))))
   have hcl : clV 8 (oR7 t) i = ⟨(numV 4 (clR i (oR7 t)) : Nat), readXcd (textV (numR 4 (clR i (oR7 t)))), readXre (textV (numR 4 (clR i (oR7 t))))⟩ := by unfold clV; rw [if_pos h8]
   have hst : 0 ≤ (clV 8 (oR7 t) i).stamp := by rw [hcl]; show (0 : Int) ≤ ((numV 4 (clR i (oR7 t)) : Nat) : Int); omega
   have e1 : (clV 8 (oR7 t) i).code = readXcd (textV (numR 4 (clR i (oR7 t)))) := by rw [hcl]
   have e2 : (clV 8 (oR7 t) i).real = readXre (textV (numR 4 (clR i (oR7 t)))) := by rw [hcl]
   refine ⟨hst, hok.1, by rw [e1]; exact hxx.1, by rw [e1]; exact hxx.2.1, by rw [e2]; exact hxx.2.2.1, by rw [e2]; exact hxx.2.2.2, fun h0 => ?_⟩
   have := hok.2.resolve_left (fun q => q h0)
   refine ⟨this.1, ?_⟩
   have h2 := this.2
   rw [e2, hxx.2.2.2] at h2
   rw [e2]; exact h2
  ·have e : clV 8 (oR7 t) i = ⟨0, 0, 0⟩ := by unfold clV; rw [if_neg h8]
   rw [e]
   exact ⟨by simp, by simp, by simp, by simp, by simp, canon0, fun _ => ⟨rfl, rfl⟩⟩
 ·have hs2 : sortK (openG t).keys = oItems t := sortK_of hr (List.Perm.refl _)
  have hl1 : (openG t).next.length = oN t := nsV_len _ _
  have hl2 : (openG t).keys.length = oK t := itV_len _ _
  unfold ledgT
  rw [hs2, hl1, hl2, ← hcT]
  show t = big1 76 ++ textB (oC t) ++ big1 (oN t : Nat) ++ (oNext t).flatMap big1 ++ big4 (oDone t) ++ big1 (oK t : Nat) ++ (oItems t).flatMap itemT ++ (List.range 8).flatMap (fun i => cliT (clV 8 (oR7 t) i))
  rw [← z8]
  simp only [List.append_assoc]
  rw [← z7, ← z6, ← z5, ← z4, ← z3, ← z2]
  rw [o1] at z1
  exact z1
end Go.Proofs.YtfefeepljbfcdaaGreat
