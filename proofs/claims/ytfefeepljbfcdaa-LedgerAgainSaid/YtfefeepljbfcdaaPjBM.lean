/- Joined texts: ReadP. What each proves stands at its head; no conditions beside those in its theorems. -/
import Derived.Test.YtfefeepljbfcdaaPjAA
import Derived.Test.YtfefeepljbfcdaaPjAB
import Derived.Test.YtfefeepljbfcdaaPjAC
import Derived.Test.YtfefeepljbfcdaaPjAE
import Derived.Test.YtfefeepljbfcdaaPjAI
import Derived.Test.YtfefeepljbfcdaaPjAM
import Derived.Test.YtfefeepljbfcdaaPjAF
import Derived.Test.YtfefeepljbfcdaaPjAJ
import Derived.Test.YtfefeepljbfcdaaPjAK
import Derived.Test.YtfefeepljbfcdaaPjAN
import Derived.Test.YtfefeepljbfcdaaPjAR
import Derived.Test.YtfefeepljbfcdaaPjAS
import Derived.Test.YtfefeepljbfcdaaPjAG
import Derived.Test.YtfefeepljbfcdaaPjAL
import Derived.Test.YtfefeepljbfcdaaPjAO
import Derived.Test.YtfefeepljbfcdaaPjBC
import Derived.Test.YtfefeepljbfcdaaPjBD
import Derived.Test.YtfefeepljbfcdaaPjAD
import Derived.Test.YtfefeepljbfcdaaPjAP
import Derived.Test.YtfefeepljbfcdaaPjAT
import Derived.Test.YtfefeepljbfcdaaPjAU
import Derived.Test.YtfefeepljbfcdaaPjAV
import Derived.Test.YtfefeepljbfcdaaPjAW
import Derived.Test.YtfefeepljbfcdaaPjAX
import Derived.Test.YtfefeepljbfcdaaPjAY
import Derived.Test.YtfefeepljbfcdaaPjAZ
import Derived.Test.YtfefeepljbfcdaaPjBA
import Derived.Test.YtfefeepljbfcdaaPjBF
import Derived.Test.YtfefeepljbfcdaaPjBG
import Derived.Test.YtfefeepljbfcdaaPjAH
import Derived.Test.YtfefeepljbfcdaaPjBI
import Derived.Test.YtfefeepljbfcdaaPjBJ
import Derived.Test.YtfefeepljbfcdaaPjBK
import Derived.Test.YtfefeepljbfcdaaPjBL
/- Layer 12: what is left of a ledger's bytes, step by step, in plain words. No program in sight. -/
namespace Go.Proofs.Ytfefeepljbfcdaa
open F64
set_option linter.unusedVariables false
set_option linter.unusedSimpArgs false
/-- The keys that are left. -/
def rsK (l : Ks) (C : List UInt8) (i : Nat) : Rd := ⟨(l.drop i).flatMap itemT ++ C, false⟩
def rrK (l : Ks) (C : List UInt8) (i : Nat) : Rd := textR (rsK l C i)
theorem rsK_step {l : Ks} (C : List UInt8) (h : ∀ p ∈ l, p.1.size ≤ 65535 ∧ p.2 < 18446744073709551616) {i : Nat} (hi : i < l.length) : sB (textV (rsK l C i)) = (l[i]).1 ∧ numV 8 (rrK l C i) = (l[i]).2 ∧ numR 8 (rrK l C i) = rsK l C (i + 1) := by
  have hx := h _ (List.getElem_mem hi)
  have e : (l.drop i).flatMap itemT ++ C = big2 (kl l[i]).length ++ kl l[i] ++ (big8 (l[i]).2 ++ ((l.drop (i + 1)).flatMap itemT ++ C)) := by
    rw [List.drop_eq_getElem_cons hi, List.flatMap_cons]
    unfold itemT textB
    simp only [List.append_assoc]
  have hs : (kl l[i]).length = (l[i]).1.size := size_data _
  obtain ⟨n1, n2⟩ := text_of (s := kl l[i]) (by omega) (big8 (l[i]).2 ++ ((l.drop (i + 1)).flatMap itemT ++ C))
  obtain ⟨m1, m2⟩ := num8_of (n := (l[i]).2) (by omega) ((l.drop (i + 1)).flatMap itemT ++ C)
  unfold rrK rsK
  rw [e, n1, n2, m1, m2]
  exact ⟨sB_of _, by omega, rfl⟩
theorem led_chain {g : Lg} (I : Inv g) : ∃ (q1 q2 q5 : Rd) (T4 : List UInt8), numV 1 ⟨ledgT g, false⟩ = 76 ∧ numR 1 ⟨ledgT g, false⟩ = q1 ∧ textV q1 = confT g.epoch g.mem ∧ textR q1 = q2 ∧ ((numV 1 q2 : Nat) : Int) = (g.next.length : Int) ∧ numR 1 q2 = rsN g.next T4 0
    ∧ ((numV 4 (rsN g.next T4 g.next.length) : Nat) : Int) = g.done ∧ numR 4 (rsN g.next T4 g.next.length) = q5 ∧ ((numV 1 q5 : Nat) : Int) = ((sortK g.keys).length : Int) ∧ numR 1 q5 = rsK (sortK g.keys) ((List.range 8).flatMap (fun i => cliT (g.cl i))) 0 ∧ 1 ≤ T4.length ∧ T4.length ≤ 100000 := by
  obtain ⟨n1, -, -, n10⟩ := members_facts I.mn
  obtain ⟨-, -, -, m10⟩ := members_facts I.mm
  have hk : (sortK g.keys).length = g.keys.length := sortK_len g.keys
  have hkl := I.kl; have hdn := I.dn; have hep := I.ep
  obtain ⟨p1, p2, p3, p4⟩ := ledgT_parts I
  obtain ⟨C, hC⟩ : ∃ C, C = (List.range 8).flatMap (fun i => cliT (g.cl i)) := ⟨_, rfl⟩
  obtain ⟨T6, h6⟩ : ∃ T, T = (sortK g.keys).flatMap itemT ++ C := ⟨_, rfl⟩
  obtain ⟨T5, h5⟩ : ∃ T, T = big1 g.keys.length ++ T6 := ⟨_, rfl⟩
  obtain ⟨T4, h4⟩ : ∃ T, T = big4 g.done ++ T5 := ⟨_, rfl⟩
  obtain ⟨T3, h3⟩ : ∃ T, T = g.next.flatMap big1 ++ T4 := ⟨_, rfl⟩
  obtain ⟨T2, h2⟩ : ∃ T, T = big1 g.next.length ++ T3 := ⟨_, rfl⟩
  obtain ⟨T1, h1⟩ : ∃ T, T = big2 (confT g.epoch g.mem).length ++ confT g.epoch g.mem ++ T2 := ⟨_, rfl⟩
  have e : ledgT g = big1 76 ++ T1 := by
    unfold ledgT textB
    rw [h1, h2, h3, h4, h5, h6, hC]
    simp only [List.append_assoc]
  have a1 := num1_of (n := 76) (by omega) T1
  have a2 := text_of (s := confT g.epoch g.mem) (by rw [confT_len]; omega) T2
  rw [← h1] at a2
  have a3 := num1_of (n := g.next.length) (by omega) T3
  rw [← h2] at a3
  have a5 := num4_of (n := g.done) (by omega) T5
  rw [← h4] at a5
  have a6 := num1_of (n := g.keys.length) (by omega) T6
  rw [← h5] at a6
  have r0 : rsN g.next T4 0 = ⟨T3, false⟩ := by unfold rsN; rw [h3]; rfl
  have rN : rsN g.next T4 g.next.length = ⟨T4, false⟩ := by unfold rsN; rw [List.drop_length]; rfl
  refine ⟨⟨T1, false⟩, ⟨T2, false⟩, ⟨T5, false⟩, T4, ?_, ?_, a2.1, a2.2, ?_, ?_, ?_, ?_, ?_, ?_, ?_, ?_⟩
  · rw [e, a1.1]; rfl
  · rw [e, a1.2]
  · rw [a3.1]; omega
  · rw [a3.2, r0]
  · rw [rN, a5.1]; omega
  · rw [rN, a5.2]
  · rw [a6.1, hk]; omega
  · rw [a6.2, h6, hC]; rfl
  · rw [h4, List.length_append, big4_len]; omega
  · rw [h4, h5, h6]
    simp only [List.length_append, big4_len, big1_len]
    rw [hC]
    omega
end Go.Proofs.Ytfefeepljbfcdaa
