/- Joined texts: R12P. What each proves stands at its head; no conditions beside those in its theorems. -/
import Derived.Sort.KeysCollected
import Derived.Test.YtflpkoafebjfdaaGreatPjAI
/- Layer 12: a ledger's keys in their order, in plain words. No program in sight. -/
namespace Go.Proofs.YtflpkoafebjfdaaGreat
open F64
set_option linter.unusedVariables false
set_option linter.unusedSimpArgs false
def kl (p : ByteArray × Nat) : List UInt8 := p.1.data.toList
def leK (p q : ByteArray × Nat) : Bool := decide (kl p ≤ kl q)
/-- The keys, rising. -/
def sortK (ks : Ks) : Ks := ks.mergeSort leK
def RiseK (l : Ks) : Prop := l.Pairwise (fun p q => kl p < kl q)
def NdK (ks : Ks) : Prop := (ks.map (·.1)).Nodup
theorem RiseK.nd {l : Ks} (h : RiseK l) : NdK l := List.pairwise_map.2 (h.imp fun {p q} hh e => by unfold kl at hh; rw [e] at hh; exact List.lt_irrefl _ hh)
end Go.Proofs.YtflpkoafebjfdaaGreat
