/-
  No cell of these rows narrows 'for every input' (looked for: loops, veiled, ifaces, maps, wideKeys, modest, calm, conditions, laid).
  DERIVED. THE GIVEN ROWS OF THIS SEAT. 6 by the template 'for every input the law returns true; each argument reads behind the call as it read before'; 0 by the template 'total and deterministic' (their statements: YtekbonciafbjiaaTotals.lean).
  GIVEN WITH THE SEED: the statements are not yours to turn. If you find one false, say at which input.
  Laid BY PROGRAM, IN A SANDBOX (cutbox-rows.mjs): the forced cells as the released guide's own fill.sh prints them over the translation 34bc1b53867df6a1… (all of the seat's roots in one cut). By AI agents, Wed Nov 11 2026. No macro, syntax, notation, axiom, sorry.
-/
import Derived.Test.YtekbonciafbjiaaChecked
import GoSem.Claim
import GoSem.ClaimJoined
import GoSem.ClaimMapViews
import Derived.JoinedTies
import Derived.KernelRfl
namespace Go.Proofs.Ytekbonciafbjiaa
/- THE CELL 'sum', in the pinned program and in every row, IS THE sha256 OF THE DUMP (.gsa) THAT YtekbonciafbjiaaProg.lean LOADS. Nothing in Lean hashes anything: it is a label: what it is worth is what the hold of that sum in a sandbox is worth. -/
noncomputable def Try.pinned : Pinned := { name := "ytekbonciafbjiaa", sum := "34bc1b53867df6a144d9aa765ee085a0c1319a10bfdd840b54f9a705e4ba8753", checked := Try.checked }
namespace Rows
def none {H : Type} : Left H := { results := [], args := [] }

/-- 'witanlaw22.SagaOnce': WHATEVER THE INPUT: true; the input reads as it did. -/
def sagaOnceSpec : ChangeSpec := { name := "sagaOnce", fn := fun _ => fun
  | [d1, d2] => { results := [.lit (.bool true)], args := [d1, d2] }
  | _ => none }
def sagaOnceRow : OpenClaim := { program := "ytekbonciafbjiaa", sum := "34bc1b53867df6a144d9aa765ee085a0c1319a10bfdd840b54f9a705e4ba8753", func := "witan/witanlaw22.SagaOnce", spec := "sagaOnce", inPlace := ["math.Float64frombits", "math.Float64bits", "maps.clone"], unfollowed := true, recurses := true, apart := false }
def SagaOnceSaid : Prop := sagaOnceRow.holds Try.pinned (OpenSpec.ofChange sagaOnceSpec)

/-- ITS FALSE NEIGHBOUR: 'it returns false'. Refute it at one input. -/
def sagaOnceWrong : ChangeSpec := { name := "sagaOnce", fn := fun _ => fun
  | [d1, d2] => { results := [.lit (.bool false)], args := [d1, d2] }
  | _ => none }
def SagaOnceWrongFalsely : Prop := sagaOnceRow.holds Try.pinned (OpenSpec.ofChange sagaOnceWrong)

/-- 'witanlaw22.SagaMembers': WHATEVER THE INPUT: true; the input reads as it did. -/
def sagaMembersSpec : ChangeSpec := { name := "sagaMembers", fn := fun _ => fun
  | [d1, d2] => { results := [.lit (.bool true)], args := [d1, d2] }
  | _ => none }
def sagaMembersRow : OpenClaim := { program := "ytekbonciafbjiaa", sum := "34bc1b53867df6a144d9aa765ee085a0c1319a10bfdd840b54f9a705e4ba8753", func := "witan/witanlaw22.SagaMembers", spec := "sagaMembers", inPlace := ["math.Float64frombits", "math.Float64bits", "maps.clone"], unfollowed := true, recurses := true, apart := false }
def SagaMembersSaid : Prop := sagaMembersRow.holds Try.pinned (OpenSpec.ofChange sagaMembersSpec)

/-- ITS FALSE NEIGHBOUR: 'it returns false'. Refute it at one input. -/
def sagaMembersWrong : ChangeSpec := { name := "sagaMembers", fn := fun _ => fun
  | [d1, d2] => { results := [.lit (.bool false)], args := [d1, d2] }
  | _ => none }
def SagaMembersWrongFalsely : Prop := sagaMembersRow.holds Try.pinned (OpenSpec.ofChange sagaMembersWrong)

/-- 'witanlaw22.SagaMerges': WHATEVER THE INPUT: true; the input reads as it did. -/
def sagaMergesSpec : ChangeSpec := { name := "sagaMerges", fn := fun _ => fun
  | [d] => { results := [.lit (.bool true)], args := [d] }
  | _ => none }
def sagaMergesRow : OpenClaim := { program := "ytekbonciafbjiaa", sum := "34bc1b53867df6a144d9aa765ee085a0c1319a10bfdd840b54f9a705e4ba8753", func := "witan/witanlaw22.SagaMerges", spec := "sagaMerges", inPlace := ["math.Float64frombits", "math.Float64bits", "maps.clone"], unfollowed := true, recurses := true, apart := false }
def SagaMergesSaid : Prop := sagaMergesRow.holds Try.pinned (OpenSpec.ofChange sagaMergesSpec)

/-- ITS FALSE NEIGHBOUR: 'it returns false'. Refute it at one input. -/
def sagaMergesWrong : ChangeSpec := { name := "sagaMerges", fn := fun _ => fun
  | [d] => { results := [.lit (.bool false)], args := [d] }
  | _ => none }
def SagaMergesWrongFalsely : Prop := sagaMergesRow.holds Try.pinned (OpenSpec.ofChange sagaMergesWrong)

/-- 'witanlaw22.SagaOrder': WHATEVER THE INPUT: true; the input reads as it did. -/
def sagaOrderSpec : ChangeSpec := { name := "sagaOrder", fn := fun _ => fun
  | [d1, d2] => { results := [.lit (.bool true)], args := [d1, d2] }
  | _ => none }
def sagaOrderRow : OpenClaim := { program := "ytekbonciafbjiaa", sum := "34bc1b53867df6a144d9aa765ee085a0c1319a10bfdd840b54f9a705e4ba8753", func := "witan/witanlaw22.SagaOrder", spec := "sagaOrder", inPlace := ["math.Float64frombits", "math.Float64bits", "maps.clone"], unfollowed := true, recurses := true, apart := false }
def SagaOrderSaid : Prop := sagaOrderRow.holds Try.pinned (OpenSpec.ofChange sagaOrderSpec)

/-- ITS FALSE NEIGHBOUR: 'it returns false'. Refute it at one input. -/
def sagaOrderWrong : ChangeSpec := { name := "sagaOrder", fn := fun _ => fun
  | [d1, d2] => { results := [.lit (.bool false)], args := [d1, d2] }
  | _ => none }
def SagaOrderWrongFalsely : Prop := sagaOrderRow.holds Try.pinned (OpenSpec.ofChange sagaOrderWrong)

/-- 'witanlaw22.SagaBegins': WHATEVER THE INPUT: true; the input reads as it did. -/
def sagaBeginsSpec : ChangeSpec := { name := "sagaBegins", fn := fun _ => fun
  | [d1, d2, d3] => { results := [.lit (.bool true)], args := [d1, d2, d3] }
  | _ => none }
def sagaBeginsRow : OpenClaim := { program := "ytekbonciafbjiaa", sum := "34bc1b53867df6a144d9aa765ee085a0c1319a10bfdd840b54f9a705e4ba8753", func := "witan/witanlaw22.SagaBegins", spec := "sagaBegins", inPlace := ["math.Float64frombits", "math.Float64bits", "maps.clone"], unfollowed := true, recurses := true, apart := false }
def SagaBeginsSaid : Prop := sagaBeginsRow.holds Try.pinned (OpenSpec.ofChange sagaBeginsSpec)

/-- ITS FALSE NEIGHBOUR: 'it returns false'. Refute it at one input. -/
def sagaBeginsWrong : ChangeSpec := { name := "sagaBegins", fn := fun _ => fun
  | [d1, d2, d3] => { results := [.lit (.bool false)], args := [d1, d2, d3] }
  | _ => none }
def SagaBeginsWrongFalsely : Prop := sagaBeginsRow.holds Try.pinned (OpenSpec.ofChange sagaBeginsWrong)

/-- 'witanlaw22.SagaNil': WHATEVER THE INPUT: true; the input reads as it did. -/
def sagaNilSpec : ChangeSpec := { name := "sagaNil", fn := fun _ => fun
  | [d] => { results := [.lit (.bool true)], args := [d] }
  | _ => none }
def sagaNilRow : OpenClaim := { program := "ytekbonciafbjiaa", sum := "34bc1b53867df6a144d9aa765ee085a0c1319a10bfdd840b54f9a705e4ba8753", func := "witan/witanlaw22.SagaNil", spec := "sagaNil", inPlace := ["math.Float64frombits", "math.Float64bits", "maps.clone"], unfollowed := true, recurses := true, apart := false }
def SagaNilSaid : Prop := sagaNilRow.holds Try.pinned (OpenSpec.ofChange sagaNilSpec)

/-- ITS FALSE NEIGHBOUR: 'it returns false'. Refute it at one input. -/
def sagaNilWrong : ChangeSpec := { name := "sagaNil", fn := fun _ => fun
  | [d] => { results := [.lit (.bool false)], args := [d] }
  | _ => none }
def SagaNilWrongFalsely : Prop := sagaNilRow.holds Try.pinned (OpenSpec.ofChange sagaNilWrong)

/- THE SECOND FORM. 'bulk': how many values and letters a reading holds, each counted each time it is reached (what is shared counts as often as it is met; a slice's spare places count too). A statement '..UptoSaid' is the law's where the arguments, and the package variables that the reading takes, are together of bulk at most 1048576: NARROWER than '..Said'. Prove '..Said' where nothing that the law and all that it calls make is longer than what came in: it says more and counts as full. Else prove '..UptoSaid'. A law counts once. -/
mutual
def uptoBulk {H : Type} : DataW H → Nat
  | .lit (.string bytes) => bytes.length + 1
  | .lit _ => 1
  | .nil => 1
  | .ptr d => uptoBulk d + 1
  | .slice elems spare => uptoBulkAll elems + uptoBulkAll spare + 1
  | .agg parts => uptoBulkAll parts + 1
  | .iface _ d => uptoBulk d + 1
  | .map entries => uptoBulkEntries entries + 1
  | .held _ => 1
def uptoBulkAll {H : Type} : List (DataW H) → Nat
  | [] => 0
  | d :: r => uptoBulk d + uptoBulkAll r
def uptoBulkEntries {H : Type} : List (Lit × DataW H) → Nat
  | [] => 0
  | x :: r => uptoBulkEntry x + uptoBulkEntries r
def uptoBulkEntry {H : Type} : Lit × DataW H → Nat
  | (.string bytes, d) => bytes.length + uptoBulk d + 1
  | (_, d) => uptoBulk d + 1
 end
def uptoSmall : (H : Type) → List (DataW H) → Bool := fun _ ds => decide (uptoBulkAll ds ≤ 1048576)
def OpenSpec.upto (s : _root_.Go.ChangeSpec) : _root_.Go.OpenSpec := { _root_.Go.OpenSpec.ofChange s with cond := some uptoSmall }

/-- 'witanlaw22.SagaOnce', WHERE WHAT IT READS IS OF BULK AT MOST 1048576: true; the input reads as it did. -/
def sagaOnceUptoRow : OpenClaim := { program := "ytekbonciafbjiaa", sum := "34bc1b53867df6a144d9aa765ee085a0c1319a10bfdd840b54f9a705e4ba8753", func := "witan/witanlaw22.SagaOnce", spec := "sagaOnce", inPlace := ["math.Float64frombits", "math.Float64bits", "maps.clone"], unfollowed := true, recurses := true, apart := false, narrowed := true }
def SagaOnceUptoSaid : Prop := sagaOnceUptoRow.holds Try.pinned (OpenSpec.upto sagaOnceSpec)

/-- 'witanlaw22.SagaMembers', WHERE WHAT IT READS IS OF BULK AT MOST 1048576: true; the input reads as it did. -/
def sagaMembersUptoRow : OpenClaim := { program := "ytekbonciafbjiaa", sum := "34bc1b53867df6a144d9aa765ee085a0c1319a10bfdd840b54f9a705e4ba8753", func := "witan/witanlaw22.SagaMembers", spec := "sagaMembers", inPlace := ["math.Float64frombits", "math.Float64bits", "maps.clone"], unfollowed := true, recurses := true, apart := false, narrowed := true }
def SagaMembersUptoSaid : Prop := sagaMembersUptoRow.holds Try.pinned (OpenSpec.upto sagaMembersSpec)

/-- 'witanlaw22.SagaMerges', WHERE WHAT IT READS IS OF BULK AT MOST 1048576: true; the input reads as it did. -/
def sagaMergesUptoRow : OpenClaim := { program := "ytekbonciafbjiaa", sum := "34bc1b53867df6a144d9aa765ee085a0c1319a10bfdd840b54f9a705e4ba8753", func := "witan/witanlaw22.SagaMerges", spec := "sagaMerges", inPlace := ["math.Float64frombits", "math.Float64bits", "maps.clone"], unfollowed := true, recurses := true, apart := false, narrowed := true }
def SagaMergesUptoSaid : Prop := sagaMergesUptoRow.holds Try.pinned (OpenSpec.upto sagaMergesSpec)

/-- 'witanlaw22.SagaOrder', WHERE WHAT IT READS IS OF BULK AT MOST 1048576: true; the input reads as it did. -/
def sagaOrderUptoRow : OpenClaim := { program := "ytekbonciafbjiaa", sum := "34bc1b53867df6a144d9aa765ee085a0c1319a10bfdd840b54f9a705e4ba8753", func := "witan/witanlaw22.SagaOrder", spec := "sagaOrder", inPlace := ["math.Float64frombits", "math.Float64bits", "maps.clone"], unfollowed := true, recurses := true, apart := false, narrowed := true }
def SagaOrderUptoSaid : Prop := sagaOrderUptoRow.holds Try.pinned (OpenSpec.upto sagaOrderSpec)

/-- 'witanlaw22.SagaBegins', WHERE WHAT IT READS IS OF BULK AT MOST 1048576: true; the input reads as it did. -/
def sagaBeginsUptoRow : OpenClaim := { program := "ytekbonciafbjiaa", sum := "34bc1b53867df6a144d9aa765ee085a0c1319a10bfdd840b54f9a705e4ba8753", func := "witan/witanlaw22.SagaBegins", spec := "sagaBegins", inPlace := ["math.Float64frombits", "math.Float64bits", "maps.clone"], unfollowed := true, recurses := true, apart := false, narrowed := true }
def SagaBeginsUptoSaid : Prop := sagaBeginsUptoRow.holds Try.pinned (OpenSpec.upto sagaBeginsSpec)

/-- 'witanlaw22.SagaNil', WHERE WHAT IT READS IS OF BULK AT MOST 1048576: true; the input reads as it did. -/
def sagaNilUptoRow : OpenClaim := { program := "ytekbonciafbjiaa", sum := "34bc1b53867df6a144d9aa765ee085a0c1319a10bfdd840b54f9a705e4ba8753", func := "witan/witanlaw22.SagaNil", spec := "sagaNil", inPlace := ["math.Float64frombits", "math.Float64bits", "maps.clone"], unfollowed := true, recurses := true, apart := false, narrowed := true }
def SagaNilUptoSaid : Prop := sagaNilUptoRow.holds Try.pinned (OpenSpec.upto sagaNilSpec)

end Rows
end Go.Proofs.Ytekbonciafbjiaa
