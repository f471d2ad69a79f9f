/-
  No cell of these rows narrows 'for every input' (looked for: loops, veiled, ifaces, maps, wideKeys, modest, calm, conditions, laid).
  DERIVED. THE GIVEN ROWS OF THIS SEAT. 7 by the template 'for every input the law returns true; each argument reads behind the call as it read before'; 0 by the template 'total and deterministic' (their statements: YtflpkoafebjfdaaGreatTotals.lean).
  GIVEN WITH THE SEED: the statements are not yours to turn. If you find one false, say at which input.
  Laid BY PROGRAM, IN A SANDBOX (cutbox-rows.mjs): the forced cells as the released guide's own fill.sh prints them over the translation 954ded6c4e63a78e… (all of the seat's roots in one cut). By AI agents, Wed Nov 11 2026. No macro, syntax, notation, axiom, sorry.
-/
import Derived.Test.YtflpkoafebjfdaaGreatChecked
import GoSem.Claim
import GoSem.ClaimJoined
import GoSem.ClaimMapViews
import Derived.JoinedTies
import Derived.KernelRfl
namespace Go.Proofs.YtflpkoafebjfdaaGreat
/- THE CELL 'sum', in the pinned program and in every row, IS THE sha256 OF THE DUMP (.gsa) THAT YtflpkoafebjfdaaGreatProg.lean LOADS. Nothing in Lean hashes anything: it is a label: what it is worth is what the hold of that sum in a sandbox is worth. -/
noncomputable def Tryz.pinned : Pinned := { name := "ytflpkoafebjfdaagreat", sum := "954ded6c4e63a78ed984dcb4ed1f5b744df9e7eea93b45f521b1b5ea1ab3f0b1", checked := Tryz.checked }
namespace Rows
def none {H : Type} : Left H := { results := [], args := [] }

/-- 'witanlaw18.ReplicaOne': WHATEVER THE INPUT: true; the input reads as it did. -/
def replicaOneSpec : ChangeSpec := { name := "replicaOne", fn := fun _ => fun
  | [d1, d2, d3] => { results := [.lit (.bool true)], args := [d1, d2, d3] }
  | _ => none }
def replicaOneRow : OpenClaim := { program := "ytflpkoafebjfdaagreat", sum := "954ded6c4e63a78ed984dcb4ed1f5b744df9e7eea93b45f521b1b5ea1ab3f0b1", func := "witan/witanlaw18.ReplicaOne", spec := "replicaOne", inPlace := ["math.Float64bits", "math.Float64frombits", "maps.clone"], unfollowed := true, recurses := true, plainKeys := false, apart := false }
def ReplicaOneSaid : Prop := replicaOneRow.holds Tryz.pinned (OpenSpec.ofChange replicaOneSpec)

/-- ITS FALSE NEIGHBOUR: 'it returns false'. Refute it at one input. -/
def replicaOneWrong : ChangeSpec := { name := "replicaOne", fn := fun _ => fun
  | [d1, d2, d3] => { results := [.lit (.bool false)], args := [d1, d2, d3] }
  | _ => none }
def ReplicaOneWrongFalsely : Prop := replicaOneRow.holds Tryz.pinned (OpenSpec.ofChange replicaOneWrong)

/-- 'witanlaw18.ReplicaStands': WHATEVER THE INPUT: true; the input reads as it did. -/
def replicaStandsSpec : ChangeSpec := { name := "replicaStands", fn := fun _ => fun
  | [d1, d2, d3] => { results := [.lit (.bool true)], args := [d1, d2, d3] }
  | _ => none }
def replicaStandsRow : OpenClaim := { program := "ytflpkoafebjfdaagreat", sum := "954ded6c4e63a78ed984dcb4ed1f5b744df9e7eea93b45f521b1b5ea1ab3f0b1", func := "witan/witanlaw18.ReplicaStands", spec := "replicaStands", inPlace := ["math.Float64bits", "math.Float64frombits", "maps.clone"], unfollowed := true, recurses := true, plainKeys := false, apart := false }
def ReplicaStandsSaid : Prop := replicaStandsRow.holds Tryz.pinned (OpenSpec.ofChange replicaStandsSpec)

/-- ITS FALSE NEIGHBOUR: 'it returns false'. Refute it at one input. -/
def replicaStandsWrong : ChangeSpec := { name := "replicaStands", fn := fun _ => fun
  | [d1, d2, d3] => { results := [.lit (.bool false)], args := [d1, d2, d3] }
  | _ => none }
def ReplicaStandsWrongFalsely : Prop := replicaStandsRow.holds Tryz.pinned (OpenSpec.ofChange replicaStandsWrong)

/-- 'witanlaw18.ReplicaGrows': WHATEVER THE INPUT: true; the input reads as it did. -/
def replicaGrowsSpec : ChangeSpec := { name := "replicaGrows", fn := fun _ => fun
  | [d1, d2, d3] => { results := [.lit (.bool true)], args := [d1, d2, d3] }
  | _ => none }
def replicaGrowsRow : OpenClaim := { program := "ytflpkoafebjfdaagreat", sum := "954ded6c4e63a78ed984dcb4ed1f5b744df9e7eea93b45f521b1b5ea1ab3f0b1", func := "witan/witanlaw18.ReplicaGrows", spec := "replicaGrows", inPlace := ["math.Float64bits", "math.Float64frombits", "maps.clone"], unfollowed := true, recurses := true, plainKeys := false, apart := false }
def ReplicaGrowsSaid : Prop := replicaGrowsRow.holds Tryz.pinned (OpenSpec.ofChange replicaGrowsSpec)

/-- ITS FALSE NEIGHBOUR: 'it returns false'. Refute it at one input. -/
def replicaGrowsWrong : ChangeSpec := { name := "replicaGrows", fn := fun _ => fun
  | [d1, d2, d3] => { results := [.lit (.bool false)], args := [d1, d2, d3] }
  | _ => none }
def ReplicaGrowsWrongFalsely : Prop := replicaGrowsRow.holds Tryz.pinned (OpenSpec.ofChange replicaGrowsWrong)

/-- 'witanlaw18.ReplicaBounds': WHATEVER THE INPUT: true; the input reads as it did. -/
def replicaBoundsSpec : ChangeSpec := { name := "replicaBounds", fn := fun _ => fun
  | [d1, d2, d3] => { results := [.lit (.bool true)], args := [d1, d2, d3] }
  | _ => none }
def replicaBoundsRow : OpenClaim := { program := "ytflpkoafebjfdaagreat", sum := "954ded6c4e63a78ed984dcb4ed1f5b744df9e7eea93b45f521b1b5ea1ab3f0b1", func := "witan/witanlaw18.ReplicaBounds", spec := "replicaBounds", inPlace := ["math.Float64bits", "math.Float64frombits", "maps.clone"], unfollowed := true, recurses := true, plainKeys := false, apart := false }
def ReplicaBoundsSaid : Prop := replicaBoundsRow.holds Tryz.pinned (OpenSpec.ofChange replicaBoundsSpec)

/-- ITS FALSE NEIGHBOUR: 'it returns false'. Refute it at one input. -/
def replicaBoundsWrong : ChangeSpec := { name := "replicaBounds", fn := fun _ => fun
  | [d1, d2, d3] => { results := [.lit (.bool false)], args := [d1, d2, d3] }
  | _ => none }
def ReplicaBoundsWrongFalsely : Prop := replicaBoundsRow.holds Tryz.pinned (OpenSpec.ofChange replicaBoundsWrong)

/-- 'witanlaw18.ReplicaDeaf': WHATEVER THE INPUT: true; the input reads as it did. -/
def replicaDeafSpec : ChangeSpec := { name := "replicaDeaf", fn := fun _ => fun
  | [d1, d2, d3] => { results := [.lit (.bool true)], args := [d1, d2, d3] }
  | _ => none }
def replicaDeafRow : OpenClaim := { program := "ytflpkoafebjfdaagreat", sum := "954ded6c4e63a78ed984dcb4ed1f5b744df9e7eea93b45f521b1b5ea1ab3f0b1", func := "witan/witanlaw18.ReplicaDeaf", spec := "replicaDeaf", inPlace := ["math.Float64bits", "math.Float64frombits", "maps.clone"], unfollowed := true, recurses := true, plainKeys := false, apart := false }
def ReplicaDeafSaid : Prop := replicaDeafRow.holds Tryz.pinned (OpenSpec.ofChange replicaDeafSpec)

/-- ITS FALSE NEIGHBOUR: 'it returns false'. Refute it at one input. -/
def replicaDeafWrong : ChangeSpec := { name := "replicaDeaf", fn := fun _ => fun
  | [d1, d2, d3] => { results := [.lit (.bool false)], args := [d1, d2, d3] }
  | _ => none }
def ReplicaDeafWrongFalsely : Prop := replicaDeafRow.holds Tryz.pinned (OpenSpec.ofChange replicaDeafWrong)

/-- 'witanlaw18.ReplicaPlays': WHATEVER THE INPUT: true; the input reads as it did. -/
def replicaPlaysSpec : ChangeSpec := { name := "replicaPlays", fn := fun _ => fun
  | [d1, d2, d3] => { results := [.lit (.bool true)], args := [d1, d2, d3] }
  | _ => none }
def replicaPlaysRow : OpenClaim := { program := "ytflpkoafebjfdaagreat", sum := "954ded6c4e63a78ed984dcb4ed1f5b744df9e7eea93b45f521b1b5ea1ab3f0b1", func := "witan/witanlaw18.ReplicaPlays", spec := "replicaPlays", inPlace := ["math.Float64bits", "math.Float64frombits", "maps.clone"], unfollowed := true, recurses := true, plainKeys := false, apart := false }
def ReplicaPlaysSaid : Prop := replicaPlaysRow.holds Tryz.pinned (OpenSpec.ofChange replicaPlaysSpec)

/-- ITS FALSE NEIGHBOUR: 'it returns false'. Refute it at one input. -/
def replicaPlaysWrong : ChangeSpec := { name := "replicaPlays", fn := fun _ => fun
  | [d1, d2, d3] => { results := [.lit (.bool false)], args := [d1, d2, d3] }
  | _ => none }
def ReplicaPlaysWrongFalsely : Prop := replicaPlaysRow.holds Tryz.pinned (OpenSpec.ofChange replicaPlaysWrong)

/-- 'witanlaw18.ReplicaNil': WHATEVER THE INPUT: true; the input reads as it did. -/
def replicaNilSpec : ChangeSpec := { name := "replicaNil", fn := fun _ => fun
  | [d] => { results := [.lit (.bool true)], args := [d] }
  | _ => none }
def replicaNilRow : OpenClaim := { program := "ytflpkoafebjfdaagreat", sum := "954ded6c4e63a78ed984dcb4ed1f5b744df9e7eea93b45f521b1b5ea1ab3f0b1", func := "witan/witanlaw18.ReplicaNil", spec := "replicaNil", inPlace := ["math.Float64bits", "math.Float64frombits", "maps.clone"], unfollowed := true, recurses := true, plainKeys := false, apart := false }
def ReplicaNilSaid : Prop := replicaNilRow.holds Tryz.pinned (OpenSpec.ofChange replicaNilSpec)

/-- ITS FALSE NEIGHBOUR: 'it returns false'. Refute it at one input. -/
def replicaNilWrong : ChangeSpec := { name := "replicaNil", fn := fun _ => fun
  | [d] => { results := [.lit (.bool false)], args := [d] }
  | _ => none }
def ReplicaNilWrongFalsely : Prop := replicaNilRow.holds Tryz.pinned (OpenSpec.ofChange replicaNilWrong)

/- THE SECOND FORM. 'bulk': how many values and letters a reading holds, each counted each time it is reached (what is shared counts as often as it is met; a slice's spare places count too). A statement '..UptoSaid' is the law's where the arguments, and the package variables that the reading takes, are together of bulk at most 1048576: NARROWER than '..Said'. Prove '..Said' where nothing that the law and all that it calls make is longer than what came in: it says more and counts as full. Else prove '..UptoSaid'. A law counts once. -/
mutual
def uptoBulk {H : Type} : DataW H → Nat
  | .lit (.string bytes) => bytes.length + 1
  | .lit _ => 1
  | .nil => 1
  | .ptr d => uptoBulk d + 1
  | .slice elems spare => uptoBulkAll elems + uptoBulkAll spare + 1
  | .agg parts => uptoBulkAll parts + 1
  | .iface _ d => uptoBulk d + 1
  | .map entries => uptoBulkEntries entries + 1
  | .held _ => 1
def uptoBulkAll {H : Type} : List (DataW H) → Nat
  | [] => 0
  | d :: r => uptoBulk d + uptoBulkAll r
def uptoBulkEntries {H : Type} : List (Lit × DataW H) → Nat
  | [] => 0
  | x :: r => uptoBulkEntry x + uptoBulkEntries r
def uptoBulkEntry {H : Type} : Lit × DataW H → Nat
  | (.string bytes, d) => bytes.length + uptoBulk d + 1
  | (_, d) => uptoBulk d + 1
 end
def uptoSmall : (H : Type) → List (DataW H) → Bool := fun _ ds => decide (uptoBulkAll ds ≤ 1048576)
def OpenSpec.upto (s : _root_.Go.ChangeSpec) : _root_.Go.OpenSpec := { _root_.Go.OpenSpec.ofChange s with cond := some uptoSmall }

/-- 'witanlaw18.ReplicaOne', WHERE WHAT IT READS IS OF BULK AT MOST 1048576: true; the input reads as it did. -/
def replicaOneUptoRow : OpenClaim := { program := "ytflpkoafebjfdaagreat", sum := "954ded6c4e63a78ed984dcb4ed1f5b744df9e7eea93b45f521b1b5ea1ab3f0b1", func := "witan/witanlaw18.ReplicaOne", spec := "replicaOne", inPlace := ["math.Float64bits", "math.Float64frombits", "maps.clone"], unfollowed := true, recurses := true, plainKeys := false, apart := false, narrowed := true }
def ReplicaOneUptoSaid : Prop := replicaOneUptoRow.holds Tryz.pinned (OpenSpec.upto replicaOneSpec)

/-- 'witanlaw18.ReplicaStands', WHERE WHAT IT READS IS OF BULK AT MOST 1048576: true; the input reads as it did. -/
def replicaStandsUptoRow : OpenClaim := { program := "ytflpkoafebjfdaagreat", sum := "954ded6c4e63a78ed984dcb4ed1f5b744df9e7eea93b45f521b1b5ea1ab3f0b1", func := "witan/witanlaw18.ReplicaStands", spec := "replicaStands", inPlace := ["math.Float64bits", "math.Float64frombits", "maps.clone"], unfollowed := true, recurses := true, plainKeys := false, apart := false, narrowed := true }
def ReplicaStandsUptoSaid : Prop := replicaStandsUptoRow.holds Tryz.pinned (OpenSpec.upto replicaStandsSpec)

/-- 'witanlaw18.ReplicaGrows', WHERE WHAT IT READS IS OF BULK AT MOST 1048576: true; the input reads as it did. -/
def replicaGrowsUptoRow : OpenClaim := { program := "ytflpkoafebjfdaagreat", sum := "954ded6c4e63a78ed984dcb4ed1f5b744df9e7eea93b45f521b1b5ea1ab3f0b1", func := "witan/witanlaw18.ReplicaGrows", spec := "replicaGrows", inPlace := ["math.Float64bits", "math.Float64frombits", "maps.clone"], unfollowed := true, recurses := true, plainKeys := false, apart := false, narrowed := true }
def ReplicaGrowsUptoSaid : Prop := replicaGrowsUptoRow.holds Tryz.pinned (OpenSpec.upto replicaGrowsSpec)

/-- 'witanlaw18.ReplicaBounds', WHERE WHAT IT READS IS OF BULK AT MOST 1048576: true; the input reads as it did. -/
def replicaBoundsUptoRow : OpenClaim := { program := "ytflpkoafebjfdaagreat", sum := "954ded6c4e63a78ed984dcb4ed1f5b744df9e7eea93b45f521b1b5ea1ab3f0b1", func := "witan/witanlaw18.ReplicaBounds", spec := "replicaBounds", inPlace := ["math.Float64bits", "math.Float64frombits", "maps.clone"], unfollowed := true, recurses := true, plainKeys := false, apart := false, narrowed := true }
def ReplicaBoundsUptoSaid : Prop := replicaBoundsUptoRow.holds Tryz.pinned (OpenSpec.upto replicaBoundsSpec)

/-- 'witanlaw18.ReplicaDeaf', WHERE WHAT IT READS IS OF BULK AT MOST 1048576: true; the input reads as it did. -/
def replicaDeafUptoRow : OpenClaim := { program := "ytflpkoafebjfdaagreat", sum := "954ded6c4e63a78ed984dcb4ed1f5b744df9e7eea93b45f521b1b5ea1ab3f0b1", func := "witan/witanlaw18.ReplicaDeaf", spec := "replicaDeaf", inPlace := ["math.Float64bits", "math.Float64frombits", "maps.clone"], unfollowed := true, recurses := true, plainKeys := false, apart := false, narrowed := true }
def ReplicaDeafUptoSaid : Prop := replicaDeafUptoRow.holds Tryz.pinned (OpenSpec.upto replicaDeafSpec)

/-- 'witanlaw18.ReplicaPlays', WHERE WHAT IT READS IS OF BULK AT MOST 1048576: true; the input reads as it did. -/
def replicaPlaysUptoRow : OpenClaim := { program := "ytflpkoafebjfdaagreat", sum := "954ded6c4e63a78ed984dcb4ed1f5b744df9e7eea93b45f521b1b5ea1ab3f0b1", func := "witan/witanlaw18.ReplicaPlays", spec := "replicaPlays", inPlace := ["math.Float64bits", "math.Float64frombits", "maps.clone"], unfollowed := true, recurses := true, plainKeys := false, apart := false, narrowed := true }
def ReplicaPlaysUptoSaid : Prop := replicaPlaysUptoRow.holds Tryz.pinned (OpenSpec.upto replicaPlaysSpec)

/-- 'witanlaw18.ReplicaNil', WHERE WHAT IT READS IS OF BULK AT MOST 1048576: true; the input reads as it did. -/
def replicaNilUptoRow : OpenClaim := { program := "ytflpkoafebjfdaagreat", sum := "954ded6c4e63a78ed984dcb4ed1f5b744df9e7eea93b45f521b1b5ea1ab3f0b1", func := "witan/witanlaw18.ReplicaNil", spec := "replicaNil", inPlace := ["math.Float64bits", "math.Float64frombits", "maps.clone"], unfollowed := true, recurses := true, plainKeys := false, apart := false, narrowed := true }
def ReplicaNilUptoSaid : Prop := replicaNilUptoRow.holds Tryz.pinned (OpenSpec.upto replicaNilSpec)

end Rows
end Go.Proofs.YtflpkoafebjfdaaGreat
