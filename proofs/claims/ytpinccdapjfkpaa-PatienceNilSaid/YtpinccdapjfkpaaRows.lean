/-
  No cell of these rows narrows 'for every input' (looked for: loops, veiled, ifaces, maps, wideKeys, modest, calm, conditions, laid).
  DERIVED. THE GIVEN ROWS OF THIS SEAT. 10 by the template 'for every input the law returns true; each argument reads behind the call as it read before'; 0 by the template 'total and deterministic' (their statements: YtpinccdapjfkpaaTotals.lean).
  GIVEN WITH THE SEED: the statements are not yours to turn. If you find one false, say at which input.
  Laid BY PROGRAM, IN A SANDBOX (cutbox-rows.mjs): the forced cells as the released guide's own fill.sh prints them over the translation 944a9f737cbb3998… (all of the seat's roots in one cut). By AI agents, Wed Nov 11 2026. No macro, syntax, notation, axiom, sorry.
-/
import Derived.Test.YtpinccdapjfkpaaChecked
import GoSem.Claim
import GoSem.ClaimJoined
import GoSem.ClaimMapViews
import Derived.JoinedTies
import Derived.KernelRfl
namespace Go.Proofs.Ytpinccdapjfkpaa
/- THE CELL 'sum', in the pinned program and in every row, IS THE sha256 OF THE DUMP (.gsa) THAT YtpinccdapjfkpaaProg.lean LOADS. Nothing in Lean hashes anything: it is a label: what it is worth is what the hold of that sum in a sandbox is worth. -/
noncomputable def Try.pinned : Pinned := { name := "ytpinccdapjfkpaa", sum := "944a9f737cbb3998a046a7c423f7d65d2ed5bf0db0d9e5409ced85d59c8ca3f7", checked := Try.checked }
namespace Rows
def none {H : Type} : Left H := { results := [], args := [] }

/-- 'witanlaw02.RealsBits': WHATEVER THE INPUT: true; the input reads as it did. -/
def realsBitsSpec : ChangeSpec := { name := "realsBits", fn := fun _ => fun
  | [d] => { results := [.lit (.bool true)], args := [d] }
  | _ => none }
def realsBitsRow : OpenClaim := { program := "ytpinccdapjfkpaa", sum := "944a9f737cbb3998a046a7c423f7d65d2ed5bf0db0d9e5409ced85d59c8ca3f7", func := "witan/witanlaw02.RealsBits", spec := "realsBits", inPlace := ["math.Float64frombits", "math.Float64bits"], apart := false }
def RealsBitsSaid : Prop := realsBitsRow.holds Try.pinned (OpenSpec.ofChange realsBitsSpec)

/-- ITS FALSE NEIGHBOUR: 'it returns false'. Refute it at one input. -/
def realsBitsWrong : ChangeSpec := { name := "realsBits", fn := fun _ => fun
  | [d] => { results := [.lit (.bool false)], args := [d] }
  | _ => none }
def RealsBitsWrongFalsely : Prop := realsBitsRow.holds Try.pinned (OpenSpec.ofChange realsBitsWrong)

/-- 'witanlaw02.RealsAdds': WHATEVER THE INPUT: true; the input reads as it did. -/
def realsAddsSpec : ChangeSpec := { name := "realsAdds", fn := fun _ => fun
  | [d1, d2] => { results := [.lit (.bool true)], args := [d1, d2] }
  | _ => none }
def realsAddsRow : OpenClaim := { program := "ytpinccdapjfkpaa", sum := "944a9f737cbb3998a046a7c423f7d65d2ed5bf0db0d9e5409ced85d59c8ca3f7", func := "witan/witanlaw02.RealsAdds", spec := "realsAdds", inPlace := ["math.Float64frombits", "math.Float64bits"], apart := false }
def RealsAddsSaid : Prop := realsAddsRow.holds Try.pinned (OpenSpec.ofChange realsAddsSpec)

/-- ITS FALSE NEIGHBOUR: 'it returns false'. Refute it at one input. -/
def realsAddsWrong : ChangeSpec := { name := "realsAdds", fn := fun _ => fun
  | [d1, d2] => { results := [.lit (.bool false)], args := [d1, d2] }
  | _ => none }
def RealsAddsWrongFalsely : Prop := realsAddsRow.holds Try.pinned (OpenSpec.ofChange realsAddsWrong)

/-- 'witanlaw02.RealsEdges': WHATEVER THE INPUT: true; the input reads as it did. -/
def realsEdgesSpec : ChangeSpec := { name := "realsEdges", fn := fun _ => fun
  | [d1, d2] => { results := [.lit (.bool true)], args := [d1, d2] }
  | _ => none }
def realsEdgesRow : OpenClaim := { program := "ytpinccdapjfkpaa", sum := "944a9f737cbb3998a046a7c423f7d65d2ed5bf0db0d9e5409ced85d59c8ca3f7", func := "witan/witanlaw02.RealsEdges", spec := "realsEdges", inPlace := ["math.Float64frombits", "math.Float64bits"], apart := false }
def RealsEdgesSaid : Prop := realsEdgesRow.holds Try.pinned (OpenSpec.ofChange realsEdgesSpec)

/-- ITS FALSE NEIGHBOUR: 'it returns false'. Refute it at one input. -/
def realsEdgesWrong : ChangeSpec := { name := "realsEdges", fn := fun _ => fun
  | [d1, d2] => { results := [.lit (.bool false)], args := [d1, d2] }
  | _ => none }
def RealsEdgesWrongFalsely : Prop := realsEdgesRow.holds Try.pinned (OpenSpec.ofChange realsEdgesWrong)

/-- 'witanlaw17.PatienceDue': WHATEVER THE INPUT: true; the input reads as it did. -/
def patienceDueSpec : ChangeSpec := { name := "patienceDue", fn := fun _ => fun
  | [d1, d2, d3] => { results := [.lit (.bool true)], args := [d1, d2, d3] }
  | _ => none }
def patienceDueRow : OpenClaim := { program := "ytpinccdapjfkpaa", sum := "944a9f737cbb3998a046a7c423f7d65d2ed5bf0db0d9e5409ced85d59c8ca3f7", func := "witan/witanlaw17.PatienceDue", spec := "patienceDue", apart := false }
def PatienceDueSaid : Prop := patienceDueRow.holds Try.pinned (OpenSpec.ofChange patienceDueSpec)

/-- ITS FALSE NEIGHBOUR: 'it returns false'. Refute it at one input. -/
def patienceDueWrong : ChangeSpec := { name := "patienceDue", fn := fun _ => fun
  | [d1, d2, d3] => { results := [.lit (.bool false)], args := [d1, d2, d3] }
  | _ => none }
def PatienceDueWrongFalsely : Prop := patienceDueRow.holds Try.pinned (OpenSpec.ofChange patienceDueWrong)

/-- 'witanlaw02.RealsLess': WHATEVER THE INPUT: true; the input reads as it did. -/
def realsLessSpec : ChangeSpec := { name := "realsLess", fn := fun _ => fun
  | [d1, d2] => { results := [.lit (.bool true)], args := [d1, d2] }
  | _ => none }
def realsLessRow : OpenClaim := { program := "ytpinccdapjfkpaa", sum := "944a9f737cbb3998a046a7c423f7d65d2ed5bf0db0d9e5409ced85d59c8ca3f7", func := "witan/witanlaw02.RealsLess", spec := "realsLess", inPlace := ["math.Float64frombits", "math.Float64bits"], apart := false }
def RealsLessSaid : Prop := realsLessRow.holds Try.pinned (OpenSpec.ofChange realsLessSpec)

/-- ITS FALSE NEIGHBOUR: 'it returns false'. Refute it at one input. -/
def realsLessWrong : ChangeSpec := { name := "realsLess", fn := fun _ => fun
  | [d1, d2] => { results := [.lit (.bool false)], args := [d1, d2] }
  | _ => none }
def RealsLessWrongFalsely : Prop := realsLessRow.holds Try.pinned (OpenSpec.ofChange realsLessWrong)

/-- 'witanlaw02.RealsOrder': WHATEVER THE INPUT: true; the input reads as it did. -/
def realsOrderSpec : ChangeSpec := { name := "realsOrder", fn := fun _ => fun
  | [d1, d2, d3] => { results := [.lit (.bool true)], args := [d1, d2, d3] }
  | _ => none }
def realsOrderRow : OpenClaim := { program := "ytpinccdapjfkpaa", sum := "944a9f737cbb3998a046a7c423f7d65d2ed5bf0db0d9e5409ced85d59c8ca3f7", func := "witan/witanlaw02.RealsOrder", spec := "realsOrder", inPlace := ["math.Float64frombits", "math.Float64bits"], apart := false }
def RealsOrderSaid : Prop := realsOrderRow.holds Try.pinned (OpenSpec.ofChange realsOrderSpec)

/-- ITS FALSE NEIGHBOUR: 'it returns false'. Refute it at one input. -/
def realsOrderWrong : ChangeSpec := { name := "realsOrder", fn := fun _ => fun
  | [d1, d2, d3] => { results := [.lit (.bool false)], args := [d1, d2, d3] }
  | _ => none }
def RealsOrderWrongFalsely : Prop := realsOrderRow.holds Try.pinned (OpenSpec.ofChange realsOrderWrong)

/-- 'witanlaw17.PatiencePlays': WHATEVER THE INPUT: true; the input reads as it did. -/
def patiencePlaysSpec : ChangeSpec := { name := "patiencePlays", fn := fun _ => fun
  | [d] => { results := [.lit (.bool true)], args := [d] }
  | _ => none }
def patiencePlaysRow : OpenClaim := { program := "ytpinccdapjfkpaa", sum := "944a9f737cbb3998a046a7c423f7d65d2ed5bf0db0d9e5409ced85d59c8ca3f7", func := "witan/witanlaw17.PatiencePlays", spec := "patiencePlays", apart := false }
def PatiencePlaysSaid : Prop := patiencePlaysRow.holds Try.pinned (OpenSpec.ofChange patiencePlaysSpec)

/-- ITS FALSE NEIGHBOUR: 'it returns false'. Refute it at one input. -/
def patiencePlaysWrong : ChangeSpec := { name := "patiencePlays", fn := fun _ => fun
  | [d] => { results := [.lit (.bool false)], args := [d] }
  | _ => none }
def PatiencePlaysWrongFalsely : Prop := patiencePlaysRow.holds Try.pinned (OpenSpec.ofChange patiencePlaysWrong)

/-- 'witanlaw17.PatienceWaits': WHATEVER THE INPUT: true; the input reads as it did. -/
def patienceWaitsSpec : ChangeSpec := { name := "patienceWaits", fn := fun _ => fun
  | [d] => { results := [.lit (.bool true)], args := [d] }
  | _ => none }
def patienceWaitsRow : OpenClaim := { program := "ytpinccdapjfkpaa", sum := "944a9f737cbb3998a046a7c423f7d65d2ed5bf0db0d9e5409ced85d59c8ca3f7", func := "witan/witanlaw17.PatienceWaits", spec := "patienceWaits", apart := false }
def PatienceWaitsSaid : Prop := patienceWaitsRow.holds Try.pinned (OpenSpec.ofChange patienceWaitsSpec)

/-- ITS FALSE NEIGHBOUR: 'it returns false'. Refute it at one input. -/
def patienceWaitsWrong : ChangeSpec := { name := "patienceWaits", fn := fun _ => fun
  | [d] => { results := [.lit (.bool false)], args := [d] }
  | _ => none }
def PatienceWaitsWrongFalsely : Prop := patienceWaitsRow.holds Try.pinned (OpenSpec.ofChange patienceWaitsWrong)

/-- 'witanlaw17.PatienceNil': WHATEVER THE INPUT: true; the input reads as it did. -/
def patienceNilSpec : ChangeSpec := { name := "patienceNil", fn := fun _ => fun
  | [d] => { results := [.lit (.bool true)], args := [d] }
  | _ => none }
def patienceNilRow : OpenClaim := { program := "ytpinccdapjfkpaa", sum := "944a9f737cbb3998a046a7c423f7d65d2ed5bf0db0d9e5409ced85d59c8ca3f7", func := "witan/witanlaw17.PatienceNil", spec := "patienceNil", apart := false }
def PatienceNilSaid : Prop := patienceNilRow.holds Try.pinned (OpenSpec.ofChange patienceNilSpec)

/-- ITS FALSE NEIGHBOUR: 'it returns false'. Refute it at one input. -/
def patienceNilWrong : ChangeSpec := { name := "patienceNil", fn := fun _ => fun
  | [d] => { results := [.lit (.bool false)], args := [d] }
  | _ => none }
def PatienceNilWrongFalsely : Prop := patienceNilRow.holds Try.pinned (OpenSpec.ofChange patienceNilWrong)

/-- 'witanlaw02.RealsMost': WHATEVER THE INPUT: true; the input reads as it did. -/
def realsMostSpec : ChangeSpec := { name := "realsMost", fn := fun _ => fun
  | [d1, d2, d3] => { results := [.lit (.bool true)], args := [d1, d2, d3] }
  | _ => none }
def realsMostRow : OpenClaim := { program := "ytpinccdapjfkpaa", sum := "944a9f737cbb3998a046a7c423f7d65d2ed5bf0db0d9e5409ced85d59c8ca3f7", func := "witan/witanlaw02.RealsMost", spec := "realsMost", inPlace := ["math.Float64frombits", "math.Float64bits"], apart := false }
def RealsMostSaid : Prop := realsMostRow.holds Try.pinned (OpenSpec.ofChange realsMostSpec)

/-- ITS FALSE NEIGHBOUR: 'it returns false'. Refute it at one input. -/
def realsMostWrong : ChangeSpec := { name := "realsMost", fn := fun _ => fun
  | [d1, d2, d3] => { results := [.lit (.bool false)], args := [d1, d2, d3] }
  | _ => none }
def RealsMostWrongFalsely : Prop := realsMostRow.holds Try.pinned (OpenSpec.ofChange realsMostWrong)

/- THE SECOND FORM. 'bulk': how many values and letters a reading holds, each counted each time it is reached (what is shared counts as often as it is met; a slice's spare places count too). A statement '..UptoSaid' is the law's where the arguments, and the package variables that the reading takes, are together of bulk at most 1048576: NARROWER than '..Said'. Prove '..Said' where nothing that the law and all that it calls make is longer than what came in: it says more and counts as full. Else prove '..UptoSaid'. A law counts once. -/
mutual
def uptoBulk {H : Type} : DataW H → Nat
  | .lit (.string bytes) => bytes.length + 1
  | .lit _ => 1
  | .nil => 1
  | .ptr d => uptoBulk d + 1
  | .slice elems spare => uptoBulkAll elems + uptoBulkAll spare + 1
  | .agg parts => uptoBulkAll parts + 1
  | .iface _ d => uptoBulk d + 1
  | .map entries => uptoBulkEntries entries + 1
  | .held _ => 1
def uptoBulkAll {H : Type} : List (DataW H) → Nat
  | [] => 0
  | d :: r => uptoBulk d + uptoBulkAll r
def uptoBulkEntries {H : Type} : List (Lit × DataW H) → Nat
  | [] => 0
  | x :: r => uptoBulkEntry x + uptoBulkEntries r
def uptoBulkEntry {H : Type} : Lit × DataW H → Nat
  | (.string bytes, d) => bytes.length + uptoBulk d + 1
  | (_, d) => uptoBulk d + 1
 end
def uptoSmall : (H : Type) → List (DataW H) → Bool := fun _ ds => decide (uptoBulkAll ds ≤ 1048576)
def OpenSpec.upto (s : _root_.Go.ChangeSpec) : _root_.Go.OpenSpec := { _root_.Go.OpenSpec.ofChange s with cond := some uptoSmall }

/-- 'witanlaw02.RealsBits', WHERE WHAT IT READS IS OF BULK AT MOST 1048576: true; the input reads as it did. -/
def realsBitsUptoRow : OpenClaim := { program := "ytpinccdapjfkpaa", sum := "944a9f737cbb3998a046a7c423f7d65d2ed5bf0db0d9e5409ced85d59c8ca3f7", func := "witan/witanlaw02.RealsBits", spec := "realsBits", inPlace := ["math.Float64frombits", "math.Float64bits"], apart := false, narrowed := true }
def RealsBitsUptoSaid : Prop := realsBitsUptoRow.holds Try.pinned (OpenSpec.upto realsBitsSpec)

/-- 'witanlaw02.RealsAdds', WHERE WHAT IT READS IS OF BULK AT MOST 1048576: true; the input reads as it did. -/
def realsAddsUptoRow : OpenClaim := { program := "ytpinccdapjfkpaa", sum := "944a9f737cbb3998a046a7c423f7d65d2ed5bf0db0d9e5409ced85d59c8ca3f7", func := "witan/witanlaw02.RealsAdds", spec := "realsAdds", inPlace := ["math.Float64frombits", "math.Float64bits"], apart := false, narrowed := true }
def RealsAddsUptoSaid : Prop := realsAddsUptoRow.holds Try.pinned (OpenSpec.upto realsAddsSpec)

/-- 'witanlaw02.RealsEdges', WHERE WHAT IT READS IS OF BULK AT MOST 1048576: true; the input reads as it did. -/
def realsEdgesUptoRow : OpenClaim := { program := "ytpinccdapjfkpaa", sum := "944a9f737cbb3998a046a7c423f7d65d2ed5bf0db0d9e5409ced85d59c8ca3f7", func := "witan/witanlaw02.RealsEdges", spec := "realsEdges", inPlace := ["math.Float64frombits", "math.Float64bits"], apart := false, narrowed := true }
def RealsEdgesUptoSaid : Prop := realsEdgesUptoRow.holds Try.pinned (OpenSpec.upto realsEdgesSpec)

/-- 'witanlaw17.PatienceDue', WHERE WHAT IT READS IS OF BULK AT MOST 1048576: true; the input reads as it did. -/
def patienceDueUptoRow : OpenClaim := { program := "ytpinccdapjfkpaa", sum := "944a9f737cbb3998a046a7c423f7d65d2ed5bf0db0d9e5409ced85d59c8ca3f7", func := "witan/witanlaw17.PatienceDue", spec := "patienceDue", apart := false, narrowed := true }
def PatienceDueUptoSaid : Prop := patienceDueUptoRow.holds Try.pinned (OpenSpec.upto patienceDueSpec)

/-- 'witanlaw02.RealsLess', WHERE WHAT IT READS IS OF BULK AT MOST 1048576: true; the input reads as it did. -/
def realsLessUptoRow : OpenClaim := { program := "ytpinccdapjfkpaa", sum := "944a9f737cbb3998a046a7c423f7d65d2ed5bf0db0d9e5409ced85d59c8ca3f7", func := "witan/witanlaw02.RealsLess", spec := "realsLess", inPlace := ["math.Float64frombits", "math.Float64bits"], apart := false, narrowed := true }
def RealsLessUptoSaid : Prop := realsLessUptoRow.holds Try.pinned (OpenSpec.upto realsLessSpec)

/-- 'witanlaw02.RealsOrder', WHERE WHAT IT READS IS OF BULK AT MOST 1048576: true; the input reads as it did. -/
def realsOrderUptoRow : OpenClaim := { program := "ytpinccdapjfkpaa", sum := "944a9f737cbb3998a046a7c423f7d65d2ed5bf0db0d9e5409ced85d59c8ca3f7", func := "witan/witanlaw02.RealsOrder", spec := "realsOrder", inPlace := ["math.Float64frombits", "math.Float64bits"], apart := false, narrowed := true }
def RealsOrderUptoSaid : Prop := realsOrderUptoRow.holds Try.pinned (OpenSpec.upto realsOrderSpec)

/-- 'witanlaw17.PatiencePlays', WHERE WHAT IT READS IS OF BULK AT MOST 1048576: true; the input reads as it did. -/
def patiencePlaysUptoRow : OpenClaim := { program := "ytpinccdapjfkpaa", sum := "944a9f737cbb3998a046a7c423f7d65d2ed5bf0db0d9e5409ced85d59c8ca3f7", func := "witan/witanlaw17.PatiencePlays", spec := "patiencePlays", apart := false, narrowed := true }
def PatiencePlaysUptoSaid : Prop := patiencePlaysUptoRow.holds Try.pinned (OpenSpec.upto patiencePlaysSpec)

/-- 'witanlaw17.PatienceWaits', WHERE WHAT IT READS IS OF BULK AT MOST 1048576: true; the input reads as it did. -/
def patienceWaitsUptoRow : OpenClaim := { program := "ytpinccdapjfkpaa", sum := "944a9f737cbb3998a046a7c423f7d65d2ed5bf0db0d9e5409ced85d59c8ca3f7", func := "witan/witanlaw17.PatienceWaits", spec := "patienceWaits", apart := false, narrowed := true }
def PatienceWaitsUptoSaid : Prop := patienceWaitsUptoRow.holds Try.pinned (OpenSpec.upto patienceWaitsSpec)

/-- 'witanlaw17.PatienceNil', WHERE WHAT IT READS IS OF BULK AT MOST 1048576: true; the input reads as it did. -/
def patienceNilUptoRow : OpenClaim := { program := "ytpinccdapjfkpaa", sum := "944a9f737cbb3998a046a7c423f7d65d2ed5bf0db0d9e5409ced85d59c8ca3f7", func := "witan/witanlaw17.PatienceNil", spec := "patienceNil", apart := false, narrowed := true }
def PatienceNilUptoSaid : Prop := patienceNilUptoRow.holds Try.pinned (OpenSpec.upto patienceNilSpec)

/-- 'witanlaw02.RealsMost', WHERE WHAT IT READS IS OF BULK AT MOST 1048576: true; the input reads as it did. -/
def realsMostUptoRow : OpenClaim := { program := "ytpinccdapjfkpaa", sum := "944a9f737cbb3998a046a7c423f7d65d2ed5bf0db0d9e5409ced85d59c8ca3f7", func := "witan/witanlaw02.RealsMost", spec := "realsMost", inPlace := ["math.Float64frombits", "math.Float64bits"], apart := false, narrowed := true }
def RealsMostUptoSaid : Prop := realsMostUptoRow.holds Try.pinned (OpenSpec.upto realsMostSpec)

end Rows
end Go.Proofs.Ytpinccdapjfkpaa
