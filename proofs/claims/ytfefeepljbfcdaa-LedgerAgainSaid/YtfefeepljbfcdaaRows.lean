/-
  No cell of these rows narrows 'for every input' (looked for: loops, veiled, ifaces, maps, wideKeys, modest, calm, conditions, laid).
  DERIVED. THE GIVEN ROWS OF THIS SEAT. 5 by the template 'for every input the law returns true; each argument reads behind the call as it read before'; 0 by the template 'total and deterministic' (their statements: YtfefeepljbfcdaaTotals.lean).
  GIVEN WITH THE SEED: the statements are not yours to turn. If you find one false, say at which input.
  Laid BY PROGRAM, IN A SANDBOX (cutbox-rows.mjs): the forced cells as the released guide's own fill.sh prints them over the translation 2a4b0ca41a04e6ea… (all of the seat's roots in one cut). By AI agents, Wed Nov 11 2026. No macro, syntax, notation, axiom, sorry.
-/
import Derived.Test.YtfefeepljbfcdaaChecked
import GoSem.Claim
import GoSem.ClaimJoined
import GoSem.ClaimMapViews
import Derived.JoinedTies
import Derived.KernelRfl
namespace Go.Proofs.Ytfefeepljbfcdaa
/- THE CELL 'sum', in the pinned program and in every row, IS THE sha256 OF THE DUMP (.gsa) THAT YtfefeepljbfcdaaProg.lean LOADS. Nothing in Lean hashes anything: it is a label: what it is worth is what the hold of that sum in a sandbox is worth. -/
noncomputable def Try.pinned : Pinned := { name := "ytfefeepljbfcdaa", sum := "2a4b0ca41a04e6ea786ba3aa80e3bc42d4d42105633cc4e8fae5f93bc0a654f9", checked := Try.checked }
namespace Rows
def none {H : Type} : Left H := { results := [], args := [] }

/-- 'witanlaw12.LedgerMembers': WHATEVER THE INPUT: true; the input reads as it did. -/
def ledgerMembersSpec : ChangeSpec := { name := "ledgerMembers", fn := fun _ => fun
  | [d1, d2] => { results := [.lit (.bool true)], args := [d1, d2] }
  | _ => none }
def ledgerMembersRow : OpenClaim := { program := "ytfefeepljbfcdaa", sum := "2a4b0ca41a04e6ea786ba3aa80e3bc42d4d42105633cc4e8fae5f93bc0a654f9", func := "witan/witanlaw12.LedgerMembers", spec := "ledgerMembers", inPlace := ["math.Float64frombits", "math.Float64bits"], apart := false }
def LedgerMembersSaid : Prop := ledgerMembersRow.holds Try.pinned (OpenSpec.ofChange ledgerMembersSpec)

/-- ITS FALSE NEIGHBOUR: 'it returns false'. Refute it at one input. -/
def ledgerMembersWrong : ChangeSpec := { name := "ledgerMembers", fn := fun _ => fun
  | [d1, d2] => { results := [.lit (.bool false)], args := [d1, d2] }
  | _ => none }
def LedgerMembersWrongFalsely : Prop := ledgerMembersRow.holds Try.pinned (OpenSpec.ofChange ledgerMembersWrong)

/-- 'witanlaw12.LedgerOnce': WHATEVER THE INPUT: true; the input reads as it did. -/
def ledgerOnceSpec : ChangeSpec := { name := "ledgerOnce", fn := fun _ => fun
  | [d1, d2, d3] => { results := [.lit (.bool true)], args := [d1, d2, d3] }
  | _ => none }
def ledgerOnceRow : OpenClaim := { program := "ytfefeepljbfcdaa", sum := "2a4b0ca41a04e6ea786ba3aa80e3bc42d4d42105633cc4e8fae5f93bc0a654f9", func := "witan/witanlaw12.LedgerOnce", spec := "ledgerOnce", inPlace := ["math.Float64frombits", "math.Float64bits", "maps.clone"], apart := false }
def LedgerOnceSaid : Prop := ledgerOnceRow.holds Try.pinned (OpenSpec.ofChange ledgerOnceSpec)

/-- ITS FALSE NEIGHBOUR: 'it returns false'. Refute it at one input. -/
def ledgerOnceWrong : ChangeSpec := { name := "ledgerOnce", fn := fun _ => fun
  | [d1, d2, d3] => { results := [.lit (.bool false)], args := [d1, d2, d3] }
  | _ => none }
def LedgerOnceWrongFalsely : Prop := ledgerOnceRow.holds Try.pinned (OpenSpec.ofChange ledgerOnceWrong)

/-- 'witanlaw12.LedgerRoom': WHATEVER THE INPUT: true; the input reads as it did. -/
def ledgerRoomSpec : ChangeSpec := { name := "ledgerRoom", fn := fun _ => fun
  | [d1, d2] => { results := [.lit (.bool true)], args := [d1, d2] }
  | _ => none }
def ledgerRoomRow : OpenClaim := { program := "ytfefeepljbfcdaa", sum := "2a4b0ca41a04e6ea786ba3aa80e3bc42d4d42105633cc4e8fae5f93bc0a654f9", func := "witan/witanlaw12.LedgerRoom", spec := "ledgerRoom", inPlace := ["math.Float64frombits", "math.Float64bits"], unfollowed := true, recurses := true, apart := false }
def LedgerRoomSaid : Prop := ledgerRoomRow.holds Try.pinned (OpenSpec.ofChange ledgerRoomSpec)

/-- ITS FALSE NEIGHBOUR: 'it returns false'. Refute it at one input. -/
def ledgerRoomWrong : ChangeSpec := { name := "ledgerRoom", fn := fun _ => fun
  | [d1, d2] => { results := [.lit (.bool false)], args := [d1, d2] }
  | _ => none }
def LedgerRoomWrongFalsely : Prop := ledgerRoomRow.holds Try.pinned (OpenSpec.ofChange ledgerRoomWrong)

/-- 'witanlaw12.LedgerNil': WHATEVER THE INPUT: true; the input reads as it did. -/
def ledgerNilSpec : ChangeSpec := { name := "ledgerNil", fn := fun _ => fun
  | [d1, d2, d3] => { results := [.lit (.bool true)], args := [d1, d2, d3] }
  | _ => none }
def ledgerNilRow : OpenClaim := { program := "ytfefeepljbfcdaa", sum := "2a4b0ca41a04e6ea786ba3aa80e3bc42d4d42105633cc4e8fae5f93bc0a654f9", func := "witan/witanlaw12.LedgerNil", spec := "ledgerNil", inPlace := ["math.Float64frombits", "math.Float64bits", "maps.clone"], unfollowed := true, recurses := true, apart := false }
def LedgerNilSaid : Prop := ledgerNilRow.holds Try.pinned (OpenSpec.ofChange ledgerNilSpec)

/-- ITS FALSE NEIGHBOUR: 'it returns false'. Refute it at one input. -/
def ledgerNilWrong : ChangeSpec := { name := "ledgerNil", fn := fun _ => fun
  | [d1, d2, d3] => { results := [.lit (.bool false)], args := [d1, d2, d3] }
  | _ => none }
def LedgerNilWrongFalsely : Prop := ledgerNilRow.holds Try.pinned (OpenSpec.ofChange ledgerNilWrong)

/-- 'witanlaw12.LedgerAgain': WHATEVER THE INPUT: true; the input reads as it did. -/
def ledgerAgainSpec : ChangeSpec := { name := "ledgerAgain", fn := fun _ => fun
  | [d1, d2, d3] => { results := [.lit (.bool true)], args := [d1, d2, d3] }
  | _ => none }
def ledgerAgainRow : OpenClaim := { program := "ytfefeepljbfcdaa", sum := "2a4b0ca41a04e6ea786ba3aa80e3bc42d4d42105633cc4e8fae5f93bc0a654f9", func := "witan/witanlaw12.LedgerAgain", spec := "ledgerAgain", inPlace := ["math.Float64frombits", "math.Float64bits", "maps.clone"], unfollowed := true, recurses := true, apart := false }
def LedgerAgainSaid : Prop := ledgerAgainRow.holds Try.pinned (OpenSpec.ofChange ledgerAgainSpec)

/-- ITS FALSE NEIGHBOUR: 'it returns false'. Refute it at one input. -/
def ledgerAgainWrong : ChangeSpec := { name := "ledgerAgain", fn := fun _ => fun
  | [d1, d2, d3] => { results := [.lit (.bool false)], args := [d1, d2, d3] }
  | _ => none }
def LedgerAgainWrongFalsely : Prop := ledgerAgainRow.holds Try.pinned (OpenSpec.ofChange ledgerAgainWrong)

/- THE SECOND FORM. 'bulk': how many values and letters a reading holds, each counted each time it is reached (what is shared counts as often as it is met; a slice's spare places count too). A statement '..UptoSaid' is the law's where the arguments, and the package variables that the reading takes, are together of bulk at most 1048576: NARROWER than '..Said'. Prove '..Said' where nothing that the law and all that it calls make is longer than what came in: it says more and counts as full. Else prove '..UptoSaid'. A law counts once. -/
mutual
def uptoBulk {H : Type} : DataW H → Nat
  | .lit (.string bytes) => bytes.length + 1
  | .lit _ => 1
  | .nil => 1
  | .ptr d => uptoBulk d + 1
  | .slice elems spare => uptoBulkAll elems + uptoBulkAll spare + 1
  | .agg parts => uptoBulkAll parts + 1
  | .iface _ d => uptoBulk d + 1
  | .map entries => uptoBulkEntries entries + 1
  | .held _ => 1
def uptoBulkAll {H : Type} : List (DataW H) → Nat
  | [] => 0
  | d :: r => uptoBulk d + uptoBulkAll r
def uptoBulkEntries {H : Type} : List (Lit × DataW H) → Nat
  | [] => 0
  | x :: r => uptoBulkEntry x + uptoBulkEntries r
def uptoBulkEntry {H : Type} : Lit × DataW H → Nat
  | (.string bytes, d) => bytes.length + uptoBulk d + 1
  | (_, d) => uptoBulk d + 1
 end
def uptoSmall : (H : Type) → List (DataW H) → Bool := fun _ ds => decide (uptoBulkAll ds ≤ 1048576)
def OpenSpec.upto (s : _root_.Go.ChangeSpec) : _root_.Go.OpenSpec := { _root_.Go.OpenSpec.ofChange s with cond := some uptoSmall }

/-- 'witanlaw12.LedgerMembers', WHERE WHAT IT READS IS OF BULK AT MOST 1048576: true; the input reads as it did. -/
def ledgerMembersUptoRow : OpenClaim := { program := "ytfefeepljbfcdaa", sum := "2a4b0ca41a04e6ea786ba3aa80e3bc42d4d42105633cc4e8fae5f93bc0a654f9", func := "witan/witanlaw12.LedgerMembers", spec := "ledgerMembers", inPlace := ["math.Float64frombits", "math.Float64bits"], apart := false, narrowed := true }
def LedgerMembersUptoSaid : Prop := ledgerMembersUptoRow.holds Try.pinned (OpenSpec.upto ledgerMembersSpec)

/-- 'witanlaw12.LedgerOnce', WHERE WHAT IT READS IS OF BULK AT MOST 1048576: true; the input reads as it did. -/
def ledgerOnceUptoRow : OpenClaim := { program := "ytfefeepljbfcdaa", sum := "2a4b0ca41a04e6ea786ba3aa80e3bc42d4d42105633cc4e8fae5f93bc0a654f9", func := "witan/witanlaw12.LedgerOnce", spec := "ledgerOnce", inPlace := ["math.Float64frombits", "math.Float64bits", "maps.clone"], apart := false, narrowed := true }
def LedgerOnceUptoSaid : Prop := ledgerOnceUptoRow.holds Try.pinned (OpenSpec.upto ledgerOnceSpec)

/-- 'witanlaw12.LedgerRoom', WHERE WHAT IT READS IS OF BULK AT MOST 1048576: true; the input reads as it did. -/
def ledgerRoomUptoRow : OpenClaim := { program := "ytfefeepljbfcdaa", sum := "2a4b0ca41a04e6ea786ba3aa80e3bc42d4d42105633cc4e8fae5f93bc0a654f9", func := "witan/witanlaw12.LedgerRoom", spec := "ledgerRoom", inPlace := ["math.Float64frombits", "math.Float64bits"], unfollowed := true, recurses := true, apart := false, narrowed := true }
def LedgerRoomUptoSaid : Prop := ledgerRoomUptoRow.holds Try.pinned (OpenSpec.upto ledgerRoomSpec)

/-- 'witanlaw12.LedgerNil', WHERE WHAT IT READS IS OF BULK AT MOST 1048576: true; the input reads as it did. -/
def ledgerNilUptoRow : OpenClaim := { program := "ytfefeepljbfcdaa", sum := "2a4b0ca41a04e6ea786ba3aa80e3bc42d4d42105633cc4e8fae5f93bc0a654f9", func := "witan/witanlaw12.LedgerNil", spec := "ledgerNil", inPlace := ["math.Float64frombits", "math.Float64bits", "maps.clone"], unfollowed := true, recurses := true, apart := false, narrowed := true }
def LedgerNilUptoSaid : Prop := ledgerNilUptoRow.holds Try.pinned (OpenSpec.upto ledgerNilSpec)

/-- 'witanlaw12.LedgerAgain', WHERE WHAT IT READS IS OF BULK AT MOST 1048576: true; the input reads as it did. -/
def ledgerAgainUptoRow : OpenClaim := { program := "ytfefeepljbfcdaa", sum := "2a4b0ca41a04e6ea786ba3aa80e3bc42d4d42105633cc4e8fae5f93bc0a654f9", func := "witan/witanlaw12.LedgerAgain", spec := "ledgerAgain", inPlace := ["math.Float64frombits", "math.Float64bits", "maps.clone"], unfollowed := true, recurses := true, apart := false, narrowed := true }
def LedgerAgainUptoSaid : Prop := ledgerAgainUptoRow.holds Try.pinned (OpenSpec.upto ledgerAgainSpec)

end Rows
end Go.Proofs.Ytfefeepljbfcdaa
