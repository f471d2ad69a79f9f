/-
  No cell of these rows narrows 'for every input' (looked for: loops, veiled, ifaces, maps, wideKeys, modest, calm, conditions, laid).
  DERIVED. THE GIVEN ROWS OF THIS SEAT. 11 by the template 'for every input the law returns true; each argument reads behind the call as it read before'; 0 by the template 'total and deterministic' (their statements: YtakbkpklfihfiaaTotals.lean).
  GIVEN WITH THE SEED: the statements are not yours to turn. If you find one false, say at which input.
  Laid BY PROGRAM, IN A SANDBOX (cutbox-rows.mjs): the forced cells as the released guide's own fill.sh prints them over the translation c90b974bf9c51930… (all of the seat's roots in one cut). By AI agents, Wed Nov 11 2026. No macro, syntax, notation, axiom, sorry.
-/
import Derived.Test.YtakbkpklfihfiaaChecked
import GoSem.Claim
import GoSem.ClaimJoined
import GoSem.ClaimMapViews
import Derived.JoinedTies
import Derived.KernelRfl
namespace Go.Proofs.Ytakbkpklfihfiaa
/- THE CELL 'sum', in the pinned program and in every row, IS THE sha256 OF THE DUMP (.gsa) THAT YtakbkpklfihfiaaProg.lean LOADS. Nothing in Lean hashes anything: it is a label: what it is worth is what the hold of that sum in a sandbox is worth. -/
noncomputable def Try.pinned : Pinned := { name := "ytakbkpklfihfiaa", sum := "c90b974bf9c51930362250fa97c0dbf59404a70a7b6928522175519a511f8727", checked := Try.checked }
namespace Rows
def none {H : Type} : Left H := { results := [], args := [] }

/-- 'witanlaw16.ChangeTexts': WHATEVER THE INPUT: true; the input reads as it did. -/
def changeTextsSpec : ChangeSpec := { name := "changeTexts", fn := fun _ => fun
  | [d1, d2] => { results := [.lit (.bool true)], args := [d1, d2] }
  | _ => none }
def changeTextsRow : OpenClaim := { program := "ytakbkpklfihfiaa", sum := "c90b974bf9c51930362250fa97c0dbf59404a70a7b6928522175519a511f8727", func := "witan/witanlaw16.ChangeTexts", spec := "changeTexts", inPlace := ["math.Float64bits", "math.Float64frombits"], apart := false }
def ChangeTextsSaid : Prop := changeTextsRow.holds Try.pinned (OpenSpec.ofChange changeTextsSpec)

/-- ITS FALSE NEIGHBOUR: 'it returns false'. Refute it at one input. -/
def changeTextsWrong : ChangeSpec := { name := "changeTexts", fn := fun _ => fun
  | [d1, d2] => { results := [.lit (.bool false)], args := [d1, d2] }
  | _ => none }
def ChangeTextsWrongFalsely : Prop := changeTextsRow.holds Try.pinned (OpenSpec.ofChange changeTextsWrong)

/-- 'witanlaw16.ChangeRight': WHATEVER THE INPUT: true; the input reads as it did. -/
def changeRightSpec : ChangeSpec := { name := "changeRight", fn := fun _ => fun
  | [d1, d2] => { results := [.lit (.bool true)], args := [d1, d2] }
  | _ => none }
def changeRightRow : OpenClaim := { program := "ytakbkpklfihfiaa", sum := "c90b974bf9c51930362250fa97c0dbf59404a70a7b6928522175519a511f8727", func := "witan/witanlaw16.ChangeRight", spec := "changeRight", inPlace := ["math.Float64bits", "math.Float64frombits"], apart := false }
def ChangeRightSaid : Prop := changeRightRow.holds Try.pinned (OpenSpec.ofChange changeRightSpec)

/-- ITS FALSE NEIGHBOUR: 'it returns false'. Refute it at one input. -/
def changeRightWrong : ChangeSpec := { name := "changeRight", fn := fun _ => fun
  | [d1, d2] => { results := [.lit (.bool false)], args := [d1, d2] }
  | _ => none }
def ChangeRightWrongFalsely : Prop := changeRightRow.holds Try.pinned (OpenSpec.ofChange changeRightWrong)

/-- 'witanlaw16.ChangePicks': WHATEVER THE INPUT: true; the input reads as it did. -/
def changePicksSpec : ChangeSpec := { name := "changePicks", fn := fun _ => fun
  | [d1, d2, d3] => { results := [.lit (.bool true)], args := [d1, d2, d3] }
  | _ => none }
def changePicksRow : OpenClaim := { program := "ytakbkpklfihfiaa", sum := "c90b974bf9c51930362250fa97c0dbf59404a70a7b6928522175519a511f8727", func := "witan/witanlaw16.ChangePicks", spec := "changePicks", inPlace := ["math.Float64bits", "math.Float64frombits"], apart := false }
def ChangePicksSaid : Prop := changePicksRow.holds Try.pinned (OpenSpec.ofChange changePicksSpec)

/-- ITS FALSE NEIGHBOUR: 'it returns false'. Refute it at one input. -/
def changePicksWrong : ChangeSpec := { name := "changePicks", fn := fun _ => fun
  | [d1, d2, d3] => { results := [.lit (.bool false)], args := [d1, d2, d3] }
  | _ => none }
def ChangePicksWrongFalsely : Prop := changePicksRow.holds Try.pinned (OpenSpec.ofChange changePicksWrong)

/-- 'witanlaw16.ChangeUnlike': WHATEVER THE INPUT: true; the input reads as it did. -/
def changeUnlikeSpec : ChangeSpec := { name := "changeUnlike", fn := fun _ => fun
  | [d] => { results := [.lit (.bool true)], args := [d] }
  | _ => none }
def changeUnlikeRow : OpenClaim := { program := "ytakbkpklfihfiaa", sum := "c90b974bf9c51930362250fa97c0dbf59404a70a7b6928522175519a511f8727", func := "witan/witanlaw16.ChangeUnlike", spec := "changeUnlike", inPlace := ["math.Float64bits", "math.Float64frombits"], apart := false }
def ChangeUnlikeSaid : Prop := changeUnlikeRow.holds Try.pinned (OpenSpec.ofChange changeUnlikeSpec)

/-- ITS FALSE NEIGHBOUR: 'it returns false'. Refute it at one input. -/
def changeUnlikeWrong : ChangeSpec := { name := "changeUnlike", fn := fun _ => fun
  | [d] => { results := [.lit (.bool false)], args := [d] }
  | _ => none }
def ChangeUnlikeWrongFalsely : Prop := changeUnlikeRow.holds Try.pinned (OpenSpec.ofChange changeUnlikeWrong)

/-- 'witanlaw16.ChangeKeeps': WHATEVER THE INPUT: true; the input reads as it did. -/
def changeKeepsSpec : ChangeSpec := { name := "changeKeeps", fn := fun _ => fun
  | [d1, d2] => { results := [.lit (.bool true)], args := [d1, d2] }
  | _ => none }
def changeKeepsRow : OpenClaim := { program := "ytakbkpklfihfiaa", sum := "c90b974bf9c51930362250fa97c0dbf59404a70a7b6928522175519a511f8727", func := "witan/witanlaw16.ChangeKeeps", spec := "changeKeeps", inPlace := ["math.Float64bits", "math.Float64frombits"], apart := false }
def ChangeKeepsSaid : Prop := changeKeepsRow.holds Try.pinned (OpenSpec.ofChange changeKeepsSpec)

/-- ITS FALSE NEIGHBOUR: 'it returns false'. Refute it at one input. -/
def changeKeepsWrong : ChangeSpec := { name := "changeKeeps", fn := fun _ => fun
  | [d1, d2] => { results := [.lit (.bool false)], args := [d1, d2] }
  | _ => none }
def ChangeKeepsWrongFalsely : Prop := changeKeepsRow.holds Try.pinned (OpenSpec.ofChange changeKeepsWrong)

/-- 'witanlaw16.ChangeMore': WHATEVER THE INPUT: true; the input reads as it did. -/
def changeMoreSpec : ChangeSpec := { name := "changeMore", fn := fun _ => fun
  | [d1, d2, d3] => { results := [.lit (.bool true)], args := [d1, d2, d3] }
  | _ => none }
def changeMoreRow : OpenClaim := { program := "ytakbkpklfihfiaa", sum := "c90b974bf9c51930362250fa97c0dbf59404a70a7b6928522175519a511f8727", func := "witan/witanlaw16.ChangeMore", spec := "changeMore", inPlace := ["math.Float64bits", "math.Float64frombits"], apart := false }
def ChangeMoreSaid : Prop := changeMoreRow.holds Try.pinned (OpenSpec.ofChange changeMoreSpec)

/-- ITS FALSE NEIGHBOUR: 'it returns false'. Refute it at one input. -/
def changeMoreWrong : ChangeSpec := { name := "changeMore", fn := fun _ => fun
  | [d1, d2, d3] => { results := [.lit (.bool false)], args := [d1, d2, d3] }
  | _ => none }
def ChangeMoreWrongFalsely : Prop := changeMoreRow.holds Try.pinned (OpenSpec.ofChange changeMoreWrong)

/-- 'witanlaw14.SlotsAgree': WHATEVER THE INPUT: true; the input reads as it did. -/
def slotsAgreeSpec : ChangeSpec := { name := "slotsAgree", fn := fun _ => fun
  | [d1, d2, d3] => { results := [.lit (.bool true)], args := [d1, d2, d3] }
  | _ => none }
def slotsAgreeRow : OpenClaim := { program := "ytakbkpklfihfiaa", sum := "c90b974bf9c51930362250fa97c0dbf59404a70a7b6928522175519a511f8727", func := "witan/witanlaw14.SlotsAgree", spec := "slotsAgree", inPlace := ["math.Float64frombits", "math.Float64bits"], apart := false }
def SlotsAgreeSaid : Prop := slotsAgreeRow.holds Try.pinned (OpenSpec.ofChange slotsAgreeSpec)

/-- ITS FALSE NEIGHBOUR: 'it returns false'. Refute it at one input. -/
def slotsAgreeWrong : ChangeSpec := { name := "slotsAgree", fn := fun _ => fun
  | [d1, d2, d3] => { results := [.lit (.bool false)], args := [d1, d2, d3] }
  | _ => none }
def SlotsAgreeWrongFalsely : Prop := slotsAgreeRow.holds Try.pinned (OpenSpec.ofChange slotsAgreeWrong)

/-- 'witanlaw14.SlotsStays': WHATEVER THE INPUT: true; the input reads as it did. -/
def slotsStaysSpec : ChangeSpec := { name := "slotsStays", fn := fun _ => fun
  | [d1, d2] => { results := [.lit (.bool true)], args := [d1, d2] }
  | _ => none }
def slotsStaysRow : OpenClaim := { program := "ytakbkpklfihfiaa", sum := "c90b974bf9c51930362250fa97c0dbf59404a70a7b6928522175519a511f8727", func := "witan/witanlaw14.SlotsStays", spec := "slotsStays", inPlace := ["math.Float64frombits", "math.Float64bits"], apart := false }
def SlotsStaysSaid : Prop := slotsStaysRow.holds Try.pinned (OpenSpec.ofChange slotsStaysSpec)

/-- ITS FALSE NEIGHBOUR: 'it returns false'. Refute it at one input. -/
def slotsStaysWrong : ChangeSpec := { name := "slotsStays", fn := fun _ => fun
  | [d1, d2] => { results := [.lit (.bool false)], args := [d1, d2] }
  | _ => none }
def SlotsStaysWrongFalsely : Prop := slotsStaysRow.holds Try.pinned (OpenSpec.ofChange slotsStaysWrong)

/-- 'witanlaw14.SlotsPlays': WHATEVER THE INPUT: true; the input reads as it did. -/
def slotsPlaysSpec : ChangeSpec := { name := "slotsPlays", fn := fun _ => fun
  | [d1, d2] => { results := [.lit (.bool true)], args := [d1, d2] }
  | _ => none }
def slotsPlaysRow : OpenClaim := { program := "ytakbkpklfihfiaa", sum := "c90b974bf9c51930362250fa97c0dbf59404a70a7b6928522175519a511f8727", func := "witan/witanlaw14.SlotsPlays", spec := "slotsPlays", inPlace := ["math.Float64frombits", "math.Float64bits"], apart := false }
def SlotsPlaysSaid : Prop := slotsPlaysRow.holds Try.pinned (OpenSpec.ofChange slotsPlaysSpec)

/-- ITS FALSE NEIGHBOUR: 'it returns false'. Refute it at one input. -/
def slotsPlaysWrong : ChangeSpec := { name := "slotsPlays", fn := fun _ => fun
  | [d1, d2] => { results := [.lit (.bool false)], args := [d1, d2] }
  | _ => none }
def SlotsPlaysWrongFalsely : Prop := slotsPlaysRow.holds Try.pinned (OpenSpec.ofChange slotsPlaysWrong)

/-- 'witanlaw14.SlotsNil': WHATEVER THE INPUT: true; the input reads as it did. -/
def slotsNilSpec : ChangeSpec := { name := "slotsNil", fn := fun _ => fun
  | [d] => { results := [.lit (.bool true)], args := [d] }
  | _ => none }
def slotsNilRow : OpenClaim := { program := "ytakbkpklfihfiaa", sum := "c90b974bf9c51930362250fa97c0dbf59404a70a7b6928522175519a511f8727", func := "witan/witanlaw14.SlotsNil", spec := "slotsNil", inPlace := ["math.Float64frombits", "math.Float64bits"], apart := false }
def SlotsNilSaid : Prop := slotsNilRow.holds Try.pinned (OpenSpec.ofChange slotsNilSpec)

/-- ITS FALSE NEIGHBOUR: 'it returns false'. Refute it at one input. -/
def slotsNilWrong : ChangeSpec := { name := "slotsNil", fn := fun _ => fun
  | [d] => { results := [.lit (.bool false)], args := [d] }
  | _ => none }
def SlotsNilWrongFalsely : Prop := slotsNilRow.holds Try.pinned (OpenSpec.ofChange slotsNilWrong)

/-- 'witanlaw14.SlotsProofs': WHATEVER THE INPUT: true; the input reads as it did. -/
def slotsProofsSpec : ChangeSpec := { name := "slotsProofs", fn := fun _ => fun
  | [d1, d2] => { results := [.lit (.bool true)], args := [d1, d2] }
  | _ => none }
def slotsProofsRow : OpenClaim := { program := "ytakbkpklfihfiaa", sum := "c90b974bf9c51930362250fa97c0dbf59404a70a7b6928522175519a511f8727", func := "witan/witanlaw14.SlotsProofs", spec := "slotsProofs", inPlace := ["math.Float64frombits", "math.Float64bits"], apart := false }
def SlotsProofsSaid : Prop := slotsProofsRow.holds Try.pinned (OpenSpec.ofChange slotsProofsSpec)

/-- ITS FALSE NEIGHBOUR: 'it returns false'. Refute it at one input. -/
def slotsProofsWrong : ChangeSpec := { name := "slotsProofs", fn := fun _ => fun
  | [d1, d2] => { results := [.lit (.bool false)], args := [d1, d2] }
  | _ => none }
def SlotsProofsWrongFalsely : Prop := slotsProofsRow.holds Try.pinned (OpenSpec.ofChange slotsProofsWrong)

/- THE SECOND FORM. 'bulk': how many values and letters a reading holds, each counted each time it is reached (what is shared counts as often as it is met; a slice's spare places count too). A statement '..UptoSaid' is the law's where the arguments, and the package variables that the reading takes, are together of bulk at most 1048576: NARROWER than '..Said'. Prove '..Said' where nothing that the law and all that it calls make is longer than what came in: it says more and counts as full. Else prove '..UptoSaid'. A law counts once. -/
mutual
def uptoBulk {H : Type} : DataW H → Nat
  | .lit (.string bytes) => bytes.length + 1
  | .lit _ => 1
  | .nil => 1
  | .ptr d => uptoBulk d + 1
  | .slice elems spare => uptoBulkAll elems + uptoBulkAll spare + 1
  | .agg parts => uptoBulkAll parts + 1
  | .iface _ d => uptoBulk d + 1
  | .map entries => uptoBulkEntries entries + 1
  | .held _ => 1
def uptoBulkAll {H : Type} : List (DataW H) → Nat
  | [] => 0
  | d :: r => uptoBulk d + uptoBulkAll r
def uptoBulkEntries {H : Type} : List (Lit × DataW H) → Nat
  | [] => 0
  | x :: r => uptoBulkEntry x + uptoBulkEntries r
def uptoBulkEntry {H : Type} : Lit × DataW H → Nat
  | (.string bytes, d) => bytes.length + uptoBulk d + 1
  | (_, d) => uptoBulk d + 1
 end
def uptoSmall : (H : Type) → List (DataW H) → Bool := fun _ ds => decide (uptoBulkAll ds ≤ 1048576)
def OpenSpec.upto (s : _root_.Go.ChangeSpec) : _root_.Go.OpenSpec := { _root_.Go.OpenSpec.ofChange s with cond := some uptoSmall }

/-- 'witanlaw16.ChangeTexts', WHERE WHAT IT READS IS OF BULK AT MOST 1048576: true; the input reads as it did. -/
def changeTextsUptoRow : OpenClaim := { program := "ytakbkpklfihfiaa", sum := "c90b974bf9c51930362250fa97c0dbf59404a70a7b6928522175519a511f8727", func := "witan/witanlaw16.ChangeTexts", spec := "changeTexts", inPlace := ["math.Float64bits", "math.Float64frombits"], apart := false, narrowed := true }
def ChangeTextsUptoSaid : Prop := changeTextsUptoRow.holds Try.pinned (OpenSpec.upto changeTextsSpec)

/-- 'witanlaw16.ChangeRight', WHERE WHAT IT READS IS OF BULK AT MOST 1048576: true; the input reads as it did. -/
def changeRightUptoRow : OpenClaim := { program := "ytakbkpklfihfiaa", sum := "c90b974bf9c51930362250fa97c0dbf59404a70a7b6928522175519a511f8727", func := "witan/witanlaw16.ChangeRight", spec := "changeRight", inPlace := ["math.Float64bits", "math.Float64frombits"], apart := false, narrowed := true }
def ChangeRightUptoSaid : Prop := changeRightUptoRow.holds Try.pinned (OpenSpec.upto changeRightSpec)

/-- 'witanlaw16.ChangePicks', WHERE WHAT IT READS IS OF BULK AT MOST 1048576: true; the input reads as it did. -/
def changePicksUptoRow : OpenClaim := { program := "ytakbkpklfihfiaa", sum := "c90b974bf9c51930362250fa97c0dbf59404a70a7b6928522175519a511f8727", func := "witan/witanlaw16.ChangePicks", spec := "changePicks", inPlace := ["math.Float64bits", "math.Float64frombits"], apart := false, narrowed := true }
def ChangePicksUptoSaid : Prop := changePicksUptoRow.holds Try.pinned (OpenSpec.upto changePicksSpec)

/-- 'witanlaw16.ChangeUnlike', WHERE WHAT IT READS IS OF BULK AT MOST 1048576: true; the input reads as it did. -/
def changeUnlikeUptoRow : OpenClaim := { program := "ytakbkpklfihfiaa", sum := "c90b974bf9c51930362250fa97c0dbf59404a70a7b6928522175519a511f8727", func := "witan/witanlaw16.ChangeUnlike", spec := "changeUnlike", inPlace := ["math.Float64bits", "math.Float64frombits"], apart := false, narrowed := true }
def ChangeUnlikeUptoSaid : Prop := changeUnlikeUptoRow.holds Try.pinned (OpenSpec.upto changeUnlikeSpec)

/-- 'witanlaw16.ChangeKeeps', WHERE WHAT IT READS IS OF BULK AT MOST 1048576: true; the input reads as it did. -/
def changeKeepsUptoRow : OpenClaim := { program := "ytakbkpklfihfiaa", sum := "c90b974bf9c51930362250fa97c0dbf59404a70a7b6928522175519a511f8727", func := "witan/witanlaw16.ChangeKeeps", spec := "changeKeeps", inPlace := ["math.Float64bits", "math.Float64frombits"], apart := false, narrowed := true }
def ChangeKeepsUptoSaid : Prop := changeKeepsUptoRow.holds Try.pinned (OpenSpec.upto changeKeepsSpec)

/-- 'witanlaw16.ChangeMore', WHERE WHAT IT READS IS OF BULK AT MOST 1048576: true; the input reads as it did. -/
def changeMoreUptoRow : OpenClaim := { program := "ytakbkpklfihfiaa", sum := "c90b974bf9c51930362250fa97c0dbf59404a70a7b6928522175519a511f8727", func := "witan/witanlaw16.ChangeMore", spec := "changeMore", inPlace := ["math.Float64bits", "math.Float64frombits"], apart := false, narrowed := true }
def ChangeMoreUptoSaid : Prop := changeMoreUptoRow.holds Try.pinned (OpenSpec.upto changeMoreSpec)

/-- 'witanlaw14.SlotsAgree', WHERE WHAT IT READS IS OF BULK AT MOST 1048576: true; the input reads as it did. -/
def slotsAgreeUptoRow : OpenClaim := { program := "ytakbkpklfihfiaa", sum := "c90b974bf9c51930362250fa97c0dbf59404a70a7b6928522175519a511f8727", func := "witan/witanlaw14.SlotsAgree", spec := "slotsAgree", inPlace := ["math.Float64frombits", "math.Float64bits"], apart := false, narrowed := true }
def SlotsAgreeUptoSaid : Prop := slotsAgreeUptoRow.holds Try.pinned (OpenSpec.upto slotsAgreeSpec)

/-- 'witanlaw14.SlotsStays', WHERE WHAT IT READS IS OF BULK AT MOST 1048576: true; the input reads as it did. -/
def slotsStaysUptoRow : OpenClaim := { program := "ytakbkpklfihfiaa", sum := "c90b974bf9c51930362250fa97c0dbf59404a70a7b6928522175519a511f8727", func := "witan/witanlaw14.SlotsStays", spec := "slotsStays", inPlace := ["math.Float64frombits", "math.Float64bits"], apart := false, narrowed := true }
def SlotsStaysUptoSaid : Prop := slotsStaysUptoRow.holds Try.pinned (OpenSpec.upto slotsStaysSpec)

/-- 'witanlaw14.SlotsPlays', WHERE WHAT IT READS IS OF BULK AT MOST 1048576: true; the input reads as it did. -/
def slotsPlaysUptoRow : OpenClaim := { program := "ytakbkpklfihfiaa", sum := "c90b974bf9c51930362250fa97c0dbf59404a70a7b6928522175519a511f8727", func := "witan/witanlaw14.SlotsPlays", spec := "slotsPlays", inPlace := ["math.Float64frombits", "math.Float64bits"], apart := false, narrowed := true }
def SlotsPlaysUptoSaid : Prop := slotsPlaysUptoRow.holds Try.pinned (OpenSpec.upto slotsPlaysSpec)

/-- 'witanlaw14.SlotsNil', WHERE WHAT IT READS IS OF BULK AT MOST 1048576: true; the input reads as it did. -/
def slotsNilUptoRow : OpenClaim := { program := "ytakbkpklfihfiaa", sum := "c90b974bf9c51930362250fa97c0dbf59404a70a7b6928522175519a511f8727", func := "witan/witanlaw14.SlotsNil", spec := "slotsNil", inPlace := ["math.Float64frombits", "math.Float64bits"], apart := false, narrowed := true }
def SlotsNilUptoSaid : Prop := slotsNilUptoRow.holds Try.pinned (OpenSpec.upto slotsNilSpec)

/-- 'witanlaw14.SlotsProofs', WHERE WHAT IT READS IS OF BULK AT MOST 1048576: true; the input reads as it did. -/
def slotsProofsUptoRow : OpenClaim := { program := "ytakbkpklfihfiaa", sum := "c90b974bf9c51930362250fa97c0dbf59404a70a7b6928522175519a511f8727", func := "witan/witanlaw14.SlotsProofs", spec := "slotsProofs", inPlace := ["math.Float64frombits", "math.Float64bits"], apart := false, narrowed := true }
def SlotsProofsUptoSaid : Prop := slotsProofsUptoRow.holds Try.pinned (OpenSpec.upto slotsProofsSpec)

end Rows
end Go.Proofs.Ytakbkpklfihfiaa
