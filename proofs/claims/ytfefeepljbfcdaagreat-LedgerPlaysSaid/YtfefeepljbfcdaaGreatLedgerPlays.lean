/- The law LedgerPlays: the call returns true for every input; each argument reads afterwards as it read before. This text is the frame: the walk lies in the imported texts. -/
import Derived.Test.YtfefeepljbfcdaaGreatRows
import Derived.WalkKit
import Derived.ProofKit
import Derived.OpenShut
import Derived.ChangeOld
import Derived.Below
import Derived.Deep.MidRow
import Derived.Deep.WholeRow
import Derived.Shelf.SlMaps.Clone
import Derived.Test.YtfefeepljbfcdaaGreatPjAD
import Derived.Test.YtfefeepljbfcdaaGreatPjAA
import Derived.Test.YtfefeepljbfcdaaGreatPjAB
import Derived.Test.YtfefeepljbfcdaaGreatPjAG
import Derived.Test.YtfefeepljbfcdaaGreatPjAO
import Derived.Test.YtfefeepljbfcdaaGreatPjAP
import Derived.Test.YtfefeepljbfcdaaGreatPjAH
import Derived.Test.YtfefeepljbfcdaaGreatPjAI
import Derived.Test.YtfefeepljbfcdaaGreatPjAE
import Derived.Test.YtfefeepljbfcdaaGreatPjAJ
import Derived.Test.YtfefeepljbfcdaaGreatPjAT
import Derived.Test.YtfefeepljbfcdaaGreatPjAU
import Derived.Test.YtfefeepljbfcdaaGreatPjAV
import Derived.Test.YtfefeepljbfcdaaGreatPjAW
import Derived.Test.YtfefeepljbfcdaaGreatPjAX
import Derived.Test.YtfefeepljbfcdaaGreatPjAY
import Derived.Test.YtfefeepljbfcdaaGreatPjAZ
import Derived.Test.YtfefeepljbfcdaaGreatPjAC
import Derived.Test.YtfefeepljbfcdaaGreatPjAL
import Derived.Test.YtfefeepljbfcdaaGreatPjAM
import Derived.Test.YtfefeepljbfcdaaGreatPjAN
import Derived.Test.YtfefeepljbfcdaaGreatPjAQ
import Derived.Test.YtfefeepljbfcdaaGreatPjAS
import Derived.Test.YtfefeepljbfcdaaGreatPjBA
import Derived.Test.YtfefeepljbfcdaaGreatPjBO
import Derived.Test.YtfefeepljbfcdaaGreatPjAK
import Derived.Test.YtfefeepljbfcdaaGreatPjAF
import Derived.Test.YtfefeepljbfcdaaGreatPjBH
import Derived.Test.YtfefeepljbfcdaaGreatPjAR
import Derived.Test.YtfefeepljbfcdaaGreatPjBG
import Derived.Test.YtfefeepljbfcdaaGreatPjBI
import Derived.Test.YtfefeepljbfcdaaGreatPjBJ
import Derived.Test.YtfefeepljbfcdaaGreatPjBP
import Derived.Test.YtfefeepljbfcdaaGreatPjBQ
import Derived.Test.YtfefeepljbfcdaaGreatPjBK
import Derived.Test.YtfefeepljbfcdaaGreatPjBL
import Derived.Test.YtfefeepljbfcdaaGreatPjBE
import Derived.Test.YtfefeepljbfcdaaGreatPjBM
import Derived.Test.YtfefeepljbfcdaaGreatPjBN
import Derived.Test.YtfefeepljbfcdaaGreatPjBB
import Derived.Test.YtfefeepljbfcdaaGreatPjBC
import Derived.Test.YtfefeepljbfcdaaGreatPjBD
import Derived.Test.YtfefeepljbfcdaaGreatPjBR
import Derived.Test.YtfefeepljbfcdaaGreatPjBF
import Derived.Test.YtfefeepljbfcdaaGreatPjBS
namespace Go.Proofs.YtfefeepljbfcdaaGreat.ledgerPlays
open Go.ChangeShapes Go.WideShapes Go.ChangeAt Go.RowKit
set_option linter.unusedVariables false

theorem own : ownKnob Tryz.prog.godebug = none := by kernel_rfl
theorem laidOut : laidOutB Tryz.prog = true := by kernel_rfl

set_option maxRecDepth 100000 in
theorem contract (H : Type) (enc : TypeId × Value → H) (W : World) (base : Nat) (args : Array Value) (ds gs : List (DataW H)) (before : List MemPlace)
    (hval : ∀ (j : Nat) t v, Tryz.f3.params[j]? = some t → args[j]? = some v → Value.okWide Tryz.prog W .any base t v)
    (hW : DataW.Whole enc Tryz.prog Tryz.f3.params.toList Rows.ledgerPlaysSpec.vars false W args.toList ds gs before) :
    Calls Tryz.prog 3 args W fun e W' => ∃ v, e = .returned v ∧ Rows.ledgerPlaysSpec.post enc Tryz.prog Tryz.f3 false true false false W args v W' := by
  have hW' := hW
  obtain ⟨p, q, hA0, hV, rfl, hfz, hnd⟩ := hW
  have hA : DataW.TrodAll enc Tryz.prog W 0 (fun _ => true) true Tryz.f3.params.toList args.toList ds p := hA0
  rw [Tryz.params3] at hA hval
  obtain ⟨v0, vs0, d0, ds0, p0, q0, hargs, rfl, rfl, h0, r0⟩ := trodAll_cons hA
  obtain ⟨v1, vs1, d1, ds1, p1, q1, rfl, rfl, rfl, h1, r1⟩ := trodAll_cons r0
  obtain ⟨rfl, rfl, rfl⟩ := trodAll_nil r1
  obtain rfl : args = #[v0, v1] := by cases args; simp_all
  obtain ⟨rfl, rfl⟩ := trodVars_none hV
  have lt0 : ∀ x ∈ p0, x.block < W.heap.size := by obtain ⟨m, hm⟩ := h0; exact DataW.trod_lt m _ _ _ hm
  have ok0 := hval 0 24 v0 rfl rfl
  have lt1 : ∀ x ∈ p1, x.block < W.heap.size := by obtain ⟨m, hm⟩ := h1; exact DataW.trod_lt m _ _ _ hm
  have ok1 := hval 1 25 v1 rfl rfl
  clear hA0
  refine (law_LedgerPlays W v0 d0 p0 v1 d1 p1 h0 ok0 h1 ok1).mono fun e W' ⟨he, bel⟩ => ?_
  subst he
  exact ⟨_, rfl, _, _, _, [], _, [], hW', trodAll_mk1 (shut_bool Tryz.underlying4 _), (trodAll_cons_mk (Below.trod laidOut (by kernel_rfl) (of_decide_eq_true (by kernel_rfl)) h0 bel lt0) (trodAll_cons_mk (Below.trod laidOut (by kernel_rfl) (of_decide_eq_true (by kernel_rfl)) h1 bel lt1) trodAll_mk0)), rfl, bel.frame _, fun h => by cases h⟩

set_option maxRecDepth 100000 in
theorem lifted (os : Os) (started : os.Started) (H : Type) (enc : TypeId × Value → H) :
    ReturnsInHanded {} Tryz.checked os 3 .any (Rows.ledgerPlaysSpec.pre6 enc Tryz.prog Tryz.f3 Rows.ledgerPlaysRow.domain false) (Rows.ledgerPlaysSpec.post enc Tryz.prog Tryz.f3 false true false false) := by
  refine returnsInHanded_of_change (C := Tryz.checked) own started (by kernel_rfl) Tryz.func3
    (ChangeSpec.witness6 (enc := enc) (C := Tryz.checked) false ⟨#[], #[.agg #[.int .i64 0, .slice none 0 0], .slice none 0 0], []⟩ 8 (by kernel_rfl) (by kernel_rfl) (by kernel_rfl) (by kernel_rfl)) ?_
  intro W base args ds gs before hval0 hW hcnd _
  exact contract H enc W base args ds gs before hval0 hW

theorem over : Rows.ledgerPlaysRow.holds Tryz.pinned (OpenSpec.ofChange Rows.ledgerPlaysSpec) :=
  OpenClaim.holds_of_wide 3 Tryz.f3 rfl rfl rfl rfl rfl rfl rfl ⟨rfl, rfl, rfl, rfl, rfl⟩ rfl rfl rfl rfl rfl (by kernel_rfl) Tryz.func3 (by kernel_rfl)
    (of_decide_eq_true (by kernel_rfl)) (by unfold Func.isWrapper; first | (rw [if_pos (by decide +kernel)]; kernel_rfl) | (rw [if_neg (by decide +kernel)]; exact ⟨rfl, rfl⟩))
    (fun os started H enc _ => lifted os started H enc)

/-- The statement. -/
theorem proved : Rows.LedgerPlaysSaid := over
#print axioms proved
end Go.Proofs.YtfefeepljbfcdaaGreat.ledgerPlays
