/- The law LedgerAgain: the call returns true for every input; each argument reads afterwards as it read before. This text is the frame: the walk lies in the imported texts. -/
import Derived.Test.YtfefeepljbfcdaaRows
import Derived.WalkKit
import Derived.ProofKit
import Derived.OpenShut
import Derived.ChangeOld
import Derived.Below
import Derived.Test.YtfefeepljbfcdaaPjAA
import Derived.Test.YtfefeepljbfcdaaPjAB
import Derived.Test.YtfefeepljbfcdaaPjAC
import Derived.Test.YtfefeepljbfcdaaPjAE
import Derived.Test.YtfefeepljbfcdaaPjAI
import Derived.Test.YtfefeepljbfcdaaPjAM
import Derived.Test.YtfefeepljbfcdaaPjAF
import Derived.Test.YtfefeepljbfcdaaPjAJ
import Derived.Test.YtfefeepljbfcdaaPjAK
import Derived.Test.YtfefeepljbfcdaaPjAN
import Derived.Test.YtfefeepljbfcdaaPjAR
import Derived.Test.YtfefeepljbfcdaaPjAS
import Derived.Test.YtfefeepljbfcdaaPjAG
import Derived.Test.YtfefeepljbfcdaaPjAL
import Derived.Test.YtfefeepljbfcdaaPjAO
import Derived.Test.YtfefeepljbfcdaaPjBC
import Derived.Test.YtfefeepljbfcdaaPjBD
import Derived.Test.YtfefeepljbfcdaaPjAD
import Derived.Test.YtfefeepljbfcdaaPjAP
import Derived.Test.YtfefeepljbfcdaaPjAT
import Derived.Test.YtfefeepljbfcdaaPjAU
import Derived.Test.YtfefeepljbfcdaaPjAV
import Derived.Test.YtfefeepljbfcdaaPjAW
import Derived.Test.YtfefeepljbfcdaaPjAX
import Derived.Test.YtfefeepljbfcdaaPjAY
import Derived.Test.YtfefeepljbfcdaaPjAZ
import Derived.Test.YtfefeepljbfcdaaPjBA
import Derived.Test.YtfefeepljbfcdaaPjBF
import Derived.Test.YtfefeepljbfcdaaPjBG
import Derived.Test.YtfefeepljbfcdaaPjAH
import Derived.Test.YtfefeepljbfcdaaPjBI
import Derived.Test.YtfefeepljbfcdaaPjBJ
import Derived.Test.YtfefeepljbfcdaaPjBK
import Derived.Test.YtfefeepljbfcdaaPjBL
import Derived.Test.YtfefeepljbfcdaaPjBM
import Derived.Test.YtfefeepljbfcdaaPjBN
import Derived.Test.YtfefeepljbfcdaaPjBO
import Derived.Test.YtfefeepljbfcdaaPjBH
import Derived.Test.YtfefeepljbfcdaaPjAQ
import Derived.Test.YtfefeepljbfcdaaPjBB
import Derived.Test.YtfefeepljbfcdaaPjBE
import Derived.Test.YtfefeepljbfcdaaPjBP
namespace Go.Proofs.Ytfefeepljbfcdaa.ledgerAgain
open Go.ChangeShapes Go.WideShapes Go.ChangeAt Go.RowKit
set_option linter.unusedVariables false

theorem own : ownKnob Try.prog.godebug = none := by kernel_rfl
theorem laidOut : laidOutB Try.prog = true := by kernel_rfl

set_option maxRecDepth 100000 in
theorem contract (H : Type) (enc : TypeId × Value → H) (W : World) (base : Nat) (args : Array Value) (ds gs : List (DataW H)) (before : List MemPlace)
    (hval : ∀ (j : Nat) t v, Try.f7.params[j]? = some t → args[j]? = some v → Value.okWide Try.prog W .any base t v)
    (hW : DataW.Whole enc Try.prog Try.f7.params.toList Rows.ledgerAgainSpec.vars false W args.toList ds gs before) :
    Calls Try.prog 7 args W fun e W' => ∃ v, e = .returned v ∧ Rows.ledgerAgainSpec.post enc Try.prog Try.f7 false true false false W args v W' := by
  have hW' := hW
  obtain ⟨p, q, hA0, hV, rfl, hfz, hnd⟩ := hW
  have hA : DataW.TrodAll enc Try.prog W 0 (fun _ => true) true Try.f7.params.toList args.toList ds p := hA0
  rw [Try.params7] at hA hval
  obtain ⟨v0, vs0, d0, ds0, p0, q0, hargs, rfl, rfl, h0, r0⟩ := trodAll_cons hA
  obtain ⟨v1, vs1, d1, ds1, p1, q1, rfl, rfl, rfl, h1, r1⟩ := trodAll_cons r0
  obtain ⟨v2, vs2, d2, ds2, p2, q2, rfl, rfl, rfl, h2, r2⟩ := trodAll_cons r1
  obtain ⟨rfl, rfl, rfl⟩ := trodAll_nil r2
  obtain rfl : args = #[v0, v1, v2] := by cases args; simp_all
  obtain ⟨rfl, rfl⟩ := trodVars_none hV
  have lt0 : ∀ x ∈ p0, x.block < W.heap.size := by obtain ⟨m, hm⟩ := h0; exact DataW.trod_lt m _ _ _ hm
  have ok0 := hval 0 24 v0 rfl rfl
  have lt1 : ∀ x ∈ p1, x.block < W.heap.size := by obtain ⟨m, hm⟩ := h1; exact DataW.trod_lt m _ _ _ hm
  have ok1 := hval 1 25 v1 rfl rfl
  have lt2 : ∀ x ∈ p2, x.block < W.heap.size := by obtain ⟨m, hm⟩ := h2; exact DataW.trod_lt m _ _ _ hm
  have ok2 := hval 2 25 v2 rfl rfl
  clear hA0
  refine (law_LedgerAgain W v0 d0 p0 v1 d1 p1 v2 d2 p2 h0 ok0 h1 ok1 h2 ok2).mono fun e W' ⟨he, bel⟩ => ?_
  subst he
  exact ⟨_, rfl, _, _, _, [], _, [], hW', trodAll_mk1 (shut_bool Try.underlying4 _), (trodAll_cons_mk (Below.trod laidOut (by kernel_rfl) (of_decide_eq_true (by kernel_rfl)) h0 bel lt0) (trodAll_cons_mk (Below.trod laidOut (by kernel_rfl) (of_decide_eq_true (by kernel_rfl)) h1 bel lt1) (trodAll_cons_mk (Below.trod laidOut (by kernel_rfl) (of_decide_eq_true (by kernel_rfl)) h2 bel lt2) trodAll_mk0))), rfl, bel.frame _, fun h => by cases h⟩

set_option maxRecDepth 100000 in
theorem lifted (os : Os) (started : os.Started) (H : Type) (enc : TypeId × Value → H) :
    ReturnsInHanded {} Try.checked os 7 .any (Rows.ledgerAgainSpec.pre6 enc Try.prog Try.f7 Rows.ledgerAgainRow.domain false) (Rows.ledgerAgainSpec.post enc Try.prog Try.f7 false true false false) := by
  refine returnsInHanded_of_change (C := Try.checked) own started (by kernel_rfl) Try.func7
    (ChangeSpec.witness6 (enc := enc) (C := Try.checked) false ⟨#[], #[.agg #[.int .i64 0, .slice none 0 0], .slice none 0 0, .slice none 0 0], []⟩ 8 (by kernel_rfl) (by kernel_rfl) (by kernel_rfl) (by kernel_rfl)) ?_
  intro W base args ds gs before hval0 hW hcnd _
  exact contract H enc W base args ds gs before hval0 hW

theorem over : Rows.ledgerAgainRow.holds Try.pinned (OpenSpec.ofChange Rows.ledgerAgainSpec) :=
  OpenClaim.holds_of_wide 7 Try.f7 rfl rfl rfl rfl rfl rfl rfl ⟨rfl, rfl, rfl, rfl, rfl⟩ rfl rfl rfl rfl rfl (by kernel_rfl) Try.func7 (by kernel_rfl)
    (of_decide_eq_true (by kernel_rfl)) (by unfold Func.isWrapper; first | (rw [if_pos (by decide +kernel)]; kernel_rfl) | (rw [if_neg (by decide +kernel)]; exact ⟨rfl, rfl⟩))
    (fun os started H enc _ => lifted os started H enc)

/-- The statement. -/
theorem proved : Rows.LedgerAgainSaid := over
#print axioms proved
end Go.Proofs.Ytfefeepljbfcdaa.ledgerAgain
