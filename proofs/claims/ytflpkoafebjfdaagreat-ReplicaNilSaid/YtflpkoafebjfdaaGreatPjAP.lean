/- Joined texts: Read. What each proves stands at its head; no conditions beside those in its theorems. -/
import Derived.ProofKit
import Derived.Deep.Slices
import Derived.Lib.SmallJoins
import Derived.Test.YtflpkoafebjfdaaGreatPjAH
/- Arguments that came in, read as plain data: ints, slices of ints, configurations. -/
namespace Go.Proofs.YtflpkoafebjfdaaGreat
open Go.RowKit Go.ChangeShapes Go.WideShapes
set_option linter.unusedSimpArgs false
set_option linter.unusedVariables false

section
variable {H : Type} {enc : TypeId × Value → H} {W : World} {base n : Nat} {spare : Nat → Bool} {held : Bool}
theorem i64_of_wf {x : Int} (h : (Lit.int .i64 x).wf = true) : I64 x := by
  simp only [Lit.wf, Bool.and_eq_true, decide_eq_true_eq] at h
  exact h
theorem read_int {cs : List Value} {x : DataW H × List MemPlace} (h : DataW.trod enc Tryz.prog W base spare held n 3 cs = some x) : ∃ k : Int, cs = [.int .i64 k] ∧ I64 k := by
  obtain ⟨k, e, _, w⟩ := DataW.trod_int Tryz.underlying3 h
  exact ⟨k, e, i64_of_wf w⟩
theorem read_struct {P : Program} {t : TypeId} {fs : Array Field} {cs : List Value} {x : DataW H × List MemPlace} (ht : P.underlying t = some (.struct fs)) (h : DataW.trod enc P W base spare held n t cs = some x) :
    cs.length = P.cellsOf t ∧ ∀ (i : Nat) (f : Field) (u : TypeId) (o k : Nat), fs[i]? = some f → f.type = u → f.offset = o → P.cellsOf u = k → ∃ m y, DataW.trod enc P W base spare held m u ((cs.drop o).take k) = some y := by
  obtain ⟨xs, m, _, _, hl, hn, hf⟩ := DataW.trod_struct ht h
  refine ⟨hl, ?_⟩
  rintro i f u o k hi rfl rfl rfl
  have e := hf i f hi
  have hlt : i < fs.size := (Array.getElem?_eq_some_iff.1 hi).1
  rw [List.getElem?_eq_getElem (by omega)] at e
  exact ⟨m, _, e⟩
theorem c_int : (Tryz.prog).cellsOf 3 = 1 := by kernel_rfl
/-- An argument that is a struct: its cells. -/
theorem arg_struct {P : Program} {t : TypeId} {fs : Array Field} {v : Value} {d : DataW H} {p : List MemPlace} {b0 : Nat} {r : Reach} (ht : P.underlying t = some (.struct fs)) (ok : Value.okWide P W r b0 t v)
    (h : DataW.Trod enc P W base spare held t v d p) : ∃ cs : List Value, v = .agg cs.toArray ∧ ∃ n x, DataW.trod enc P W base spare held n t cs = some x := by
  obtain ⟨cs, rfl, _⟩ := okWide_struct ht ok
  obtain ⟨m, hm⟩ := h
  exact ⟨cs.toList, rfl, m, _, hm⟩
end
end Go.Proofs.YtflpkoafebjfdaaGreat
