/- Joined texts: Read. What each proves stands at its head; no conditions beside those in its theorems. -/
import Derived.ProofKit
import Derived.Deep.Slices
import Derived.Lib.SmallJoins
import Derived.Test.YtfefeepljbfcdaaGreatPjAG
/- Arguments that came in, read as plain data: ints, slices of ints, configurations. -/
namespace Go.Proofs.YtfefeepljbfcdaaGreat
open Go.RowKit Go.ChangeShapes Go.WideShapes
set_option linter.unusedSimpArgs false
set_option linter.unusedVariables false
section
variable {H : Type} {enc : TypeId × Value → H} {W : World} {base n : Nat} {spare : Nat → Bool} {held : Bool}
theorem i64_of_wf {x : Int} (h : (Lit.int .i64 x).wf = true) : I64 x := by
 simp only [Lit.wf, Bool.and_eq_true, decide_eq_true_eq] at h
 exact h
theorem read_int {cs : List Value} {x : DataW H × List MemPlace} (h : DataW.trod enc Tryz.prog W base spare held n 3 cs = some x) : ∃ k : Int, cs = [.int .i64 k] ∧ I64 k := by
 obtain ⟨k, e, _, w⟩ := DataW.trod_int Tryz.underlying3 h
 exact ⟨k, e, i64_of_wf w⟩
theorem read_struct {P : Program} {t : TypeId} {fs : Array Field} {cs : List Value} {x : DataW H × List MemPlace} (ht : P.underlying t = some (.struct fs)) (h : DataW.trod enc P W base spare held n t cs = some x) :
  cs.length = P.cellsOf t ∧ ∀ (i : Nat) (f : Field) (u : TypeId) (o k : Nat), fs[i]? = some f → f.type = u → f.offset = o → P.cellsOf u = k → ∃ m y, DataW.trod enc P W base spare held m u ((cs.drop o).take k) = some y := by
 obtain ⟨xs, m, _, _, hl, hn, hf⟩ := DataW.trod_struct ht h
 refine ⟨hl, ?_⟩
 rintro i f u o k hi rfl rfl rfl
 have e := hf i f hi
 have hlt : i < fs.size := (Array.getElem?_eq_some_iff.1 hi).1
 rw [List.getElem?_eq_getElem (by omega)] at e
 exact ⟨m, _, e⟩
theorem c_int : (Tryz.prog).cellsOf 3 = 1 := by kernel_rfl
theorem c_string : (Tryz.prog).cellsOf 9 = 1 := by kernel_rfl
theorem read_slice {P : Program} {α : Type} [Inhabited α] {t e : TypeId} {k : Nat} {cs : List Value} {x : DataW H × List MemPlace} (R : α → List Value → Prop) (ht : P.underlying t = some (.slice e)) (hc : P.cellsOf e = k)
  (hR : ∀ m cs y, DataW.trod enc P W base spare held m e cs = some y → ∃ q, R q cs) (h : DataW.trod enc P W base spare held n t cs = some x) :
  ∃ a len cap, cs = [.slice a len cap] ∧ len ≤ maxLen ∧ len ≤ cap ∧ cap ≤ maxLen ∧ (a = none → len = 0 ∧ cap = 0) ∧ ∃ F : Nat → α, ∀ i, i < len → ∃ cs', R (F i) cs' ∧ cs'.length = k ∧ (0 < k → ∃ b o, a = some ⟨b, o, none⟩ ∧ ∀ j (hj : j < cs'.length), W.cell? ⟨b, o + i * k + j, none⟩ = some cs'[j]) := by
 rcases Go.Deep.open_slice ht h with ⟨rfl, _⟩ | ⟨a, len, cap, m, k', D, Pl, rfl, hb, hl, hm, hmm, _, hx⟩
 ·exact ⟨none, 0, 0, rfl, Nat.zero_le _, Nat.zero_le _, Nat.zero_le _, fun _ => ⟨rfl, rfl⟩, fun _ => default, fun i hi => absurd hi (Nat.not_lt_zero _)⟩
 ·have hlm : len ≤ m := by rw [hmm]; split <;> omega
  rw [hc] at hx
  have each : ∀ i, i < len → ∃ q : α, ∃ cs', R q cs' ∧ cs'.length = k ∧ (0 < k → ∃ b o, (some a : Option Addr) = some ⟨b, o, none⟩ ∧ ∀ j (hj : j < cs'.length), W.cell? ⟨b, o + i * k + j, none⟩ = some cs'[j]) := by
   intro i hi
   obtain ⟨cs', h1, h2⟩ := hx i (by omega)
   obtain ⟨_, hlen, hcell⟩ := World.cells?_some h1
   obtain ⟨q, hq⟩ := hR _ _ _ h2
   refine ⟨q, cs', hq, hlen, fun hk => ?_⟩
   obtain ⟨cz, h1z, _⟩ := hx 0 (by omega)
   obtain ⟨_, hlenz, hcellz⟩ := World.cells?_some h1z
   have cz := hcellz 0 hk
   obtain ⟨b, o, sp⟩ := a
   rw [Go.Deep.add_add, List.getElem?_eq_getElem (by omega)] at cz
   have hsp : sp = none := by simpa [Addr.add] using World.cell?_spot cz
   subst hsp
   refine ⟨b, o, rfl, fun j hj => ?_⟩
   have c := hcell j (by omega)
   rw [Go.Deep.add_add, List.getElem?_eq_getElem hj, add_plain] at c
   rw [Nat.add_assoc]; exact c
  obtain ⟨F, hF⟩ := Go.Deep.choose_lt each
  exact ⟨some a, len, cap, rfl, Nat.le_trans hl hm, hl, hm, (fun e => by cases e), F, hF⟩
theorem arg_slice {P : Program} {t e : TypeId} {v : Value} {d : DataW H} {p : List MemPlace} {b0 : Nat} {r : Reach} (ht : P.underlying t = some (.slice e)) (ok : Value.okWide P W r b0 t v)
  (h : DataW.Trod enc P W base spare held t v d p) : ∃ n x, DataW.trod enc P W base spare held n t [v] = some x := by
 obtain ⟨a, len, cap, rfl⟩ := okWide_slice ht ok
 obtain ⟨m, hm⟩ := h
 exact ⟨m, _, hm⟩
end
end Go.Proofs.YtfefeepljbfcdaaGreat
