/- Joined texts: Read. What each proves stands at its head; no conditions beside those in its theorems. -/
import Derived.ProofKit
import Derived.Deep.Slices
import Derived.Lib.SmallJoins
import Derived.Test.YtakbkpklfihfiaaPjAG
/- Arguments that came in, read as plain data: ints, slices of ints, configurations. -/
namespace Go.Proofs.Ytakbkpklfihfiaa
open Go.RowKit Go.ChangeShapes Go.WideShapes
set_option linter.unusedSimpArgs false
set_option linter.unusedVariables false

section
variable {H : Type} {enc : TypeId × Value → H} {W : World} {base n : Nat} {spare : Nat → Bool} {held : Bool}
theorem i64_of_wf {x : Int} (h : (Lit.int .i64 x).wf = true) : I64 x := by
  simp only [Lit.wf, Bool.and_eq_true, decide_eq_true_eq] at h
  exact h
theorem read_int {cs : List Value} {x : DataW H × List MemPlace} (h : DataW.trod enc Try.prog W base spare held n 3 cs = some x) : ∃ k : Int, cs = [.int .i64 k] ∧ I64 k := by
  obtain ⟨k, e, _, w⟩ := DataW.trod_int Try.underlying3 h
  exact ⟨k, e, i64_of_wf w⟩
theorem read_ints {cs : List Value} {x : DataW H × List MemPlace} (h : DataW.trod enc Try.prog W base spare held n 32 cs = some x) : ∃ a cap xs, cs = [.slice a (xs : List Int).length cap] ∧ Ints W a cap xs ∧ xs.length ≤ maxLen := by
  rcases Go.Deep.open_slice1 Try.underlying32 (by kernel_rfl) h with ⟨rfl, _⟩ | ⟨a, len, cap, m, k, V, D, Pl, rfl, hb, hl, hm, hmm, _, hx⟩
  · exact ⟨none, 0, [], rfl, Ints.nil' W, Nat.zero_le _⟩
  · have hlm : len ≤ m := by rw [hmm]; split <;> omega
    have each : ∀ i, i < len → ∃ q : Int, V i = .int .i64 q ∧ I64 q := by
      intro i hi
      obtain ⟨q, e, w⟩ := read_int (hx i (by omega)).2
      exact ⟨q, by simpa using e, w⟩
    obtain ⟨F, hF⟩ := Go.Deep.choose_lt (α := Int) each
    have hlen : ((List.range len).map F).length = len := by simp
    refine ⟨some a, cap, (List.range len).map F, by rw [hlen], ⟨by rw [hlen]; exact hl, by have : cap ≤ maxLen := hm; unfold maxLen at this; omega, (fun e => by cases e), fun j hj => ?_⟩, by rw [hlen]; omega⟩
    have hj' : j < len := by rw [hlen] at hj; exact hj
    have c0 := (hx j (by omega)).1
    have cz := (hx 0 (by omega)).1
    obtain ⟨b, o, sp⟩ := a
    have hsp : sp = none := by simpa [Addr.add] using World.cell?_spot cz
    subst hsp
    rw [add_plain, (hF j hj').1] at c0
    exact ⟨b, o, rfl, by simpa using c0, by simpa using (hF j hj').2⟩
theorem read_struct {P : Program} {t : TypeId} {fs : Array Field} {cs : List Value} {x : DataW H × List MemPlace} (ht : P.underlying t = some (.struct fs)) (h : DataW.trod enc P W base spare held n t cs = some x) :
    cs.length = P.cellsOf t ∧ ∀ (i : Nat) (f : Field) (u : TypeId) (o k : Nat), fs[i]? = some f → f.type = u → f.offset = o → P.cellsOf u = k → ∃ m y, DataW.trod enc P W base spare held m u ((cs.drop o).take k) = some y := by
  obtain ⟨xs, m, _, _, hl, hn, hf⟩ := DataW.trod_struct ht h
  refine ⟨hl, ?_⟩
  rintro i f u o k hi rfl rfl rfl
  have e := hf i f hi
  have hlt : i < fs.size := (Array.getElem?_eq_some_iff.1 hi).1
  rw [List.getElem?_eq_getElem (by omega)] at e
  exact ⟨m, _, e⟩
theorem c_int : (Try.prog).cellsOf 3 = 1 := by kernel_rfl
theorem c_ints : (Try.prog).cellsOf 32 = 1 := by kernel_rfl
theorem c_conf : (Try.prog).cellsOf 34 = 2 := by kernel_rfl
theorem c_string : (Try.prog).cellsOf 9 = 1 := by kernel_rfl
theorem read_conf {cs : List Value} {x : DataW H × List MemPlace} (h : DataW.trod enc Try.prog W base spare held n 34 cs = some x) :
    ∃ ep a cap xs, cs = [.int .i64 ep, .slice a (xs : List Int).length cap] ∧ I64 ep ∧ Ints W a cap xs ∧ xs.length ≤ maxLen := by
  obtain ⟨hl, hf⟩ := read_struct Try.underlying34 h
  have hl : cs.length = 2 := hl.trans c_conf
  match cs, hl with
  | [v0, v1], _ =>
    obtain ⟨_, _, h0⟩ := hf 0 _ 3 0 1 rfl rfl rfl c_int
    obtain ⟨_, _, h1⟩ := hf 1 _ 32 1 1 rfl rfl rfl c_ints
    obtain ⟨k, e0, hk⟩ := read_int h0
    obtain ⟨a, cap, xs, e1, hi, hm⟩ := read_ints h1
    simp at e0 e1
    subst e0; subst e1
    exact ⟨k, a, cap, xs, rfl, hk, hi, hm⟩
/-- An argument that is a struct: its cells. -/
theorem arg_struct {P : Program} {t : TypeId} {fs : Array Field} {v : Value} {d : DataW H} {p : List MemPlace} {b0 : Nat} {r : Reach} (ht : P.underlying t = some (.struct fs)) (ok : Value.okWide P W r b0 t v)
    (h : DataW.Trod enc P W base spare held t v d p) : ∃ cs : List Value, v = .agg cs.toArray ∧ ∃ n x, DataW.trod enc P W base spare held n t cs = some x := by
  obtain ⟨cs, rfl, _⟩ := okWide_struct ht ok
  obtain ⟨m, hm⟩ := h
  exact ⟨cs.toList, rfl, m, _, hm⟩
set_option maxRecDepth 100000 in
theorem arg_conf {v : Value} {d : DataW H} {p : List MemPlace} {b0 : Nat} {r : Reach} (ok : Value.okWide Try.prog W r b0 34 v) (h : DataW.Trod enc Try.prog W base spare held 34 v d p) :
    ∃ ep a cap xs, v = .agg #[.int .i64 ep, .slice a (xs : List Int).length cap] ∧ I64 ep ∧ Ints W a cap xs ∧ xs.length ≤ maxLen := by
  obtain ⟨cs, rfl, n, x, hx⟩ := arg_struct Try.underlying34 ok h
  obtain ⟨ep, a, cap, xs, rfl, r⟩ := read_conf hx
  exact ⟨ep, a, cap, xs, rfl, r⟩
/-- A slice whose elements are read by a reading of their own, of k cells each. -/
theorem read_slice {P : Program} {α : Type} [Inhabited α] {t e : TypeId} {k : Nat} {cs : List Value} {x : DataW H × List MemPlace} (R : α → List Value → Prop) (ht : P.underlying t = some (.slice e)) (hc : P.cellsOf e = k)
    (hR : ∀ m cs y, DataW.trod enc P W base spare held m e cs = some y → ∃ q, R q cs) (h : DataW.trod enc P W base spare held n t cs = some x) :
    ∃ a len cap, cs = [.slice a len cap] ∧ len ≤ maxLen ∧ len ≤ cap ∧ cap ≤ maxLen ∧ (a = none → len = 0 ∧ cap = 0) ∧ ∃ F : Nat → α, ∀ i, i < len → ∃ cs', R (F i) cs' ∧ cs'.length = k ∧ (0 < k → ∃ b o, a = some ⟨b, o, none⟩ ∧ ∀ j (hj : j < cs'.length), W.cell? ⟨b, o + i * k + j, none⟩ = some cs'[j]) := by
  rcases Go.Deep.open_slice ht h with ⟨rfl, _⟩ | ⟨a, len, cap, m, k', D, Pl, rfl, hb, hl, hm, hmm, _, hx⟩
  · exact ⟨none, 0, 0, rfl, Nat.zero_le _, Nat.zero_le _, Nat.zero_le _, fun _ => ⟨rfl, rfl⟩, fun _ => default, fun i hi => absurd hi (Nat.not_lt_zero _)⟩
  · have hlm : len ≤ m := by rw [hmm]; split <;> omega
    rw [hc] at hx
    have each : ∀ i, i < len → ∃ q : α, ∃ cs', R q cs' ∧ cs'.length = k ∧ (0 < k → ∃ b o, (some a : Option Addr) = some ⟨b, o, none⟩ ∧ ∀ j (hj : j < cs'.length), W.cell? ⟨b, o + i * k + j, none⟩ = some cs'[j]) := by
      intro i hi
      obtain ⟨cs', h1, h2⟩ := hx i (by omega)
      obtain ⟨_, hlen, hcell⟩ := World.cells?_some h1
      obtain ⟨q, hq⟩ := hR _ _ _ h2
      refine ⟨q, cs', hq, hlen, fun hk => ?_⟩
      obtain ⟨cz, h1z, _⟩ := hx 0 (by omega)
      obtain ⟨_, hlenz, hcellz⟩ := World.cells?_some h1z
      have cz := hcellz 0 hk
      obtain ⟨b, o, sp⟩ := a
      rw [Go.Deep.add_add, List.getElem?_eq_getElem (by omega)] at cz
      have hsp : sp = none := by simpa [Addr.add] using World.cell?_spot cz
      subst hsp
      refine ⟨b, o, rfl, fun j hj => ?_⟩
      have c := hcell j (by omega)
      rw [Go.Deep.add_add, List.getElem?_eq_getElem hj, add_plain] at c
      rw [Nat.add_assoc]; exact c
    obtain ⟨F, hF⟩ := Go.Deep.choose_lt each
    exact ⟨some a, len, cap, rfl, Nat.le_trans hl hm, hl, hm, (fun e => by cases e), F, hF⟩
/-- An argument of one cell: its cell. -/
theorem arg_slice {P : Program} {t e : TypeId} {v : Value} {d : DataW H} {p : List MemPlace} {b0 : Nat} {r : Reach} (ht : P.underlying t = some (.slice e)) (ok : Value.okWide P W r b0 t v)
    (h : DataW.Trod enc P W base spare held t v d p) : ∃ n x, DataW.trod enc P W base spare held n t [v] = some x := by
  obtain ⟨a, len, cap, rfl⟩ := okWide_slice ht ok
  obtain ⟨m, hm⟩ := h
  exact ⟨m, _, hm⟩
end
end Go.Proofs.Ytakbkpklfihfiaa
