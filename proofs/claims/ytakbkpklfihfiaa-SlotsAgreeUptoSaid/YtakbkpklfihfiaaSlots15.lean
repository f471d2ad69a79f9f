/- A row of steps, as it comes in. -/
import Derived.Test.YtakbkpklfihfiaaSlots14
namespace Go.Proofs.Ytakbkpklfihfiaa
open Go.RowKit Go.ChangeShapes Go.WideShapes
set_option linter.unusedSimpArgs false
set_option linter.unusedVariables false
instance : Inhabited Stp := ⟨⟨0, 0, 0, 0, 0, 0, 0, ByteArray.empty, 0, 0, false⟩⟩
def stAt (l : List Stp) (j : Nat) : Stp := l.getD j default
theorem stAt_get {l : List Stp} {j : Nat} (h : j < l.length) : stAt l j = l[j] := by simp [stAt, List.getElem?_eq_getElem h]
structure Stps (w : World) (a : Option Addr) (cap : Nat) (l : List Stp) : Prop where
  le : l.length ≤ cap
  small : cap ≤ 9223372036854775807
  at_ : ∀ j (h : j < l.length), ∃ b o, a = some ⟨b, o, none⟩ ∧ b < w.heap.size ∧ (∀ i v, (stAt l j).cells[i]? = some v → w.cell? ⟨b, o + j * 11 + i, none⟩ = some v) ∧ (stAt l j).ok
theorem Stps.extN {w w' : World} {a : Option Addr} {cap : Nat} {l : List Stp} (h : Stps w a cap l) (x : Ext Non w w') : Stps w' a cap l :=
  ⟨h.le, h.small, fun j hj => by
    obtain ⟨b, o, e, hb, c, r⟩ := h.at_ j hj
    exact ⟨b, o, e, Nat.lt_of_lt_of_le hb x.size, fun i v hv => (x.cell (p := ⟨b, o + j * 11 + i, none⟩) hb (fun f => f)).trans (c i v hv), r⟩⟩
section
variable {H : Type} {enc : TypeId × Value → H} {W : World} {base n : Nat} {spare : Nat → Bool} {held : Bool}
theorem c_ops14 : (Try.prog).cellsOf 69 = 1 := by kernel_rfl
theorem read_ops14 {cs : List Value} {x : DataW H × List MemPlace} (h : DataW.trod enc Try.prog W base spare held n 69 cs = some x) : ∃ a cap l, cs = [.slice a (l : List Stp).length cap] ∧ Stps W a cap l := by
  obtain ⟨a, len, cap, rfl, hl, hc, hm, hn, F, hF⟩ := read_slice (α := Stp) (k := 11) (fun q cs => cs = q.cells ∧ q.ok) Try.underlying69 c_op14 (fun m cs y hy => read_op14 hy) h
  have hlen : ((List.range len).map F).length = len := by simp
  refine ⟨a, cap, (List.range len).map F, by rw [hlen], ⟨by rw [hlen]; exact hc, by unfold maxLen at hm; omega, fun j hj => ?_⟩⟩
  have hj' : j < len := by rw [hlen] at hj; exact hj
  obtain ⟨cs', ⟨rfl, w1⟩, hlc, hcell⟩ := hF j hj'
  obtain ⟨b, o, rfl, hcc⟩ := hcell (by omega)
  have e : stAt ((List.range len).map F) j = F j := by rw [stAt_get hj]; simp
  rw [e]
  refine ⟨b, o, rfl, lt_of_cell (hcc 0 (by rw [hlc]; omega)), fun i v hv => ?_, w1⟩
  obtain ⟨hi, rfl⟩ := List.getElem?_eq_some_iff.1 hv
  exact hcc i hi
set_option maxRecDepth 100000 in
theorem arg_ops14 {v : Value} {d : DataW H} {p : List MemPlace} {b0 : Nat} {r : Reach} (ok : Value.okWide Try.prog W r b0 69 v) (h : DataW.Trod enc Try.prog W base spare held 69 v d p) :
    ∃ (a : Option Addr) (cap : Nat) (l : List Stp), v = .slice a l.length cap ∧ Stps W a cap l := by
  obtain ⟨n, x, hx⟩ := arg_slice Try.underlying69 ok h
  obtain ⟨a, cap, l, e, hc⟩ := read_ops14 hx
  simp at e
  exact ⟨a, cap, l, e, hc⟩
end
end Go.Proofs.Ytakbkpklfihfiaa
