/- Contracts of layer 11: what is prepared; the reference's. -/
import Derived.Test.YtekbonciafbjiaaDeedsT
namespace Go.Proofs.Ytekbonciafbjiaa
open Go.RowKit Go.Lib F64
set_option linter.unusedSimpArgs false
set_option linter.unusedVariables false

def headS (sg a b c : Int) (t : ByteArray) : ByteArray := if ok32 a b c = true then ⟨(headL sg a b c ++ t.data.toList).toArray⟩ else ⟨#[]⟩
def headE (a b c : Int) : Int := if ok32 a b c = true then 0 else 1
theorem append_bytes (l : List UInt8) (t : ByteArray) : (⟨l.toArray⟩ : ByteArray) ++ t = ⟨(l ++ t.data.toList).toArray⟩ := by
  apply ByteArray.ext
  rw [ByteArray.data_append]
  simp
theorem prep_head (e v s : Int) (r : Req) (h : reqE r = 0) : prepS e v s r = headS 80 e v s (reqS r) ∧ prepE e v s r = headE e v s := by
  unfold prepS prepL prepE prepB headS headE reqS
  rw [decide_eq_true h, Bool.true_and]
  cases ok32 e v s <;> simp
theorem prep_no (e v s : Int) (r : Req) (h : reqE r ≠ 0) : prepS e v s r = ⟨#[]⟩ ∧ prepE e v s r = 1 := by
  unfold prepS prepL prepE prepB
  rw [decide_eq_false h, Bool.false_and]
  exact ⟨rfl, rfl⟩
theorem reqE_01 (r : Req) : reqE r = 0 ∨ reqE r = 1 := by unfold reqE; split; exact .inl rfl; split; exact .inl rfl; exact .inr rfl
theorem reqS_no (r : Req) (h : reqE r = 1) : reqS r = ⟨#[]⟩ := by
  unfold reqE at h
  unfold reqS reqL
  split at h
  · cases h
  · rename_i hn
    rw [if_neg hn]
    split at h
    · cases h
    · rename_i hr
      rw [if_neg hr]

theorem reqS_size (r : Req) : (reqS r).size ≤ 34 := by
  unfold reqS reqL
  split
  · decide
  · split
    · rename_i h
      obtain ⟨h1, h2, h3, h4, h5⟩ := rightB_facts h
      obtain ⟨o1, o2, o3, o4, o5⟩ := op_bounds h5
      have : (keyL r).length = r.op.key.size := size_data _
      have := reqT_length r
      show (reqT r).toArray.size ≤ 34
      rw [List.size_toArray]; omega
    · decide
end Go.Proofs.Ytekbonciafbjiaa
