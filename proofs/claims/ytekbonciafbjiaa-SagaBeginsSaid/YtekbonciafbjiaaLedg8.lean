/- Contracts of layer 12 (ledger): Do as a whole, Copy. -/
import Derived.Test.YtekbonciafbjiaaLedg7
namespace Go.Proofs.Ytekbonciafbjiaa
open Go.RowKit F64
set_option linter.unusedSimpArgs false
set_option linter.unusedVariables false
attribute [local go_sem] run_store_float

theorem ledger_Do (b m : Nat) (g : Lg) (I : Inv g) (c s k : Int) (key : ByteArray) (x : Nat) (id : Int) (hc : I64 c) (hs : I64 s) (hk : I64 k) (hid : I64 id) (hx : x < 18446744073709551616) (w : World) (h : LD w b m g) :
    Calls Try.prog 56 #[.pointer (some ⟨b, 0, none⟩), .agg #[.int .i64 c, .int .i64 s, .int .i64 k, .string key, .float .f64 x, .int .i64 id]] w fun e w' =>
    e = .returned (.tuple #[.agg #[.int .i64 (doR g ⟨c, s, ⟨k, key, x, id⟩⟩).code, .float .f64 (doR g ⟨c, s, ⟨k, key, x, id⟩⟩).real], .int .i64 (doE g ⟨c, s, ⟨k, key, x, id⟩⟩)]) ∧ Ext (Two b m) w w' ∧ LD w' b m (doL g ⟨c, s, ⟨k, key, x, id⟩⟩) := by
  by_cases ha : rightB ⟨c, s, ⟨k, key, x, id⟩⟩ = false ∧ nullB ⟨c, s, ⟨k, key, x, id⟩⟩ = false
  · have he : doE g ⟨c, s, ⟨k, key, x, id⟩⟩ = 1 := by unfold doE; rw [if_pos ha]
    have h1 : doL g ⟨c, s, ⟨k, key, x, id⟩⟩ = g := by unfold doL; rw [if_pos (by rw [he]; decide)]
    have h2 : doR g ⟨c, s, ⟨k, key, x, id⟩⟩ = ⟨0, 0⟩ := by unfold doR; rw [if_pos (by rw [he]; decide)]
    rw [he, h1, h2]
    exact (do_arg _ c s k key x id hc hs hk hid (.inr ha) w).mono fun e w' ⟨q1, q2⟩ => ⟨q1, q2.ofNon, h.extN q2⟩
  · have hrn : rightB ⟨c, s, ⟨k, key, x, id⟩⟩ = true ∨ nullB ⟨c, s, ⟨k, key, x, id⟩⟩ = true := by
      cases h1 : rightB ⟨c, s, ⟨k, key, x, id⟩⟩
      · cases h2 : nullB ⟨c, s, ⟨k, key, x, id⟩⟩
        · exact absurd ⟨h1, h2⟩ ha
        · exact .inr rfl
      · exact .inl rfl
    cases hf : fullB g
    · have he : doE g ⟨c, s, ⟨k, key, x, id⟩⟩ = 0 := by unfold doE; rw [if_neg ha, hf]; rfl
      have he' : ¬ doE g ⟨c, s, ⟨k, key, x, id⟩⟩ ≠ 0 := by rw [he]; decide
      cases hn : nullB ⟨c, s, ⟨k, key, x, id⟩⟩
      · have hr := hrn.resolve_right (by rw [hn]; simp)
        obtain ⟨r1, r2, r3, r4, r5⟩ := rightB_facts hr
        simp only at r1 r2 r3 r4
        obtain ⟨i, hi⟩ : ∃ i : Nat, c = (i : Int) + 1 := ⟨(c - 1).toNat, by omega⟩
        subst hi
        have hi8 : i < 8 := by omega
        have hix : idxR ⟨(i : Int) + 1, s, ⟨k, key, x, id⟩⟩ = i := by unfold idxR; simp only; omega
        by_cases c1 : s < (g.cl i).stamp
        · have h1 : doL g ⟨(i : Int) + 1, s, ⟨k, key, x, id⟩⟩ = tick g := by unfold doL; rw [if_neg he', if_neg (by rw [hn]; simp), hix, if_pos c1]
          have h2 : doR g ⟨(i : Int) + 1, s, ⟨k, key, x, id⟩⟩ = ⟨7, 0⟩ := by unfold doR; rw [if_neg he', if_neg (by rw [hn]; simp), hix, if_pos c1]
          rw [he, h1, h2]
          exact do_old b m g I i hi8 s k key x id hs hk hid hx hr hf c1 w h
        · by_cases c2 : (g.cl i).stamp < s
          · have h1 : doL g ⟨(i : Int) + 1, s, ⟨k, key, x, id⟩⟩ = setCl (applyL (tick g) ⟨k, key, x, id⟩) i ⟨s, (applyR (tick g) ⟨k, key, x, id⟩).code, (applyR (tick g) ⟨k, key, x, id⟩).real⟩ := by
              unfold doL; rw [if_neg he', if_neg (by rw [hn]; simp), hix, if_neg c1, if_pos c2]
            have h2 : doR g ⟨(i : Int) + 1, s, ⟨k, key, x, id⟩⟩ = applyR (tick g) ⟨k, key, x, id⟩ := by unfold doR; rw [if_neg he', if_neg (by rw [hn]; simp), hix, if_neg c1, if_pos c2]
            rw [he, h1, h2]
            exact do_new b m g I i hi8 s k key x id hs hk hid hx hr hf c2 w h
          · have h1 : doL g ⟨(i : Int) + 1, s, ⟨k, key, x, id⟩⟩ = tick g := by unfold doL; rw [if_neg he', if_neg (by rw [hn]; simp), hix, if_neg c1, if_neg c2]
            have h2 : doR g ⟨(i : Int) + 1, s, ⟨k, key, x, id⟩⟩ = ⟨(g.cl i).code, (g.cl i).real⟩ := by unfold doR; rw [if_neg he', if_neg (by rw [hn]; simp), hix, if_neg c1, if_neg c2]
            rw [he, h1, h2]
            exact do_again b m g I i hi8 s k key x id hs hk hid hx hr hf (by omega) w h
      · have h1 : doL g ⟨c, s, ⟨k, key, x, id⟩⟩ = tick g := by unfold doL; rw [if_neg he', if_pos hn]
        have h2 : doR g ⟨c, s, ⟨k, key, x, id⟩⟩ = ⟨8, 0⟩ := by unfold doR; rw [if_neg he', if_pos hn]
        rw [he, h1, h2]
        exact do_null b m g I c s k key x id hc hs hk hid hn hf w h
    · have he : doE g ⟨c, s, ⟨k, key, x, id⟩⟩ = 18 := by unfold doE; rw [if_neg ha, hf]; rfl
      have h1 : doL g ⟨c, s, ⟨k, key, x, id⟩⟩ = g := by unfold doL; rw [if_pos (by rw [he]; decide)]
      have h2 : doR g ⟨c, s, ⟨k, key, x, id⟩⟩ = ⟨0, 0⟩ := by unfold doR; rw [if_pos (by rw [he]; decide)]
      rw [he, h1, h2]
      exact (do_full b m g I c s k key x id hc hs hk hid hrn hf w h).mono fun e w' ⟨q1, q2⟩ => ⟨q1, q2.ofNon, h.extN q2⟩
end Go.Proofs.Ytekbonciafbjiaa
