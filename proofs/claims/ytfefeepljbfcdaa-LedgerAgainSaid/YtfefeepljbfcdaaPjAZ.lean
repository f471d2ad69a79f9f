/- Joined texts: Ledg8, Law12, Law12b. What each proves stands at its head; no conditions beside those in its theorems. -/
import Derived.Test.YtfefeepljbfcdaaPjAA
import Derived.Test.YtfefeepljbfcdaaPjAB
import Derived.Test.YtfefeepljbfcdaaPjAE
import Derived.Test.YtfefeepljbfcdaaPjAI
import Derived.Test.YtfefeepljbfcdaaPjAF
import Derived.Test.YtfefeepljbfcdaaPjAJ
import Derived.Test.YtfefeepljbfcdaaPjAK
import Derived.Test.YtfefeepljbfcdaaPjAO
import Derived.Test.YtfefeepljbfcdaaPjAP
import Derived.Test.YtfefeepljbfcdaaPjAT
import Derived.Test.YtfefeepljbfcdaaPjAU
import Derived.Test.YtfefeepljbfcdaaPjAV
import Derived.Test.YtfefeepljbfcdaaPjAW
import Derived.Test.YtfefeepljbfcdaaPjAX
import Derived.Test.YtfefeepljbfcdaaPjAY
/- Contracts of layer 12 (ledger): Do as a whole, Copy. -/
namespace Go.Proofs.Ytfefeepljbfcdaa
open Go.RowKit F64
set_option linter.unusedSimpArgs false
set_option linter.unusedVariables false
attribute [local go_sem] run_store_float

theorem ledger_Do (b m : Nat) (g : Lg) (I : Inv g) (c s k : Int) (key : ByteArray) (x : Nat) (id : Int) (hc : I64 c) (hs : I64 s) (hk : I64 k) (hid : I64 id) (hx : x < 18446744073709551616) (w : World) (h : LD w b m g) :
    Calls Try.prog 16 #[.pointer (some ⟨b, 0, none⟩), .agg #[.int .i64 c, .int .i64 s, .int .i64 k, .string key, .float .f64 x, .int .i64 id]] w fun e w' =>
    e = .returned (.tuple #[.agg #[.int .i64 (doR g ⟨c, s, ⟨k, key, x, id⟩⟩).code, .float .f64 (doR g ⟨c, s, ⟨k, key, x, id⟩⟩).real], .int .i64 (doE g ⟨c, s, ⟨k, key, x, id⟩⟩)]) ∧ Ext (Two b m) w w' ∧ LD w' b m (doL g ⟨c, s, ⟨k, key, x, id⟩⟩) := by
  by_cases ha : rightB ⟨c, s, ⟨k, key, x, id⟩⟩ = false ∧ nullB ⟨c, s, ⟨k, key, x, id⟩⟩ = false
  · have he : doE g ⟨c, s, ⟨k, key, x, id⟩⟩ = 1 := by unfold doE; rw [if_pos ha]
    have h1 : doL g ⟨c, s, ⟨k, key, x, id⟩⟩ = g := by unfold doL; rw [if_pos (by rw [he]; decide)]
    have h2 : doR g ⟨c, s, ⟨k, key, x, id⟩⟩ = ⟨0, 0⟩ := by unfold doR; rw [if_pos (by rw [he]; decide)]
    rw [he, h1, h2]
    exact (do_arg _ c s k key x id hc hs hk hid (.inr ha) w).mono fun e w' ⟨q1, q2⟩ => ⟨q1, q2.ofNon, h.extN q2⟩
  · have hrn : rightB ⟨c, s, ⟨k, key, x, id⟩⟩ = true ∨ nullB ⟨c, s, ⟨k, key, x, id⟩⟩ = true := by
      cases h1 : rightB ⟨c, s, ⟨k, key, x, id⟩⟩
      · cases h2 : nullB ⟨c, s, ⟨k, key, x, id⟩⟩
        · exact absurd ⟨h1, h2⟩ ha
        · exact .inr rfl
      · exact .inl rfl
    cases hf : fullB g
    · have he : doE g ⟨c, s, ⟨k, key, x, id⟩⟩ = 0 := by unfold doE; rw [if_neg ha, hf]; rfl
      have he' : ¬ doE g ⟨c, s, ⟨k, key, x, id⟩⟩ ≠ 0 := by rw [he]; decide
      cases hn : nullB ⟨c, s, ⟨k, key, x, id⟩⟩
      · have hr := hrn.resolve_right (by rw [hn]; simp)
        obtain ⟨r1, r2, r3, r4, r5⟩ := rightB_facts hr
        simp only at r1 r2 r3 r4
        obtain ⟨i, hi⟩ : ∃ i : Nat, c = (i : Int) + 1 := ⟨(c - 1).toNat, by omega⟩
        subst hi
        have hi8 : i < 8 := by omega
        have hix : idxR ⟨(i : Int) + 1, s, ⟨k, key, x, id⟩⟩ = i := by unfold idxR; simp only; omega
        by_cases c1 : s < (g.cl i).stamp
        · have h1 : doL g ⟨(i : Int) + 1, s, ⟨k, key, x, id⟩⟩ = tick g := by unfold doL; rw [if_neg he', if_neg (by rw [hn]; simp), hix, if_pos c1]
          have h2 : doR g ⟨(i : Int) + 1, s, ⟨k, key, x, id⟩⟩ = ⟨7, 0⟩ := by unfold doR; rw [if_neg he', if_neg (by rw [hn]; simp), hix, if_pos c1]
          rw [he, h1, h2]
          exact do_old b m g I i hi8 s k key x id hs hk hid hx hr hf c1 w h
        · by_cases c2 : (g.cl i).stamp < s
          · have h1 : doL g ⟨(i : Int) + 1, s, ⟨k, key, x, id⟩⟩ = setCl (applyL (tick g) ⟨k, key, x, id⟩) i ⟨s, (applyR (tick g) ⟨k, key, x, id⟩).code, (applyR (tick g) ⟨k, key, x, id⟩).real⟩ := by
              unfold doL; rw [if_neg he', if_neg (by rw [hn]; simp), hix, if_neg c1, if_pos c2]
            have h2 : doR g ⟨(i : Int) + 1, s, ⟨k, key, x, id⟩⟩ = applyR (tick g) ⟨k, key, x, id⟩ := by unfold doR; rw [if_neg he', if_neg (by rw [hn]; simp), hix, if_neg c1, if_pos c2]
            rw [he, h1, h2]
            exact do_new b m g I i hi8 s k key x id hs hk hid hx hr hf c2 w h
          · have h1 : doL g ⟨(i : Int) + 1, s, ⟨k, key, x, id⟩⟩ = tick g := by unfold doL; rw [if_neg he', if_neg (by rw [hn]; simp), hix, if_neg c1, if_neg c2]
            have h2 : doR g ⟨(i : Int) + 1, s, ⟨k, key, x, id⟩⟩ = ⟨(g.cl i).code, (g.cl i).real⟩ := by unfold doR; rw [if_neg he', if_neg (by rw [hn]; simp), hix, if_neg c1, if_neg c2]
            rw [he, h1, h2]
            exact do_again b m g I i hi8 s k key x id hs hk hid hx hr hf (by omega) w h
      · have h1 : doL g ⟨c, s, ⟨k, key, x, id⟩⟩ = tick g := by unfold doL; rw [if_neg he', if_pos hn]
        have h2 : doR g ⟨c, s, ⟨k, key, x, id⟩⟩ = ⟨8, 0⟩ := by unfold doR; rw [if_neg he', if_pos hn]
        rw [he, h1, h2]
        exact do_null b m g I c s k key x id hc hs hk hid hn hf w h
    · have he : doE g ⟨c, s, ⟨k, key, x, id⟩⟩ = 18 := by unfold doE; rw [if_neg ha, hf]; rfl
      have h1 : doL g ⟨c, s, ⟨k, key, x, id⟩⟩ = g := by unfold doL; rw [if_pos (by rw [he]; decide)]
      have h2 : doR g ⟨c, s, ⟨k, key, x, id⟩⟩ = ⟨0, 0⟩ := by unfold doR; rw [if_pos (by rw [he]; decide)]
      rw [he, h1, h2]
      exact (do_full b m g I c s k key x id hc hs hk hid hrn hf w h).mono fun e w' ⟨q1, q2⟩ => ⟨q1, q2.ofNon, h.extN q2⟩
end Go.Proofs.Ytfefeepljbfcdaa

/- The small functions of the statements of layer 12. -/
namespace Go.Proofs.Ytfefeepljbfcdaa
open Go.RowKit F64
set_option linter.unusedSimpArgs false
set_option linter.unusedVariables false
attribute [local go_sem] run_store_float

set_option maxHeartbeats 1000000 in
set_option maxRecDepth 100000 in
theorem ask_Request (c s k : Int) (key : ByteArray) (n id : Int) (w : World) : Calls Try.prog 17 #[.agg #[.int .i64 c, .int .i64 s, .int .i64 k, .string key, .int .u64 n, .int .i64 id]] w fun e w' =>
    e = .returned (.agg #[.int .i64 c, .int .i64 s, .int .i64 k, .string key, .float .f64 n.toNat, .int .i64 id]) ∧ Ext Non w w' := by
  go_enter Try.func17, Try.ntmps17
  go_wp2_with fail
  go_region
  all_goals go_wp2
  all_goals refine bodyPost_ret (by simp [results, Try.results17, go_sem]; try rfl) rfl ?_
  all_goals exact ⟨rfl, (((Ext.refl _ _).alloc _).alloc _).drew⟩
end Go.Proofs.Ytfefeepljbfcdaa

/- The small functions of the statements of layer 12, continued; lives. -/
namespace Go.Proofs.Ytfefeepljbfcdaa
open Go.RowKit F64
set_option linter.unusedSimpArgs false
set_option linter.unusedVariables false
attribute [local go_sem] run_store_float

theorem ref_SameResult (k1 k2 : Int) (x1 x2 : Nat) (w : World) : Calls Try.prog 23 #[.agg #[.int .i64 k1, .float .f64 x1], .agg #[.int .i64 k2, .float .f64 x2]] w fun e w' => e = .returned (.bool (decide (k1 = k2) && decide (canonN x1 = canonN x2))) ∧ Ext Non w w' := by
  by_cases hp : k1 = k2
  · subst hp
    have hb : (((canonN x1 : Nat) : Int) == ((canonN x2 : Nat) : Int)) = decide (canonN x1 = canonN x2) := by rw [Bool.eq_iff_iff]; simp; omega
    have HF := Go.Lib.hid (show (decide (k1 = k1) && decide (canonN x1 = canonN x2)) = decide (canonN x1 = canonN x2) by simp)
    go_enter Try.func23, Try.ntmps23
    go_wp2_with fail
    go_quiet (first | (go_at_call 26; exact quiet_eq (ref_Bits _ _)))
    go_wp2
    go_returns
    exact ⟨by rw [HF.out, ← hb]; rfl, (((Ext.refl _ _).alloc _).alloc _).drewN _⟩
  · have hb : (k1 == k2) = false := by rw [beq_eq_false_iff_ne]; exact hp
    have HF := Go.Lib.hid (show (decide (k1 = k2) && decide (canonN x1 = canonN x2)) = false by rw [decide_eq_false hp]; rfl)
    go_enter Try.func23, Try.ntmps23
    go_wp2_with fail
    go_quiet (fail)
    go_wp2
    go_returns
    exact ⟨by rw [HF.out]; rfl, (((Ext.refl _ _).alloc _).alloc _).drewN _⟩

def l4 : List Int := [0, 1, 2, 3]
def rJoin : Req := ⟨1, 1, ⟨6, ⟨#[]⟩, 0, 4⟩⟩
theorem l4_ok : membersB l4 = true := by decide
theorem lives_do : doE (newL l4) rJoin = 0 ∧ (doR (newL l4) rJoin).code = 0 ∧ (doL (newL l4) rJoin).next.length = 5 ∧ (doL (newL l4) rJoin).done = 1 := by decide +kernel

set_option maxHeartbeats 1000000 in
set_option maxRecDepth 100000 in
theorem law12_lives (w : World) : Calls Try.prog 8 #[] w fun e w' => e = .returned (.bool true) ∧ Ext Non w w' := by
  obtain ⟨d1, d2, d3, d4⟩ := lives_do
  have I0 := Go.Lib.hid (inv_new l4_ok)
  have I1 := Go.Lib.hid (inv_do I0.out rJoin (by decide)).1
  have ha : Ints (w.alloc (.cells #[.int .i64 0, .int .i64 1, .int .i64 2, .int .i64 3] 3)) (some ⟨w.heap.size, 0, none⟩) 4 l4 := Ints.ofHeap (t := 3) (xs := l4) (heap_alloc_new w _) (by decide) (fun x hx => by simp [l4] at hx; unfold I64; omega)
  have A := Go.Lib.hid ha; clear ha
  have hz : ∀ n : Int, 0 ≤ n → n ≤ 10 → I64 n := fun n h1 h2 => by unfold I64; omega
  have HZ := Go.Lib.hid hz; clear hz
  have E1 := Go.Lib.hid d1; have E2 := Go.Lib.hid d2; have E3 := Go.Lib.hid d3; have E4 := Go.Lib.hid d4
  clear d1 d2 d3 d4
  go_enter Try.func8, Try.ntmps8
  go_wp2_with fail
  refine (ledger_New_ok _ 4 l4 l4_ok _ A.out).mono ?_
  rintro e w1 ⟨b, m, rfl, x1, L1, hb, hm⟩
  have X1 := Go.Lib.hid (((Ext.refl Non w).alloc (.cells #[.int .i64 0, .int .i64 1, .int .i64 2, .int .i64 3] 3)).trans x1)
  have hb0 : w.heap.size ≤ b := by simp at hb; omega
  have hm0 : w.heap.size ≤ m := by simp at hm; omega
  clear x1 hb hm
  go_wp2_with fail
  refine (ledger_Do b m _ I0.out 1 1 6 ⟨#[]⟩ 0 4 (HZ.out _ (by decide) (by decide)) (HZ.out _ (by decide) (by decide)) (HZ.out _ (by decide) (by decide)) (HZ.out _ (by decide) (by decide)) (by decide) _ L1).mono ?_
  rintro e w2 ⟨rfl, x2, L2⟩
  rw [show doE (newL l4) ⟨1, 1, ⟨6, ⟨#[]⟩, 0, 4⟩⟩ = 0 from E1.out, show (doR (newL l4) ⟨1, 1, ⟨6, ⟨#[]⟩, 0, 4⟩⟩).code = 0 from E2.out]
  generalize (doR (newL l4) ⟨1, 1, ⟨6, ⟨#[]⟩, 0, 4⟩⟩).real = rl
  have L2' := Go.Lib.hid L2
  have X2 := Go.Lib.hid (X1.out.step x2 (fun k hk s => by rcases s with s | s <;> omega))
  clear x2 L2 L1
  have AL : Ext Non w2 (w2.alloc (.cells #[.int .i64 0, .float .f64 rl] 43)) := (Ext.refl _ _).alloc _
  go_wp2_with fail
  refine (ledger_Next b m _ I1.out _ (L2'.out.extN AL)).mono ?_
  rintro e w3 ⟨a3, c3, rfl, x3, _, _⟩
  rw [show (doL (newL l4) rJoin).next.length = 5 from E3.out]
  go_wp2_with fail
  refine (ledger_Done b m _ _ ((L2'.out.extN AL).extN x3)).mono ?_
  rintro e w4 ⟨rfl, rfl⟩
  rw [show (doL (newL l4) ⟨1, 1, ⟨6, ⟨#[]⟩, 0, 4⟩⟩).done = 1 from E4.out]
  go_wp2
  go_returns
  exact ⟨rfl, (X2.out.trans AL).trans x3⟩
end Go.Proofs.Ytfefeepljbfcdaa
