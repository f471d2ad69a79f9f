/- The small functions of the statements of layer 12, continued; lives. -/
import Derived.Test.YtfefeepljbfcdaaLaw12
namespace Go.Proofs.Ytfefeepljbfcdaa
open Go.RowKit F64
set_option linter.unusedSimpArgs false
set_option linter.unusedVariables false
attribute [local go_sem] run_store_float

set_option maxHeartbeats 1000000 in
theorem ref_Same (p1 : Int) (a1 : Option Addr) (c1 : Nat) (xs : List Int) (p2 : Int) (a2 : Option Addr) (c2 : Nat) (ys : List Int) (w : World) (h1 : Ints w a1 c1 xs) (h2 : Ints w a2 c2 ys) :
    Calls Try.prog 15 #[.agg #[.int .i64 p1, .slice a1 xs.length c1], .agg #[.int .i64 p2, .slice a2 ys.length c2]] w fun e w' => e = .returned (.bool (decide (p1 = p2) && decide (xs = ys))) ∧ Ext Non w w' := by
  have H1 := Go.Lib.hid h1
  have H2 := Go.Lib.hid h2
  clear h1 h2
  by_cases hp : p1 = p2
  · subst hp
    go_enter Try.func15, Try.ntmps15
    go_wp2_with fail
    refine (ref_SameInts _ _ _ _ _ _ _ (H1.out.extN (((Ext.refl _ _).alloc _).alloc _)) (H2.out.extN (((Ext.refl _ _).alloc _).alloc _))).mono ?_
    rintro e w1 ⟨rfl, y⟩
    generalize hd : decide (xs = ys) = d
    have HD := Go.Lib.hid hd; clear hd
    go_wp2
    go_returns
    exact ⟨by simp; exact HD.out.symm, (((Ext.refl _ _).alloc _).alloc _).trans y⟩
  · have hb : (p1 == p2) = false := by rw [beq_eq_false_iff_ne]; exact hp
    have HF := Go.Lib.hid (show (decide (p1 = p2) && decide (xs = ys)) = false by rw [decide_eq_false hp]; rfl)
    go_enter Try.func15, Try.ntmps15
    go_wp2
    go_returns
    exact ⟨by rw [HF.out]; rfl, ((Ext.refl _ _).alloc _).alloc _⟩
theorem ref_SameResult (k1 k2 : Int) (x1 x2 : Nat) (w : World) : Calls Try.prog 23 #[.agg #[.int .i64 k1, .float .f64 x1], .agg #[.int .i64 k2, .float .f64 x2]] w fun e w' => e = .returned (.bool (decide (k1 = k2) && decide (canonN x1 = canonN x2))) ∧ Ext Non w w' := by
  by_cases hp : k1 = k2
  · subst hp
    have hb : (((canonN x1 : Nat) : Int) == ((canonN x2 : Nat) : Int)) = decide (canonN x1 = canonN x2) := by rw [Bool.eq_iff_iff]; simp; omega
    have HF := Go.Lib.hid (show (decide (k1 = k1) && decide (canonN x1 = canonN x2)) = decide (canonN x1 = canonN x2) by simp)
    go_enter Try.func23, Try.ntmps23
    go_wp2_with fail
    go_quiet (first | (go_at_call 26; exact quiet_eq (ref_Bits _ _)))
    go_wp2
    go_returns
    exact ⟨by rw [HF.out, ← hb]; rfl, (((Ext.refl _ _).alloc _).alloc _).drewN _⟩
  · have hb : (k1 == k2) = false := by rw [beq_eq_false_iff_ne]; exact hp
    have HF := Go.Lib.hid (show (decide (k1 = k2) && decide (canonN x1 = canonN x2)) = false by rw [decide_eq_false hp]; rfl)
    go_enter Try.func23, Try.ntmps23
    go_wp2_with fail
    go_quiet (fail)
    go_wp2
    go_returns
    exact ⟨by rw [HF.out]; rfl, (((Ext.refl _ _).alloc _).alloc _).drewN _⟩

def l4 : List Int := [0, 1, 2, 3]
def rJoin : Req := ⟨1, 1, ⟨6, ⟨#[]⟩, 0, 4⟩⟩
theorem l4_ok : membersB l4 = true := by decide
theorem lives_do : doE (newL l4) rJoin = 0 ∧ (doR (newL l4) rJoin).code = 0 ∧ (doL (newL l4) rJoin).next.length = 5 ∧ (doL (newL l4) rJoin).done = 1 := by decide +kernel

set_option maxHeartbeats 1000000 in
set_option maxRecDepth 100000 in
theorem law12_lives (w : World) : Calls Try.prog 8 #[] w fun e w' => e = .returned (.bool true) ∧ Ext Non w w' := by
  obtain ⟨d1, d2, d3, d4⟩ := lives_do
  have I0 := Go.Lib.hid (inv_new l4_ok)
  have I1 := Go.Lib.hid (inv_do I0.out rJoin (by decide)).1
  have ha : Ints (w.alloc (.cells #[.int .i64 0, .int .i64 1, .int .i64 2, .int .i64 3] 3)) (some ⟨w.heap.size, 0, none⟩) 4 l4 := Ints.ofHeap (t := 3) (xs := l4) (heap_alloc_new w _) (by decide) (fun x hx => by simp [l4] at hx; unfold I64; omega)
  have A := Go.Lib.hid ha; clear ha
  have hz : ∀ n : Int, 0 ≤ n → n ≤ 10 → I64 n := fun n h1 h2 => by unfold I64; omega
  have HZ := Go.Lib.hid hz; clear hz
  have E1 := Go.Lib.hid d1; have E2 := Go.Lib.hid d2; have E3 := Go.Lib.hid d3; have E4 := Go.Lib.hid d4
  clear d1 d2 d3 d4
  go_enter Try.func8, Try.ntmps8
  go_wp2_with fail
  refine (ledger_New_ok _ 4 l4 l4_ok _ A.out).mono ?_
  rintro e w1 ⟨b, m, rfl, x1, L1, hb, hm⟩
  have X1 := Go.Lib.hid (((Ext.refl Non w).alloc (.cells #[.int .i64 0, .int .i64 1, .int .i64 2, .int .i64 3] 3)).trans x1)
  have hb0 : w.heap.size ≤ b := by simp at hb; omega
  have hm0 : w.heap.size ≤ m := by simp at hm; omega
  clear x1 hb hm
  go_wp2_with fail
  refine (ledger_Do b m _ I0.out 1 1 6 ⟨#[]⟩ 0 4 (HZ.out _ (by decide) (by decide)) (HZ.out _ (by decide) (by decide)) (HZ.out _ (by decide) (by decide)) (HZ.out _ (by decide) (by decide)) (by decide) _ L1).mono ?_
  rintro e w2 ⟨rfl, x2, L2⟩
  rw [show doE (newL l4) ⟨1, 1, ⟨6, ⟨#[]⟩, 0, 4⟩⟩ = 0 from E1.out, show (doR (newL l4) ⟨1, 1, ⟨6, ⟨#[]⟩, 0, 4⟩⟩).code = 0 from E2.out]
  generalize (doR (newL l4) ⟨1, 1, ⟨6, ⟨#[]⟩, 0, 4⟩⟩).real = rl
  have L2' := Go.Lib.hid L2
  have X2 := Go.Lib.hid (X1.out.step x2 (fun k hk s => by rcases s with s | s <;> omega))
  clear x2 L2 L1
  have AL : Ext Non w2 (w2.alloc (.cells #[.int .i64 0, .float .f64 rl] 43)) := (Ext.refl _ _).alloc _
  go_wp2_with fail
  refine (ledger_Next b m _ I1.out _ (L2'.out.extN AL)).mono ?_
  rintro e w3 ⟨a3, c3, rfl, x3, _, _⟩
  rw [show (doL (newL l4) rJoin).next.length = 5 from E3.out]
  go_wp2_with fail
  refine (ledger_Done b m _ _ ((L2'.out.extN AL).extN x3)).mono ?_
  rintro e w4 ⟨rfl, rfl⟩
  rw [show (doL (newL l4) ⟨1, 1, ⟨6, ⟨#[]⟩, 0, 4⟩⟩).done = 1 from E4.out]
  go_wp2
  go_returns
  exact ⟨rfl, (X2.out.trans AL).trans x3⟩
end Go.Proofs.Ytfefeepljbfcdaa
