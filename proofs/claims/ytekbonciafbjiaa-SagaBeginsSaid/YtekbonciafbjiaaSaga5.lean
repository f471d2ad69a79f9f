/- The law of layer 22: lives (four joins). -/
import Derived.Test.YtekbonciafbjiaaSaga3
import Derived.Test.YtekbonciafbjiaaSaga4
import Derived.Test.YtekbonciafbjiaaLaw12b
namespace Go.Proofs.Ytekbonciafbjiaa
open Go.RowKit Go.Lib F64
set_option linter.unusedSimpArgs false
set_option linter.unusedVariables false
attribute [local go_sem] run_store_float
attribute [local go_sem low] EW.cellN EW.frozN alloc_cell_or alloc_froz_or EW.cellF EW.frozF EW.cell1 EW.froz1
attribute [local go_sem] relAt relUpon
def qJ (i : Nat) : Req := ⟨1, (i : Int) + 1, ⟨6, ByteArray.empty, 0, 4 + (i : Int)⟩⟩
def lJ : List Req := [qJ 0, qJ 1, qJ 2, qJ 3]
theorem lJ_ok : ∀ r ∈ lJ, ReqOk r := fun r hr => by
  have h : r = qJ 0 ∨ r = qJ 1 ∨ r = qJ 2 ∨ r = qJ 3 := by simpa [lJ] using hr
  rcases h with rfl | rfl | rfl | rfl <;> exact ⟨by unfold I64 qJ; simp, by unfold I64 qJ; simp, by unfold I64 qJ; simp, by unfold I64 qJ; simp, by simp [qJ], by simp [qJ]⟩
theorem lJ_asked : ∀ r ∈ lJ, askedB r = true := fun r hr => by
  have h : r = qJ 0 ∨ r = qJ 1 ∨ r = qJ 2 ∨ r = qJ 3 := by simpa [lJ] using hr
  rcases h with rfl | rfl | rfl | rfl <;> decide +kernel
theorem lJ_take (i : Nat) (h : i < 4) : lJ.take (i + 1) = lJ.take i ++ [qJ i] := by
  have h4 : i = 0 ∨ i = 1 ∨ i = 2 ∨ i = 3 := by omega
  rcases h4 with rfl | rfl | rfl | rfl <;> rfl
theorem lJ_out : outI (qJ 2) (stepsL (newL l4) lJ) = some 2 := by decide +kernel
theorem lJ_mem : (memN l4 lJ 1).length = 8 := by decide +kernel
set_option maxHeartbeats 2000000 in
set_option maxRecDepth 100000 in
theorem law22_lives (w : World) : Calls Try.prog 9 #[] w fun e w' => e = .returned (.bool true) ∧ Ext Non w w' := by
  have ROW0 : Hid (w.ownsRow w.heap.size 37 6 (.slice none 0 0) 0 []) := Go.Lib.hid (World.ownsRow_nil _ _ _ _)
  go_enter Try.func9, Try.ntmps9
  go_wp2_with fail
  go_loopg [1, 2] 4 (fun n ov iv wr => ∃ (v : Value) (i : Nat) (z : EW Non w), v = ov ∧ i ≤ 4 ∧ n = 4 - i ∧ iv = .int .i64 i ∧ wr = z.on ∧ Hid (wr.ownsRow w.heap.size 37 6 v i ((lJ.take i).flatMap Req.cells)))
  case atStart => exact ⟨_, 0, ⟨_, by (repeat (first | with_reducible exact Ext.refl _ _ | assumption | with_reducible refine Ext.upN ?_ | with_reducible refine Ext.alloc ?_ _ | with_reducible refine Ext.upA (by assumption) ?_ | with_reducible refine Ext.upW ?_ | with_reducible refine Ext.drew ?_ | with_reducible refine Ext.drewN ?_ _ | with_reducible refine Ext.upF ?_ | with_reducible refine Ext.upFF (by first | omega | simp) ?_ | with_reducible refine Ext.setCellsF _ _ _ (by first | omega | simp) ?_ | with_reducible refine Ext.setCellF _ _ _ (by first | omega | simp) ?_ | with_reducible refine Ext.upFN (by first | omega | simp) ?_ | with_reducible refine Ext.up1F (by first | omega | simp) ?_ | with_reducible refine Ext.up1N (by first | omega | simp) ?_ | with_reducible refine Ext.setCell ?_ (.inr (by first | omega | simp)) _ | refine Ext.alloc ?_ _ | refine Ext.setCellF _ _ _ (by first | omega | simp) ?_ | refine Ext.setCell ?_ (.inr (by first | omega | simp)) _))⟩, rfl, by omega, rfl, rfl, rfl, ROW0⟩
  case round =>
    clear ROW0
    obtain ⟨v, i, z, rfl, hi, hn, rfl, rfl, HO⟩ := hrel
    have HN := Go.Lib.hid hn; clear hn
    by_cases hlt : i < 4
    · have HT := Go.Lib.hid (lJ_take i hlt)
      have hd : decide ((i : Int) < 4) = true := decide_eq_true (by omega)
      have hsz : w.heap.size ≤ z.on.heap.size := z.ext.size
      have w1 : IntKind.i64.wrap ((i : Int) + 1) = (i : Int) + 1 := IntWalk.i64_in _ (by omega)
      have w2 : IntKind.i64.wrap (4 + (i : Int)) = 4 + (i : Int) := IntWalk.i64_in _ (by omega)
      go_wp2_with (at_builtin; refine wpList_append_rowB rfl _ _ 31 rfl w.heap.size 37 6 56 _ Try.underlying31 info_req9 (by rfl) (by omega) v i _ rfl (ownR_extN HO.out (by (repeat (first | with_reducible exact Ext.refl _ _ | assumption | with_reducible refine Ext.upN ?_ | with_reducible refine Ext.alloc ?_ _ | with_reducible refine Ext.upA (by assumption) ?_ | with_reducible refine Ext.upW ?_ | with_reducible refine Ext.drew ?_ | with_reducible refine Ext.drewN ?_ _ | with_reducible refine Ext.upF ?_ | with_reducible refine Ext.upFF (by first | omega | simp) ?_ | with_reducible refine Ext.setCellsF _ _ _ (by first | omega | simp) ?_ | with_reducible refine Ext.setCellF _ _ _ (by first | omega | simp) ?_ | with_reducible refine Ext.upFN (by first | omega | simp) ?_ | with_reducible refine Ext.up1F (by first | omega | simp) ?_ | with_reducible refine Ext.up1N (by first | omega | simp) ?_ | with_reducible refine Ext.setCell ?_ (.inr (by first | omega | simp)) _ | refine Ext.alloc ?_ _ | refine Ext.setCellF _ _ _ (by first | omega | simp) ?_ | refine Ext.setCell ?_ (.inr (by first | omega | simp)) _)))) z.on.heap.size [.int .i64 1, .int .i64 ((i : Int) + 1), .int .i64 6, .string ByteArray.empty, .float .f64 0, .int .i64 (4 + (i : Int))] 37 rfl (Bx.newAt _ _ _ _ rfl) rfl (by simp [Value.oneCell']) (by omega) (by omega) (by simp; omega) (fun v' W2 hO hrow => ?_); have HO2 := Go.Lib.hid hO; clear hO hrow)
      have XF : Ext Non w W2.on := (z.ext.alloc (.cells [.int .i64 1, .int .i64 ((i : Int) + 1), .int .i64 6, .string ByteArray.empty, .float .f64 0, .int .i64 (4 + (i : Int))].toArray 37)).step W2.ext (fun j hj h => by have := (own_row HO.out j h).1; omega)
      go_roundg (4 - (i + 1))
      case measure => have := HN.out; omega
      case rel => exact ⟨_, i + 1, ⟨_, XF⟩, rfl, by omega, rfl, by go_num, rfl, Go.Lib.hid (by rw [HT.out, List.flatMap_append]; exact HO2.out)⟩
    · obtain rfl : i = 4 := by omega
      have hO := HO.out
      have e4 : lJ.take 4 = lJ := rfl
      rw [e4] at hO
      obtain ⟨ra, rc, e, hR⟩ := reqs_of_own lJ hO
      have e' : v = .slice ra 4 rc := e
      subst e'
      have HR := Go.Lib.hid hR
      clear hO e4 e hR
      go_wp2_with fail
      have HA : Hid (Ints (z.on.alloc (.cells #[.int .i64 0, .int .i64 1, .int .i64 2, .int .i64 3] 3)) (some ⟨z.on.heap.size, 0, none⟩) 4 l4) := Go.Lib.hid (Ints.ofHeap (t := 3) (xs := l4) (heap_alloc_new z.on _) (by decide) (fun x hx => by simp [l4] at hx; unfold I64; omega))
      obtain ⟨rb, ro, rfl, hrb, hc⟩ := HR.out.at_ 2 (by decide)
      have q0 : z.on.cell? ⟨rb, ro + 12, none⟩ = some (.int .i64 1) := hc 0 _ rfl
      have q1 : z.on.cell? ⟨rb, ro + 12 + 1, none⟩ = some (.int .i64 3) := hc 1 _ rfl
      have q2 : z.on.cell? ⟨rb, ro + 12 + 2, none⟩ = some (.int .i64 6) := hc 2 _ rfl
      have q3 : z.on.cell? ⟨rb, ro + 12 + 3, none⟩ = some (.string ByteArray.empty) := hc 3 _ rfl
      have q4 : z.on.cell? ⟨rb, ro + 12 + 4, none⟩ = some (.float .f64 0) := hc 4 _ rfl
      have q5 : z.on.cell? ⟨rb, ro + 12 + 5, none⟩ = some (.int .i64 6) := hc 5 _ rfl
      clear hc
      refine (saga_New _ 4 l4 l4_ok (some ⟨rb, ro, none⟩) rc lJ lJ_ok lJ_asked (by decide) _ HA.out (HR.out.extN (by (repeat (first | with_reducible exact Ext.refl _ _ | assumption | with_reducible refine Ext.upN ?_ | with_reducible refine Ext.alloc ?_ _ | with_reducible refine Ext.upA (by assumption) ?_ | with_reducible refine Ext.upW ?_ | with_reducible refine Ext.drew ?_ | with_reducible refine Ext.drewN ?_ _ | with_reducible refine Ext.upF ?_ | with_reducible refine Ext.upFF (by first | omega | simp) ?_ | with_reducible refine Ext.setCellsF _ _ _ (by first | omega | simp) ?_ | with_reducible refine Ext.setCellF _ _ _ (by first | omega | simp) ?_ | with_reducible refine Ext.upFN (by first | omega | simp) ?_ | with_reducible refine Ext.up1F (by first | omega | simp) ?_ | with_reducible refine Ext.up1N (by first | omega | simp) ?_ | with_reducible refine Ext.setCell ?_ (.inr (by first | omega | simp)) _ | refine Ext.alloc ?_ _ | refine Ext.setCellF _ _ _ (by first | omega | simp) ?_ | refine Ext.setCell ?_ (.inr (by first | omega | simp)) _))))).mono ?_
      rintro e _ ⟨s, v1, v2, bs, rfl, hS, hx⟩
      obtain ⟨x5, rfl⟩ := hx.ew
      have HS := Go.Lib.hid hS
      clear hS hx
      go_wp2_with fail
      refine (saga_Conf_yes _ s v1 v2 l4 lJ bs l4_ok (by decide) (fun q hq => ⟨by have := lJ_asked q hq; unfold askedB at this; simpa using this, (lJ_ok q hq).x⟩) 1 (by omega) (by decide) _ HS.out).mono ?_
      rintro e _ ⟨ca, cc, rfl, hI, hx⟩
      obtain ⟨x6, rfl⟩ := hx.ew
      rw [lJ_mem]
      clear hI hx
      go_wp2_with fail
      refine (saga_Outcome _ s v1 v2 l4 lJ bs (by decide) lJ_ok 1 3 6 ByteArray.empty 0 6 (lJ_ok (qJ 2) (by simp [lJ])) _ (HS.out.extN (by (repeat (first | with_reducible exact Ext.refl _ _ | assumption | with_reducible refine Ext.upN ?_ | with_reducible refine Ext.alloc ?_ _ | with_reducible refine Ext.upA (by assumption) ?_ | with_reducible refine Ext.upW ?_ | with_reducible refine Ext.drew ?_ | with_reducible refine Ext.drewN ?_ _ | with_reducible refine Ext.upF ?_ | with_reducible refine Ext.upFF (by first | omega | simp) ?_ | with_reducible refine Ext.setCellsF _ _ _ (by first | omega | simp) ?_ | with_reducible refine Ext.setCellF _ _ _ (by first | omega | simp) ?_ | with_reducible refine Ext.upFN (by first | omega | simp) ?_ | with_reducible refine Ext.up1F (by first | omega | simp) ?_ | with_reducible refine Ext.up1N (by first | omega | simp) ?_ | with_reducible refine Ext.setCell ?_ (.inr (by first | omega | simp)) _ | refine Ext.alloc ?_ _ | refine Ext.setCellF _ _ _ (by first | omega | simp) ?_ | refine Ext.setCell ?_ (.inr (by first | omega | simp)) _))))).mono ?_
      rintro e _ ⟨rfl, hx⟩
      obtain ⟨x7, rfl⟩ := hx.ew
      have e2 : outI ⟨1, 3, ⟨6, ByteArray.empty, 0, 6⟩⟩ (stepsL (newL l4) lJ) = some 2 := lJ_out
      rw [e2]
      clear hx e2
      have ev : outV (stepsL (newL l4) lJ) (some 2) = .tuple #[.int .i64 3, .agg #[.int .i64 ((stepsL (newL l4) lJ).getD 2 zeroSp).code, .float .f64 ((stepsL (newL l4) lJ).getD 2 zeroSp).real], .bool true] := rfl
      rw [ev]
      clear ev
      generalize ((stepsL (newL l4) lJ).getD 2 zeroSp).code = cd
      generalize ((stepsL (newL l4) lJ).getD 2 zeroSp).real = rl
      go_wp2_with fail
      refine Calls.ew (saga_Len _ s v1 v2 l4 lJ bs _ (HS.out.extN (by (repeat (first | with_reducible exact Ext.refl _ _ | assumption | with_reducible refine Ext.upN ?_ | with_reducible refine Ext.alloc ?_ _ | with_reducible refine Ext.upA (by assumption) ?_ | with_reducible refine Ext.upW ?_ | with_reducible refine Ext.drew ?_ | with_reducible refine Ext.drewN ?_ _ | with_reducible refine Ext.upF ?_ | with_reducible refine Ext.upFF (by first | omega | simp) ?_ | with_reducible refine Ext.setCellsF _ _ _ (by first | omega | simp) ?_ | with_reducible refine Ext.setCellF _ _ _ (by first | omega | simp) ?_ | with_reducible refine Ext.upFN (by first | omega | simp) ?_ | with_reducible refine Ext.up1F (by first | omega | simp) ?_ | with_reducible refine Ext.up1N (by first | omega | simp) ?_ | with_reducible refine Ext.setCell ?_ (.inr (by first | omega | simp)) _ | refine Ext.alloc ?_ _ | refine Ext.setCellF _ _ _ (by first | omega | simp) ?_ | refine Ext.setCell ?_ (.inr (by first | omega | simp)) _))))) ?_
      rintro e x8 rfl
      have el : lJ.length = 4 := rfl
      rw [el]
      go_wp2
      go_ret
      exact ⟨rfl, by (repeat (first | with_reducible exact Ext.refl _ _ | assumption | with_reducible refine Ext.upN ?_ | with_reducible refine Ext.alloc ?_ _ | with_reducible refine Ext.upA (by assumption) ?_ | with_reducible refine Ext.upW ?_ | with_reducible refine Ext.drew ?_ | with_reducible refine Ext.drewN ?_ _ | with_reducible refine Ext.upF ?_ | with_reducible refine Ext.upFF (by first | omega | simp) ?_ | with_reducible refine Ext.setCellsF _ _ _ (by first | omega | simp) ?_ | with_reducible refine Ext.setCellF _ _ _ (by first | omega | simp) ?_ | with_reducible refine Ext.upFN (by first | omega | simp) ?_ | with_reducible refine Ext.up1F (by first | omega | simp) ?_ | with_reducible refine Ext.up1N (by first | omega | simp) ?_ | with_reducible refine Ext.setCell ?_ (.inr (by first | omega | simp)) _ | refine Ext.alloc ?_ _ | refine Ext.setCellF _ _ _ (by first | omega | simp) ?_ | refine Ext.setCell ?_ (.inr (by first | omega | simp)) _))⟩
end Go.Proofs.Ytekbonciafbjiaa
