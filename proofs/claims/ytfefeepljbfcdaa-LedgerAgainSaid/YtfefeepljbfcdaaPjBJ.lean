/- Joined texts: Res11. What each proves stands at its head; no conditions beside those in its theorems. -/
import Derived.Test.YtfefeepljbfcdaaPjAA
import Derived.Test.YtfefeepljbfcdaaPjAB
import Derived.Test.YtfefeepljbfcdaaPjAC
import Derived.Test.YtfefeepljbfcdaaPjAE
import Derived.Test.YtfefeepljbfcdaaPjAI
import Derived.Test.YtfefeepljbfcdaaPjAM
import Derived.Test.YtfefeepljbfcdaaPjAF
import Derived.Test.YtfefeepljbfcdaaPjAJ
import Derived.Test.YtfefeepljbfcdaaPjAK
import Derived.Test.YtfefeepljbfcdaaPjAN
import Derived.Test.YtfefeepljbfcdaaPjAR
import Derived.Test.YtfefeepljbfcdaaPjAS
import Derived.Test.YtfefeepljbfcdaaPjAG
import Derived.Test.YtfefeepljbfcdaaPjAL
import Derived.Test.YtfefeepljbfcdaaPjAO
import Derived.Test.YtfefeepljbfcdaaPjBC
import Derived.Test.YtfefeepljbfcdaaPjBD
import Derived.Test.YtfefeepljbfcdaaPjAD
import Derived.Test.YtfefeepljbfcdaaPjAP
import Derived.Test.YtfefeepljbfcdaaPjAT
import Derived.Test.YtfefeepljbfcdaaPjAU
import Derived.Test.YtfefeepljbfcdaaPjAV
import Derived.Test.YtfefeepljbfcdaaPjAW
import Derived.Test.YtfefeepljbfcdaaPjAX
import Derived.Test.YtfefeepljbfcdaaPjAY
import Derived.Test.YtfefeepljbfcdaaPjAZ
import Derived.Test.YtfefeepljbfcdaaPjBA
import Derived.Test.YtfefeepljbfcdaaPjBF
import Derived.Test.YtfefeepljbfcdaaPjBG
import Derived.Test.YtfefeepljbfcdaaPjAH
import Derived.Test.YtfefeepljbfcdaaPjBI
/- Layers 7 and 11: the program reads a result, a configuration (of bytes that are one's). -/
namespace Go.Proofs.Ytfefeepljbfcdaa
open Go.RowKit Go.Lib F64
set_option linter.unusedSimpArgs false
set_option linter.unusedVariables false
attribute [local go_sem] run_store_float
attribute [local go_sem low] EW.cellN EW.frozN alloc_cell_or alloc_froz_or EW.cellF EW.frozF EW.cell1 EW.froz1
attribute [local go_sem] relAt relUpon relAtT relUponT
attribute [local go_sem low] EW.cellO EW.frozO
set_option maxHeartbeats 1000000 in
set_option maxRecDepth 100000 in
theorem deeds_ReadResult_ok (t : List UInt8) (hs : t.length ≤ 4611686018427387904) (hb : readXB t = true) (w : World) : Calls Try.prog 96 #[.string (sB t)] w fun e w' =>
    e = .returned (.tuple #[.agg #[.int .i64 (xCd t), .float .f64 (xBits t)], .int .i64 0]) ∧ Ext Non w w' := by
  have hb2 := hb
  unfold readXB at hb2
  simp only [Bool.and_eq_true, decide_eq_true_eq] at hb2
  obtain ⟨⟨hf, he⟩, h8⟩ := hb2
  have hnb : (xR2 t).bad = false := by
    cases h : (xR2 t).bad
    · rfl
    · unfold endE at he; rw [if_pos h] at he; cases he
  have KS : Hid (∀ w, Calls Try.prog 112 #[.string ⟨#[98, 113]⟩, .string (sB t)] w fun e w' => Ext Non w w' ∧ ∃ k cap, e = .returned (.tuple #[.slice (some ⟨k, 0, none⟩) 2 cap, .int .i64 0]) ∧ k < w'.heap.size ∧ w'.cell? ⟨k, 0, none⟩ = some (.int .i64 (xCd t)) ∧ w'.cell? ⟨k, 4, none⟩ = some (.int .u64 (xBits t))) := Go.Lib.hid (fun w => (scan_bq t hs hnb w).mono fun e w' ⟨h1, h2, _⟩ => ⟨h1, h2 he⟩)
  have hcd : 0 ≤ xCd t := by unfold xCd; omega
  have KF : Hid (∀ w, Calls Try.prog 85 #[.int .u64 (xBits t)] w fun e w' => e = .returned (.tuple #[.float .f64 (xBits t), .bool true]) ∧ w = w') := Go.Lib.hid (fun w => (reals_From (xBits t) w).mono fun e w' ⟨h1, h2⟩ => ⟨by rw [h1, hf]; unfold fromN; rw [if_pos hf], h2⟩)
  have hw : withinB (xCd t) 0 8 = true := by unfold withinB; simp [hcd, h8]
  have KW : Hid (∀ w, Calls Try.prog 60 #[.int .i64 (xCd t), .int .i64 0, .int .i64 8] w fun e w' => e = .returned (.bool true) ∧ w = w') := Go.Lib.hid (fun w => by rw [← hw]; exact deeds_within _ _ _ w)
  clear hs hb hf he h8 hnb hcd hw
  generalize xCd t = cd at *
  generalize xBits t = x at *
  generalize sB t = tt at *
  have B0 := Go.Lib.hid (Bx.newAt w [.int .i64 0, .float .f64 0] 43 _ rfl)
  go_enter Try.func96, Try.ntmps96
  go_wp2_with fail
  refine (KS.out _).mono ?_
  rintro e w2 ⟨hx, k, cap, rfl, hk, c0, c4⟩
  have XA := Go.Lib.hid (((Ext.refl Non w).alloc (.cells [Value.int .i64 0, .float .f64 0].toArray 43)).trans hx)
  have B2 := Go.Lib.hid (B0.out.extN hx)
  clear hx B0
  go_wp2_with fail
  refine (KW.out _).mono ?_
  rintro e _ ⟨rfl, rfl⟩
  go_wp2_with fail
  refine (KF.out _).mono ?_
  rintro e _ ⟨rfl, rfl⟩
  have z0 : w2.cell? ⟨w.heap.size, 0, none⟩ = some (.int .i64 0) := B2.out.cell rfl
  have z1 : w2.cell? ⟨w.heap.size, 1, none⟩ = some (.float .f64 0) := B2.out.cell rfl
  have g0 : w2.frozen? ⟨w.heap.size, 0, none⟩ = false := froz_of_heap B2.out.h
  have g1 : w2.frozen? ⟨w.heap.size, 1, none⟩ = false := froz_of_heap B2.out.h
  go_wp2
  have E2 := (B2.out.set (j := 0) (.int .i64 cd)).set (j := 1) (.float .f64 x)
  have y0 := E2.cell (j := 0) rfl
  have y1 := E2.cell (j := 1) rfl
  refine bodyPost_ret (v := .tuple #[.agg #[.int .i64 cd, .float .f64 x], .int .i64 0]) (by simp [results, Try.results96, go_sem, y0, y1]) rfl ?_
  exact ⟨rfl, (XA.out.setCell (.inr (Nat.le_refl _)) _).setCell (.inr (Nat.le_refl _)) _⟩
end Go.Proofs.Ytfefeepljbfcdaa
