/- Joined texts: OpenL. What each proves stands at its head; no conditions beside those in its theorems. -/
import Derived.Test.YtfefeepljbfcdaaPjAA
import Derived.Test.YtfefeepljbfcdaaPjAB
import Derived.Test.YtfefeepljbfcdaaPjAC
import Derived.Test.YtfefeepljbfcdaaPjAE
import Derived.Test.YtfefeepljbfcdaaPjAI
import Derived.Test.YtfefeepljbfcdaaPjAM
import Derived.Test.YtfefeepljbfcdaaPjAF
import Derived.Test.YtfefeepljbfcdaaPjAJ
import Derived.Test.YtfefeepljbfcdaaPjAK
import Derived.Test.YtfefeepljbfcdaaPjAN
import Derived.Test.YtfefeepljbfcdaaPjAR
import Derived.Test.YtfefeepljbfcdaaPjAS
import Derived.Test.YtfefeepljbfcdaaPjAG
import Derived.Test.YtfefeepljbfcdaaPjAL
import Derived.Test.YtfefeepljbfcdaaPjAO
import Derived.Test.YtfefeepljbfcdaaPjBC
import Derived.Test.YtfefeepljbfcdaaPjBD
import Derived.Test.YtfefeepljbfcdaaPjAD
import Derived.Test.YtfefeepljbfcdaaPjAP
import Derived.Test.YtfefeepljbfcdaaPjAT
import Derived.Test.YtfefeepljbfcdaaPjAU
import Derived.Test.YtfefeepljbfcdaaPjAV
import Derived.Test.YtfefeepljbfcdaaPjAW
import Derived.Test.YtfefeepljbfcdaaPjAX
import Derived.Test.YtfefeepljbfcdaaPjAY
import Derived.Test.YtfefeepljbfcdaaPjAZ
import Derived.Test.YtfefeepljbfcdaaPjBA
import Derived.Test.YtfefeepljbfcdaaPjBF
import Derived.Test.YtfefeepljbfcdaaPjBG
import Derived.Test.YtfefeepljbfcdaaPjAH
import Derived.Test.YtfefeepljbfcdaaPjBI
import Derived.Test.YtfefeepljbfcdaaPjBJ
import Derived.Test.YtfefeepljbfcdaaPjBK
import Derived.Test.YtfefeepljbfcdaaPjBL
import Derived.Test.YtfefeepljbfcdaaPjBM
import Derived.Test.YtfefeepljbfcdaaPjBN
/- Layer 12: the program opens a ledger's bytes. -/
namespace Go.Proofs.Ytfefeepljbfcdaa
open Go.RowKit Go.Lib F64
set_option linter.unusedSimpArgs false
set_option linter.unusedVariables false
attribute [local go_sem] run_store_float
attribute [local go_sem low] EW.cellN EW.frozN alloc_cell_or alloc_froz_or EW.cellF EW.frozF EW.cell1 EW.froz1
theorem ledg_small {g : Lg} (I : Inv g) : (ledgT g).length ≤ 4611686018427387904 := by
  obtain ⟨p1, p2, p3, p4⟩ := ledgT_parts I
  have hc := confT_len g.epoch g.mem
  have : (ledgT g).length ≤ 1000 := by
    unfold ledgT textB
    simp only [List.length_append, big1_len, big2_len, big4_len, flat_one]
    omega
  omega
set_option maxHeartbeats 1000000 in
set_option maxRecDepth 100000 in
theorem ledger_Open_ok (g : Lg) (I : Inv g) (nd : NdK g.keys) (w : World) : Calls Try.prog 29 #[.string (sB (ledgT g))] w fun e w' =>
    ∃ b m, e = .returned (.tuple #[.pointer (some ⟨b, 0, none⟩), .int .i64 0]) ∧ Ext Non w w' ∧ LD w' b m (srtL g) ∧ w.heap.size ≤ b ∧ w.heap.size ≤ m := by
  have hmm := @run_makeMap Try.prog
  have hl := ledg_small I
  have KR : Hid (∀ w, Calls Try.prog 59 #[.string (sB (ledgT g))] w fun e w' => ∃ b, e = .returned (.pointer (some ⟨b, 0, none⟩)) ∧ Ext Non w w' ∧ RdG w' b ⟨ledgT g, false⟩ ∧ w.heap.size ≤ b) := Go.Lib.hid (fun w => rdg_Read _ hl w)
  have KT : Hid (∀ b m w, LD w b m (srtL g) → Calls Try.prog 27 #[.pointer (some ⟨b, 0, none⟩)] w fun e w' => e = .returned (.string (sB (ledgT g))) ∧ Ext Non w w') := Go.Lib.hid (fun b m w h => by
    have := ledger_Text b m (srtL g) (srt_inv I) w h
    rw [ledgS_of (srt_inv I) (srt_nd nd), srt_text nd] at this
    exact this)
  have KD := Go.Lib.hid (fun b m rb h1 h2 h3 w h4 h5 h6 => read_ok b m rb g I nd h1 h2 h3 w h4 h5 h6)
  clear hl
  obtain ⟨tt, htt⟩ : ∃ tt, tt = sB (ledgT g) := ⟨_, rfl⟩
  rw [← htt] at KR KT ⊢
  clear htt
  go_enter Try.func29, Try.ntmps29
  go_wp2_with fail
  have XA0 : Ext Non w (w.alloc (.map #[] 0)) := (Ext.refl _ _).alloc _
  have hM0 : (w.alloc (.map #[] 0)).heap[w.heap.size]? = some (.map #[] 0) := heap_alloc_new w _
  have hB0 := Bx.newAt (w.alloc (.map #[] 0)) (rowR 0 (.slice none 0 0) (.slice none 0 0) 0 w.heap.size) 81 (w.heap.size + 1) (by simp)
  have XB0 : Ext Non (w.alloc (.map #[] 0)) ((w.alloc (.map #[] 0)).alloc (.cells (rowR 0 (.slice none 0 0) (.slice none 0 0) 0 w.heap.size).toArray 81)) := (Ext.refl _ _).alloc _
  have HM : Hid (MapW ((w.alloc (.map #[] 0)).alloc (.cells (rowR 0 (.slice none 0 0) (.slice none 0 0) 0 w.heap.size).toArray 81)) w.heap.size []) := Go.Lib.hid ⟨#[], 0, (XB0.block _ (Array.getElem?_eq_some_iff.1 hM0).1 (fun f => f)).trans hM0, Go.MapKept.stamped_empty 0, rfl⟩
  have HB := Go.Lib.hid hB0
  have XA := Go.Lib.hid (XA0.trans XB0)
  clear hM0 hB0 XA0 XB0
  unfold rowR clRow clO at HB HM XA
  simp only [List.range, List.range.loop, List.flatMap_cons, List.flatMap_nil, List.cons_append, List.nil_append] at HB HM XA
  generalize (w.alloc (.map #[] 0)).alloc _ = w2 at *
  refine (KR.out _).mono ?_
  rintro e w3 ⟨rb, rfl, x3, hR, hrb⟩
  have hb2 : w.heap.size + 1 < w2.heap.size := HB.out.lt
  have HB3 : Bx w3 (w.heap.size + 1) (rowR 0 (.slice none 0 0) (.slice none 0 0) 0 w.heap.size) 81 := HB.out.extN x3
  have HM3 := HM.out.ext x3 (fun f => f)
  have KD1 := Go.Lib.hid (KD.out (w.heap.size + 1) w.heap.size rb (by omega) (by omega) (by omega) w3 HB3 HM3 hR)
  have X3 := Go.Lib.hid (XA.out.trans x3)
  have HRB : Hid (w.heap.size ≤ rb) := Go.Lib.hid (by omega)
  clear hb2 HB3 HM3 x3 hR hrb HB HM XA KD KR
  go_wp2_with fail
  refine KD1.out.mono ?_
  rintro e w4 ⟨rfl, x4, hL⟩
  have HL : Hid (LD w4 (w.heap.size + 1) w.heap.size (srtL g)) := Go.Lib.hid hL
  have X4 := Go.Lib.hid (X3.out.step x4 (fun i hi q => by have := HRB.out; rcases q with q | q | q <;> omega))
  clear x4 hL
  go_wp2_with fail
  refine (KT.out _ _ _ HL.out).mono ?_
  rintro e w5 ⟨rfl, x5⟩
  go_wp2
  go_returns
  exact ⟨w.heap.size + 1, w.heap.size, rfl, X4.out.trans x5, HL.out.extN x5, Nat.le_succ _, Nat.le_refl _⟩
end Go.Proofs.Ytfefeepljbfcdaa
