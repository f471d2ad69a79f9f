/- Joined texts: OpenG. What each proves stands at its head; no conditions beside those in its theorems. -/
import Derived.Deep.MidRow
import Derived.Deep.WholeRow
import Derived.Shelf.SlMaps.Clone
import Derived.Test.YtfefeepljbfcdaaGreatPjBS
/- Layer 12: the program opens any bytes: what it takes is a ledger's bytes, and these alone. -/
namespace Go.Proofs.YtfefeepljbfcdaaGreat
open Go.RowKit Go.Lib F64
set_option linter.unusedSimpArgs false
set_option linter.unusedVariables false
attribute [local go_sem] run_store_float
attribute [local go_sem low] EW.cellN EW.frozN alloc_cell_or alloc_froz_or EW.cellF EW.frozF EW.cell1 EW.froz1
attribute [local go_sem] relAt relUpon relAtT relUponT
attribute [local go_sem low] EW.cellO EW.frozO
def IsLedg (t : List UInt8) : Prop := ∃ g, Inv g ∧ NdK g.keys ∧ t = ledgT g
set_option maxHeartbeats 4000000 in
set_option maxRecDepth 100000 in
theorem ledger_Open_no (t : List UInt8) (hl : t.length ≤ 4611686018427387904) (hno : ¬ IsLedg t) (w : World) : Calls Tryz.prog 10 #[.string (sB t)] w fun e w' =>
  e = .returned (.tuple #[.pointer none, .int .i64 5]) ∧ Ext Non w w' := by
 have hmm := @run_makeMap Tryz.prog
 have KR : Hid (∀ w, Calls Tryz.prog 34 #[.string (sB t)] w fun e w' => ∃ b, e = .returned (.pointer (some ⟨b, 0, none⟩)) ∧ Ext Non w w' ∧ RdG w' b ⟨t, false⟩ ∧ w.heap.size ≤ b) := hI_ (fun w => rdg_Read _ hl w)
 have KT : Hid (∀ b m g w, Inv g → LD w b m g → ¬ (ledgS g).toList = (sB t).toList ∧ Calls Tryz.prog 12 #[.pointer (some ⟨b, 0, none⟩)] w fun e w' => e = .returned (.string (ledgS g)) ∧ Ext Non w w') := hI_ (fun b m g w I h => ⟨toList_ne (fun e => hno ⟨g, I, h.mp.nodup, by
  rw [ledgS_of I h.mp.nodup] at e
  exact (sB_inj e).symm⟩), ledger_Text b m g I w h⟩)
 have KD := hI_ (fun b m rb h1 h2 h3 w h4 h5 h6 => read_any b m rb ⟨t, false⟩ h1 h2 h3 w h4 h5 h6)
 clear hl hno
 obtain ⟨tt, htt⟩ : ∃ tt, tt = sB t := ⟨_, rfl⟩
 rw [← htt] at KR KT ⊢
 clear htt
 go_enter Tryz.func10, Tryz.ntmps10
 go_wp2_with fail
 have XA0 : Ext Non w (w.alloc (.map #[] 0)) := (Ext.refl _ _).alloc _
 have hM0 : (w.alloc (.map #[] 0)).heap[w.heap.size]? = some (.map #[] 0) := heap_alloc_new w _
 have hB0 := Bx.newAt (w.alloc (.map #[] 0)) (rowR 0 (.slice none 0 0) (.slice none 0 0) 0 w.heap.size) 64 (w.heap.size + 1) (by simp)
 have XB0 : Ext Non (w.alloc (.map #[] 0)) ((w.alloc (.map #[] 0)).alloc (.cells (rowR 0 (.slice none 0 0) (.slice none 0 0) 0 w.heap.size).toArray 64)) := (Ext.refl _ _).alloc _
 have HM : Hid (MapW ((w.alloc (.map #[] 0)).alloc (.cells (rowR 0 (.slice none 0 0) (.slice none 0 0) 0 w.heap.size).toArray 64)) w.heap.size []) := hI_ ⟨#[], 0, (XB0.block _ (Array.getElem?_eq_some_iff.1 hM0).1 (fun f => f)).trans hM0, Go.MapKept.stamped_empty 0, rfl⟩
 have HB := hI_ hB0
 have XA := hI_ (XA0.trans XB0)
 clear hM0 hB0 XA0 XB0
 unfold rowR clRow clO at HB HM XA
 simp only [List.range, List.range.loop, List.flatMap_cons, List.flatMap_nil, List.cons_append, List.nil_append] at HB HM XA
 generalize (w.alloc (.map #[] 0)).alloc _ = w2 at *
 refine (KR.out _).mono ?_
 rintro e w3 ⟨rb, rfl, x3, hR, hrb⟩
 have hb2 : w.heap.size + 1 < w2.heap.size := HB.out.lt
 have HB3 : Bx w3 (w.heap.size + 1) (rowR 0 (.slice none 0 0) (.slice none 0 0) 0 w.heap.size) 64 := HB.out.extN x3
 have HM3 := HM.out.ext x3 (fun f => f)
 have KD1 := hI_ (KD.out (w.heap.size + 1) w.heap.size rb (by omega) (by omega) (by omega) w3 HB3 HM3 hR)
 have X3 := hI_ (XA.out.trans x3)
 have HRB : Hid (w.heap.size ≤ rb) := hI_ (by omega)
 clear hb2 HB3 HM3 x3 hR hrb HB HM XA KD KR
 go_wp2_with fail
 refine KD1.out.mono ?_
 rintro e w4 ⟨v, rfl, x4, hg⟩
 have X4 := hI_ (X3.out.step x4 (fun i hi q => by have := HRB.out; rcases q with q | q | q <;> omega))
 have HG := hI_ hg
 clear x4 hg
 cases v
 ·go_wp2
  go_returns
  exact ⟨rfl, X4.out⟩
 ·obtain ⟨g, I, hL⟩ := HG.out rfl
  obtain ⟨hne, kt⟩ := KT.out _ _ g w4 I hL
  have h4 : ((ledgS g).toList == tt.toList) = false := by rw [beq_eq_false_iff_ne]; exact hne
  have h5 : ((ledgS g).toList != tt.toList) = true := by unfold bne; rw [h4]; rfl
  have KTT := hI_ kt
  clear kt hL I HG KT KD1
  generalize ledgS g = ls at *
  go_wp2_with fail
  refine KTT.out.mono ?_
  rintro e w5 ⟨rfl, x5⟩
  go_wp2
  go_returns
  exact ⟨rfl, X4.out.trans x5⟩
end Go.Proofs.YtfefeepljbfcdaaGreat
