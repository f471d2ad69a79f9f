/- Joined texts: Copy. What each proves stands at its head; no conditions beside those in its theorems. -/
import Derived.Deep.MidRow
import Derived.Deep.WholeRow
import Derived.Shelf.SlMaps.Clone
import Derived.Test.YtfefeepljbfcdaaPjAA
import Derived.Test.YtfefeepljbfcdaaPjAB
import Derived.Test.YtfefeepljbfcdaaPjAE
import Derived.Test.YtfefeepljbfcdaaPjAI
import Derived.Test.YtfefeepljbfcdaaPjAF
import Derived.Test.YtfefeepljbfcdaaPjAJ
import Derived.Test.YtfefeepljbfcdaaPjAK
import Derived.Test.YtfefeepljbfcdaaPjAO
import Derived.Test.YtfefeepljbfcdaaPjAP
import Derived.Test.YtfefeepljbfcdaaPjAT
import Derived.Test.YtfefeepljbfcdaaPjAU
import Derived.Test.YtfefeepljbfcdaaPjAV
import Derived.Test.YtfefeepljbfcdaaPjAW
import Derived.Test.YtfefeepljbfcdaaPjAX
import Derived.Test.YtfefeepljbfcdaaPjAY
import Derived.Test.YtfefeepljbfcdaaPjAZ
/- Contracts of layer 12 (ledger): Copy. -/
namespace Go.Proofs.Ytfefeepljbfcdaa
open Go.RowKit F64
set_option linter.unusedSimpArgs false
set_option linter.unusedVariables false
attribute [local go_sem] run_store_float

set_option maxRecDepth 100000 in
theorem maps_Clone (m : Nat) (ks : Ks) (w : World) (h : MapW w m ks) : Calls Try.prog 37 #[.map (some m)] w fun e w' => e = .returned (.map (some w.heap.size)) ∧ Ext Non w w' ∧ MapW w' w.heap.size ks := by
  obtain ⟨es, clock, hb, hr⟩ := h.ex
  have hq := fun w => run_eql_map_nil_sl (P := Try.prog) w 76 _ _ (some m) Try.underlying76
  go_enter Try.func37, Try.ntmps37
  go_wp2
  rw [run_callFunc_extern Try.func70 (by kernel_rfl) (by kernel_rfl) (by kernel_rfl) (e := Extern.MapsClone.clone) (by kernel_rfl), run_maps_clone_sl w 76 hb]
  simp only [Result.andThen]
  rw [Oper.upon_value]
  go_wp2
  rw [run_typeAssert_map_sl _ 76 20 _ _ _ Try.underlying76]
  simp only [Result.andThen]
  rw [Oper.upon_value]
  go_wp2
  go_ret
  exact ⟨rfl, (Ext.refl _ _).alloc _, ⟨es, clock, heap_alloc_new _ _, hr⟩⟩

theorem wpList_store_new {P : Program} {ops : Array Oper} {rest : List Oper} {op : Oper} {a : Act} {w : World} {Q : Exit → Act → World → Prop} (hgd : op.guard = none) (t : TypeId) (x y : Operand) (ho : op.op = .store t x y)
    (c c' : Array Value) (hx : a.eval x = .pointer (some ⟨w.heap.size, 0, none⟩)) (hy : a.eval y = .agg c') (hi : (P.info? t).map (·.size) = some c'.size) (hc : c.size = c'.size) (h1 : c'.all (·.oneCell') = true)
    (h : wpList P ops Q rest (a.put op.dst undef) (w.alloc (.cells c' t))) : wpList P ops Q (op :: rest) a (w.alloc (.cells c t)) :=
  wpList_plain hgd fun _ hK => by
    unfold Oper.wp execOp
    simp only [ho, hx, hy, Instr.storeAt, Instr.sureAddr, Sem.run_bind, Sem.run_pure, Result.andThen_ok, run_storeVar_new w t c c' hi hc h1]
    exact hK _ _ h
theorem clRow_one (cl : Nat → Cl) : ∀ v ∈ clRow cl, v.oneCell' = true := by
  intro v hv
  unfold clRow at hv
  obtain ⟨i, _, hi⟩ := List.mem_flatMap.1 hv
  simp only [List.mem_cons, List.not_mem_nil, or_false] at hi
  rcases hi with rfl | rfl | rfl <;> rfl
theorem row_one (g : Lg) (a1 : Option Addr) (c1 : Nat) (a2 : Option Addr) (c2 m : Nat) : (rowLg g a1 c1 a2 c2 m).toArray.all (·.oneCell') = true := by
  refine all_oneCell_toArray (fun v hv => ?_)
  unfold rowLg at hv
  simp only [List.mem_cons] at hv
  rcases hv with rfl | rfl | rfl | rfl | rfl | hv
  all_goals first | rfl | exact clRow_one _ v hv
theorem info_ledger : (Try.prog.info? 81).map (·.size) = some 29 := by kernel_rfl
set_option maxHeartbeats 4000000 in
set_option maxRecDepth 100000 in
theorem ledger_Copy (b m : Nat) (g : Lg) (I : Inv g) (w : World) (h : LD w b m g) : Calls Try.prog 22 #[.pointer (some ⟨b, 0, none⟩)] w fun e w' =>
    ∃ b' m', e = .returned (.pointer (some ⟨b', 0, none⟩)) ∧ Ext Non w w' ∧ LD w' b' m' g ∧ w.heap.size ≤ b' ∧ w.heap.size ≤ m' := by
  obtain ⟨a1, c1, a2, c2, r, i1, i2, f1, f2⟩ := h.ex
  have hlt := h.lt
  have hml := h.mp.lt
  have HH := Go.Lib.hid h
  have I1 := Go.Lib.hid i1; have I2 := Go.Lib.hid i2; have T1 := Go.Lib.hid f1; have T2 := Go.Lib.hid f2
  have B1 := Go.Lib.hid (show g.mem.length * 8 ≤ 140737488355328 by have := (members_facts I.mm).2.2.2; omega)
  have B2 := Go.Lib.hid (show g.next.length * 8 ≤ 140737488355328 by have := (members_facts I.mn).2.2.2; omega)
  have q1 : w.cell? ⟨b, 1, none⟩ = some (.slice a1 g.mem.length c1) := cell_of_heap r rfl
  have q2 : w.cell? ⟨b, 2, none⟩ = some (.slice a2 g.next.length c2) := cell_of_heap r rfl
  have q4 : w.cell? ⟨b, 4, none⟩ = some (.map (some m)) := cell_of_heap r rfl
  have i29 := info_ledger
  generalize hR : rowLg g a1 c1 a2 c2 m = R at r
  have HR := Go.Lib.hid hR
  have rl : w.rangeAt b 0 R := fun j v hv => cell_of_heap r (by simpa using hv)
  have s29 : R.length = 29 := by rw [← hR]; rfl
  have ro : R.toArray.all (·.oneCell') = true := by rw [← hR]; exact row_one _ _ _ _ _ _
  have HF : Hid (w.rangeAt b 0 R ∧ R.toArray.all (·.oneCell') = true ∧ R.length = 29 ∧ (Try.prog.info? 81).map (·.size) = some 29) := Go.Lib.hid ⟨rl, ro, s29, i29⟩
  clear h hR r i1 i2 f1 f2 rl ro s29 i29
  go_enter Try.func22, Try.ntmps22
  go_upto_region 3 with fail
  have hld : (Try.prog.info? 81).map (·.size) = some R.length := HF.out.2.2.2.trans (by rw [HF.out.2.2.1])
  have HL := Go.Lib.hid hld; clear hld
  go_upto_region 4 with (first
    | refine wpList_load_mid rfl 81 _ rfl b 0 rfl R _ HF.out.1 Try.underlying81 rfl HL.out ?_
    | refine wpList_store_new rfl 81 _ _ rfl _ R.toArray rfl rfl (by rw [HL.out]; simp) (by simp [HF.out.2.2.1]) HF.out.2.1 ?_)
  have AL : Ext Non w (w.alloc (.cells R.toArray 81)) := (Ext.refl _ _).alloc _
  have r1 : (w.alloc (.cells R.toArray 81)).heap[w.heap.size]? = some (.cells R.toArray 81 (0, 0)) := heap_alloc_new w _
  have hk : w.heap.size < (w.alloc (.cells R.toArray 81)).heap.size := by simp
  generalize w.alloc (.cells R.toArray 81) = W1 at *
  generalize hkk : w.heap.size = k at *
  have hbk : b < k := hlt
  have hmk : m < k := hml
  have R1 := Go.Lib.hid r1; clear r1
  have K : Hid (∀ W', Ext (One k) W1 W' → W'.cell? ⟨b, 1, none⟩ = some (.slice a1 g.mem.length c1) ∧ W'.cell? ⟨b, 2, none⟩ = some (.slice a2 g.next.length c2) ∧ W'.cell? ⟨b, 4, none⟩ = some (.map (some m))) := Go.Lib.hid (fun W' x => by
    have t : ∀ {j v}, w.cell? ⟨b, j, none⟩ = some v → W'.cell? ⟨b, j, none⟩ = some v := fun {j v} hc =>
      (x.cell (p := ⟨b, j, none⟩) (Nat.lt_trans hbk hk) (fun e => by have e : b = k := e; omega)).trans ((AL.cell (p := ⟨b, j, none⟩) (by rw [hkk]; exact hbk) (fun f => f)).trans hc)
    exact ⟨t q1, t q2, t q4⟩)
  obtain ⟨u1, u2, u3⟩ := K.out _ (Ext.refl _ _)
  clear q1 q2 q4
  have nk : ∀ (W : World) (cs : List Value), W.heap[k]? = some (.cells cs.toArray 81 (0, 0)) → NoInts (One k) W := fun W cs hh j s vs fr e => by
    have s : j = k := s
    subst s
    rw [hh] at e; cases e
  have NK := Go.Lib.hid nk; clear nk
  have AL' := Go.Lib.hid AL
  clear AL
  go_wp2_with fail
  refine (slices_Clone _ _ _ B1.out _ (I1.out.extN AL'.out)).mono ?_
  rintro e w2 ⟨a1', c1', rfl, x2, j1, g1⟩
  have R2 := Go.Lib.hid ((x2.block k hk id).trans R1.out)
  have l1 : (1 : Nat) < R.length := by have := HF.out.2.2.1; omega
  have p1 : w2.cell? ⟨k, 1, none⟩ = some R[1] := cell_of_heap R2.out (List.getElem?_eq_getElem l1)
  have z1 : w2.frozen? ⟨k, 1, none⟩ = false := froz_of_heap R2.out
  generalize R[1] = v1 at p1
  have R3 := Go.Lib.hid (heap_set_same (k := 1) R2.out (.slice a1' g.mem.length c1'))
  have x3 : Ext (One k) w2 (w2.setCell ⟨k, 1, none⟩ (.slice a1' g.mem.length c1')) := (Ext.refl (One k) w2).set1 _
  have X3 := Go.Lib.hid ((x2.ofNon (S := One k)).trans x3)
  have N2 := Go.Lib.hid (NK.out _ _ R2.out)
  have J1 := Go.Lib.hid (And.intro (j1.extT g1.typed x3 N2.out) (g1.typed.ext x3 N2.out))
  obtain ⟨u1', u2', u3'⟩ := K.out _ X3.out
  have I2' := Go.Lib.hid ((((I2.out.extN AL'.out).extN x2).extT ((T2.out.ext AL'.out (NoInts.non _)).ext x2 (NoInts.non _)) x3 N2.out))
  have hne : b ≠ k := by omega
  have hs3 : k < (w2.setCell ⟨k, 1, none⟩ (.slice a1' g.mem.length c1')).heap.size := (Array.getElem?_eq_some_iff.1 R3.out).1
  clear x2 j1 g1 x3
  go_wp2_with fail
  generalize hW3 : w2.setCell ⟨k, 1, none⟩ (.slice a1' g.mem.length c1') = W3 at *
  refine (slices_Clone _ _ _ B2.out _ I2'.out).mono ?_
  rintro e w4 ⟨a2', c2', rfl, x4, j2, g2⟩
  have R4 := Go.Lib.hid ((x4.block k hs3 id).trans R3.out)
  have l2 : (2 : Nat) < (R.set 1 (.slice a1' g.mem.length c1')).length := by have := HF.out.2.2.1; simp; omega
  have p2 : w4.cell? ⟨k, 2, none⟩ = some ((R.set 1 (.slice a1' g.mem.length c1'))[2]) := cell_of_heap R4.out (List.getElem?_eq_getElem l2)
  have z2 : w4.frozen? ⟨k, 2, none⟩ = false := froz_of_heap R4.out
  generalize (R.set 1 (.slice a1' g.mem.length c1'))[2] = v2 at p2
  have R5 := Go.Lib.hid (heap_set_same (k := 2) R4.out (.slice a2' g.next.length c2'))
  have x5 : Ext (One k) w4 (w4.setCell ⟨k, 2, none⟩ (.slice a2' g.next.length c2')) := (Ext.refl (One k) w4).set1 _
  have X5 := Go.Lib.hid (X3.out.trans ((x4.ofNon (S := One k)).trans x5))
  have N4 := Go.Lib.hid (NK.out _ _ R4.out)
  have J2 := Go.Lib.hid (And.intro (j2.extT g2.typed x5 N4.out) (g2.typed.ext x5 N4.out))
  have J1' := Go.Lib.hid (And.intro ((J1.out.1.extN x4).extT (J1.out.2.ext x4 (NoInts.non _)) x5 N4.out) ((J1.out.2.ext x4 (NoInts.non _)).ext x5 N4.out))
  obtain ⟨u1'', u2'', u3''⟩ := K.out _ X5.out
  have hs5 : k < (w4.setCell ⟨k, 2, none⟩ (.slice a2' g.next.length c2')).heap.size := (Array.getElem?_eq_some_iff.1 R5.out).1
  have M5 := Go.Lib.hid ((HH.out.mp.ext AL'.out (fun f => f)).ext X5.out (fun e => by have e : m = k := e; omega))
  clear x4 j2 g2 x5 u1' u2' u3' u1 u2 u3
  go_wp2_with fail
  generalize hW5 : w4.setCell ⟨k, 2, none⟩ (.slice a2' g.next.length c2') = W5 at *
  refine (maps_Clone _ _ _ M5.out).mono ?_
  rintro e w6 ⟨rfl, x6, m6⟩
  have R6 := Go.Lib.hid ((x6.block k hs5 id).trans R5.out)
  have l4 : (4 : Nat) < ((R.set 1 (.slice a1' g.mem.length c1')).set 2 (.slice a2' g.next.length c2')).length := by have := HF.out.2.2.1; simp; omega
  have p4 : w6.cell? ⟨k, 4, none⟩ = some (((R.set 1 (.slice a1' g.mem.length c1')).set 2 (.slice a2' g.next.length c2'))[4]) := cell_of_heap R6.out (List.getElem?_eq_getElem l4)
  have z4 : w6.frozen? ⟨k, 4, none⟩ = false := froz_of_heap R6.out
  generalize ((R.set 1 (.slice a1' g.mem.length c1')).set 2 (.slice a2' g.next.length c2'))[4] = v4 at p4
  have R7 := Go.Lib.hid (heap_set_same (k := 4) R6.out (.map (some W5.heap.size)))
  have x7 : Ext (One k) w6 (w6.setCell ⟨k, 4, none⟩ (.map (some W5.heap.size))) := (Ext.refl (One k) w6).set1 _
  have X7 := Go.Lib.hid (X5.out.trans ((x6.ofNon (S := One k)).trans x7))
  have N6 := Go.Lib.hid (NK.out _ _ R6.out)
  have J1'' := Go.Lib.hid (And.intro ((J1'.out.1.extN x6).extT (J1'.out.2.ext x6 (NoInts.non _)) x7 N6.out) ((J1'.out.2.ext x6 (NoInts.non _)).ext x7 N6.out))
  have J2'' := Go.Lib.hid (And.intro ((J2.out.1.extN x6).extT (J2.out.2.ext x6 (NoInts.non _)) x7 N6.out) ((J2.out.2.ext x6 (NoInts.non _)).ext x7 N6.out))
  have M7 := Go.Lib.hid (m6.ext x7 (fun e => by have e : W5.heap.size = k := e; omega))
  have X0 := Go.Lib.hid (AL'.out.step X7.out (fun i hi s => by have s : i = k := s; omega))
  clear x6 m6 x7 u1'' u2'' u3''
  go_wp2
  go_returns
  refine ⟨k, W5.heap.size, rfl, X0.out, ⟨⟨a1', c1', a2', c2', ?_, J1''.out.1, J2''.out.1, J1''.out.2, J2''.out.2⟩, M7.out⟩, Nat.le_of_eq hkk, by rw [hkk]; exact Nat.le_of_lt hs5⟩
  have := R7.out
  rw [← HR.out] at this
  exact this
end Go.Proofs.Ytfefeepljbfcdaa
