/- Joined texts: R12g. What each proves stands at its head; no conditions beside those in its theorems. -/
import Derived.Test.YtfefeepljbfcdaaGreatPjBG
/- The reference of layer 12 in memory: a request. -/
namespace Go.Proofs.YtfefeepljbfcdaaGreat
open Go.RowKit Go.Lib F64
set_option linter.unusedSimpArgs false
set_option linter.unusedVariables false
attribute [local go_sem] run_store_float
attribute [local go_sem low] EW.cellN EW.frozN alloc_cell_or alloc_froz_or EW.cellF EW.frozF EW.cell1 EW.froz1
attribute [local go_sem] relAt relUpon
theorem RL.put_cl {W W2 : World} {b sb rb : Nat} {G : Lg} (h : RL W b sb rb G) {i : Nat} (hi : i < 8) {st cd : Int} {rl : Nat} (x : Ext Non (W.setCell ⟨sb, i + 1, none⟩ (.int .i64 st)) W2) :
  RL ((W2.setCell ⟨rb, (i + 1) * 2, none⟩ (.int .i64 cd)).setCell ⟨rb, (i + 1) * 2 + 1, none⟩ (.float .f64 rl)) b sb rb (setCl G i ⟨st, cd, rl⟩) ∧ Ext (Tri b sb rb) W ((W2.setCell ⟨rb, (i + 1) * 2, none⟩ (.int .i64 cd)).setCell ⟨rb, (i + 1) * 2 + 1, none⟩ (.float .f64 rl)) := by
 obtain ⟨n1, n2, n3⟩ := h.ne
 obtain ⟨a1, c1, a2, c2, v, hb, i1, i2, t1, t2, hv⟩ := h.ex
 have X1 : Ext (One sb) W (W.setCell ⟨sb, i + 1, none⟩ (.int .i64 st)) := (Ext.refl _ _).set1 _
 have X3 : Ext (One rb) W2 ((W2.setCell ⟨rb, (i + 1) * 2, none⟩ (.int .i64 cd)).setCell ⟨rb, (i + 1) * 2 + 1, none⟩ (.float .f64 rl)) := ((Ext.refl _ _).set1 _).set1 _
 have hS : Bx (W.setCell ⟨sb, i + 1, none⟩ (.int .i64 st)) sb (stRow (setC G.cl i ⟨st, cd, rl⟩)) 3 := by rw [← st_set G.cl ⟨st, cd, rl⟩ hi]; exact h.st.set _
 have e1 : ∀ a, avT sb W a → (∀ k o, a = some ⟨k, o, none⟩ → ¬ One sb k) := fun a ha k o e q => (ha k o e).1 q
 have e3 : ∀ {w' : World} a, avT sb w' a → (hR : Bx w' rb (rsRow G.cl) 48) → (∀ k o, a = some ⟨k, o, none⟩ → ¬ One rb k) := fun a ha hR k o e q => by
  obtain ⟨-, us, fr, h5⟩ := ha k o e
  have q : k = rb := q
  subst q
  rw [hR.h] at h5; injection h5 with h5; injection h5 with _ h5 _
  exact absurd h5 (by decide)
 have hR2 : Bx W2 rb (rsRow G.cl) 48 := (h.rs.ext X1 (fun q => n3 q.symm)).extN x
 have hB2 := (hb.ext X1 (fun q => n1 q)).extN x
 have hS2 := hS.extN x
 have hR3 : Bx ((W2.setCell ⟨rb, (i + 1) * 2, none⟩ (.int .i64 cd)).setCell ⟨rb, (i + 1) * 2 + 1, none⟩ (.float .f64 rl)) rb (rsRow (setC G.cl i ⟨st, cd, rl⟩)) 48 := by
  rw [← rs_set G.cl ⟨st, cd, rl⟩ hi]; exact (hR2.set _).set _
 have t1' := (t1.ext X1 (e1 _ t1)).extN x
 have t2' := (t2.ext X1 (e1 _ t2)).extN x
 have v1 := ownR_extN (ownR_ext hv X1 (row_not hv h.st (by decide))) x
 refine ⟨⟨⟨a1, c1, a2, c2, v, hB2.ext X3 (fun q => n2 q), ((i1.ext X1 (e1 _ t1)).extN x).ext X3 (e3 _ t1' hR2), ((i2.ext X1 (e1 _ t2)).extN x).ext X3 (e3 _ t2' hR2), t1'.ext X3 (e3 _ t1' hR2), t2'.ext X3 (e3 _ t2' hR2), ownR_ext v1 X3 (row_not v1 hR2 (by decide))⟩, hS2.ext X3 (fun q => n3 q), hR3, h.nd⟩, ?_⟩
 have T : ∀ {S : Nat → Prop} {u u' : World}, Ext S u u' → (∀ k, S k → Tri b sb rb k) → Ext (Tri b sb rb) u u' := fun e hs => e.mono (fun k _ q => hs k q)
 exact ((T X1 (fun k q => .inr (.inl q))).trans x.ofNon).trans (T X3 (fun k q => .inr (.inr q)))
theorem one_tri {b sb rb : Nat} {w w' : World} (h : Ext (One b) w w') : Ext (Tri b sb rb) w w' := h.mono (fun k _ q => .inl q)
theorem RL.ticked {w w' : World} {b sb rb : Nat} {g : Lg} (h : RL w b sb rb g) (x : Ext Non w w') : RL (w'.setCell ⟨b, 3, none⟩ (.int .i64 (g.done + 1))) b sb rb (tick g) ∧ Ext (One b) w (w'.setCell ⟨b, 3, none⟩ (.int .i64 (g.done + 1))) := by
 have h2 := h.extN x
 obtain ⟨a1, c1, a2, c2, v, hb, i1, i2, t1, t2, hv⟩ := h2.ex
 have X3 : Ext (One b) w' (w'.setCell ⟨b, 3, none⟩ (.int .i64 (g.done + 1))) := (Ext.refl _ _).set1 _
 exact ⟨h2.upd X3 (g' := tick g) (hb.set (j := 3) _) i1 i2 t1 t2 (ownR_ext hv X3 (row_not hv hb (by decide))) rfl h2.nd, x.ofNon.trans X3⟩
theorem opB_kinds {o : Opn} (h : opB o = true) (hk : o.kind = 6 ∨ o.kind = 7) : 0 ≤ o.id ∧ o.id < 16 := by
 unfold opB at h
 rcases hk with e | e <;> (rw [e] at h; simp at h; omega)
theorem rdo_end {w W : World} {b sb rb kr : Nat} {g : Lg} {us : List Value} {v0 v1 : Value} (hB : Bx W kr us 48) (hk : w.heap.size ≤ kr) (hr : rb < w.heap.size) (hx : Ext (Tri b sb rb) w W) (hL : RL W b sb rb g) (hu : us.length = 2 := by rfl) :
  Ext (Tri b sb rb) w ((W.setCell ⟨kr, 0, none⟩ v0).setCell ⟨kr, 1, none⟩ v1) ∧ RL ((W.setCell ⟨kr, 0, none⟩ v0).setCell ⟨kr, 1, none⟩ v1) b sb rb g ∧ ((W.setCell ⟨kr, 0, none⟩ v0).setCell ⟨kr, 1, none⟩ v1).cell? ⟨kr, 0, none⟩ = some v0 ∧ ((W.setCell ⟨kr, 0, none⟩ v0).setCell ⟨kr, 1, none⟩ v1).cell? ⟨kr, 1, none⟩ = some v1 := by
 have x2 : Ext (One kr) W ((W.setCell ⟨kr, 0, none⟩ v0).setCell ⟨kr, 1, none⟩ v1) := ((Ext.refl _ _).set1 _).set1 _
 match us, hu with
 | [a0, a1], _ =>
  have B2 := (hB.set (j := 0) v0).set (j := 1) v1
  exact ⟨hx.step x2 (fun i hi e => by have e : i = kr := e; omega), hL.other hB (by decide) (by decide) (by decide) (by omega) x2, B2.cell rfl, B2.cell rfl⟩
set_option maxHeartbeats 8000000 in
set_option maxRecDepth 100000 in
theorem ref12_Do (b sb rb : Nat) (g : Lg) (I : Inv g) (c st k : Int) (key : ByteArray) (x : Nat) (id : Int) (hx64 : x < 18446744073709551616) (w : World) (h : RL w b sb rb g) : Calls Tryz.prog 22 #[.pointer (some ⟨b, 0, none⟩), .agg #[.int .i64 c, .int .i64 st, .int .i64 k, .string key, .float .f64 x, .int .i64 id]] w fun e w' =>
  e = .returned (.tuple #[.agg #[.int .i64 (doR g ⟨c, st, ⟨k, key, x, id⟩⟩).code, .float .f64 (doR g ⟨c, st, ⟨k, key, x, id⟩⟩).real], .int .i64 (doE g ⟨c, st, ⟨k, key, x, id⟩⟩)]) ∧ Ext (Tri b sb rb) w w' ∧ RL w' b sb rb (doL g ⟨c, st, ⟨k, key, x, id⟩⟩) := by
 have HH := hI_ h
 have II := hI_ I
 have HLT : Hid (b < w.heap.size ∧ rb < w.heap.size ∧ sb < w.heap.size) := hI_ ⟨h.lt.1, h.lt.2.2, h.lt.2.1⟩
 obtain ⟨a1, c1, a2, c2, v, hb, -⟩ := h.ex
 have q3 : w.cell? ⟨b, 3, none⟩ = some (.int .i64 g.done) := hb.cell rfl
 have fz3 : w.frozen? ⟨b, 3, none⟩ = false := froz_of_heap hb.h
 have hdn := I.dn; have hep := I.ep
 have wd : IntKind.i64.wrap (g.done + 1) = g.done + 1 := IntWalk.i64_in _ (by omega)
 have BQ := hI_ ((Bx.newAt w [Value.int .i64 c, .int .i64 st, .int .i64 k, .string key, .float .f64 x, .int .i64 id] 54 _ rfl).alloc (.cells #[.int .i64 0, .float .f64 0] 48))
 have BR := hI_ (Bx.newAt (w.alloc (.cells [Value.int .i64 c, .int .i64 st, .int .i64 k, .string key, .float .f64 x, .int .i64 id].toArray 54)) [.int .i64 0, .float .f64 0] 48 (w.heap.size + 1) (by simp))
 clear h I hb hdn hep
 cases hnl : nullB ⟨c, st, ⟨k, key, x, id⟩⟩
 ·have HNULL := hI_ hnl
  cases hrt : rightB ⟨c, st, ⟨k, key, x, id⟩⟩
  ·have HG : Hid (doR g ⟨c, st, ⟨k, key, x, id⟩⟩ = ⟨0, 0⟩ ∧ doE g ⟨c, st, ⟨k, key, x, id⟩⟩ = 1 ∧ doL g ⟨c, st, ⟨k, key, x, id⟩⟩ = g) := hI_ (by
    have e : doE g ⟨c, st, ⟨k, key, x, id⟩⟩ = 1 := by unfold doE; rw [hrt, hnl]; rfl
    unfold doR doL; rw [e]; exact ⟨rfl, rfl, rfl⟩)
   have HRIGHT := hI_ hrt
   clear hnl hrt q3 fz3 wd
   go_enter Tryz.func22, Tryz.ntmps22
   go_wp2_with fail
   refine Calls.ew (ref_Null c st k key x id _) ?_
   rintro e x1 rfl
   rw [HNULL.out]
   have BQ1 := hI_ (BQ.out.extN x1.ext)
   have BR1 := hI_ (BR.out.extN x1.ext)
   have XA := hI_ (exG0 : Ext Non w x1.on)
   have p0 : x1.on.cell? ⟨w.heap.size, 0, none⟩ = some (.int .i64 c) := BQ1.out.cell rfl
   have p1 : x1.on.cell? ⟨w.heap.size, 1, none⟩ = some (.int .i64 st) := BQ1.out.cell rfl
   have p2 : x1.on.cell? ⟨w.heap.size, 2, none⟩ = some (.int .i64 k) := BQ1.out.cell rfl
   have p3 : x1.on.cell? ⟨w.heap.size, 3, none⟩ = some (.string key) := BQ1.out.cell rfl
   have p4 : x1.on.cell? ⟨w.heap.size, 4, none⟩ = some (.float .f64 x) := BQ1.out.cell rfl
   have p5 : x1.on.cell? ⟨w.heap.size, 5, none⟩ = some (.int .i64 id) := BQ1.out.cell rfl
   go_wp2_with fail
   refine Calls.ew (ref_Right c st k key x id _) ?_
   rintro e x2 rfl
   rw [HRIGHT.out]
   have XB : Ext Non w x2.on := exG0
   have BRb := hI_ (BR1.out.extN (exG0 : Ext Non x1.on x2.on))
   have HLb := hI_ (HH.out.extN XB)
   have HXb := hI_ XB
   clear XB p0 p1 p2 p3 p4 p5
   generalize x2.on = w2 at *
   have u0 : w2.cell? ⟨w.heap.size + 1, 0, none⟩ = some (.int .i64 0) := BRb.out.cell rfl
   have u1 : w2.cell? ⟨w.heap.size + 1, 1, none⟩ = some (.float .f64 0) := BRb.out.cell rfl
   have f0 : w2.frozen? ⟨w.heap.size + 1, 0, none⟩ = false := froz_of_heap BRb.out.h
   have f1 : w2.frozen? ⟨w.heap.size + 1, 1, none⟩ = false := froz_of_heap BRb.out.h
   go_wp2
   obtain ⟨E1, E2, r0, r1⟩ := rdo_end (v0 := .int .i64 0) (v1 := .float .f64 0) BRb.out (by omega : w.heap.size ≤ w.heap.size + 1) HLT.out.2.1 HXb.out.ofNon HLb.out
   generalize (w2.setCell ⟨w.heap.size + 1, 0, none⟩ (.int .i64 0)).setCell ⟨w.heap.size + 1, 1, none⟩ (.float .f64 0) = w9 at *
   refine bodyPost_ret (v := .tuple #[.agg #[.int .i64 0, .float .f64 0], .int .i64 1]) (by simp [results, Tryz.results22, go_sem, r0, r1]) rfl ?_
   exact ⟨by rw [HG.out.1, HG.out.2.1], E1, by rw [HG.out.2.2]; exact E2⟩
  ·have HRIGHT := hI_ hrt
   cases hfl : fullB g
   ·have HFULL := hI_ hfl
    have hE0 : doE g ⟨c, st, ⟨k, key, x, id⟩⟩ = 0 := by unfold doE; rw [hrt, hnl, hfl]; rfl
    obtain ⟨rc1, rc8, rs1, rs2, rop⟩ := rightB_facts hrt
    have rc1 : 1 ≤ c := rc1
    have rc8 : c ≤ 8 := rc8
    have HOP : Hid (opB ⟨k, key, x, id⟩ = true) := hI_ rop
    obtain ⟨cn, rfl⟩ : ∃ cn : Nat, c = cn := ⟨c.toNat, by omega⟩
    obtain ⟨i, hi8, hcn⟩ : ∃ i, i < 8 ∧ cn = i + 1 := ⟨cn - 1, by omega, by omega⟩
    have hidx : idxR ⟨(cn : Int), st, ⟨k, key, x, id⟩⟩ = i := by unfold idxR; show ((cn : Int) - 1).toNat = i; omega
    have HCN := hI_ hcn
    have cb1 : (0 : Int) ≤ (cn : Int) := by omega
    have cb2 : (cn : Int) < 9 := by omega
    clear hcn rc1 rc8 rs1 rs2 rop
    have IT := hI_ (inv_tick II.out hfl)
    by_cases hlt : st < (g.cl i).stamp
    ·have HG : Hid (doR g ⟨(cn : Int), st, ⟨k, key, x, id⟩⟩ = ⟨7, 0⟩ ∧ doE g ⟨(cn : Int), st, ⟨k, key, x, id⟩⟩ = 0 ∧ doL g ⟨(cn : Int), st, ⟨k, key, x, id⟩⟩ = tick g) := hI_ (by
      have e0 : ¬ doE g ⟨(cn : Int), st, ⟨k, key, x, id⟩⟩ ≠ 0 := fun q => q hE0
      unfold doR doL; rw [if_neg e0, if_neg e0, hnl, if_neg (show ¬ (false = true) by simp), if_neg (show ¬ (false = true) by simp), hidx, if_pos hlt, if_pos hlt]; exact ⟨rfl, hE0, rfl⟩)
     have dl : decide (st < (g.cl i).stamp) = true := decide_eq_true hlt
     clear hnl hrt hfl hE0 hidx hlt
     go_enter Tryz.func22, Tryz.ntmps22
     go_wp2_with fail
     refine Calls.ew (ref_Null (cn : Int) st k key x id _) ?_
     rintro e x1 rfl
     rw [HNULL.out]
     have BQ1 := hI_ (BQ.out.extN x1.ext)
     have BR1 := hI_ (BR.out.extN x1.ext)
     have XA := hI_ (exG0 : Ext Non w x1.on)
     have p0 : x1.on.cell? ⟨w.heap.size, 0, none⟩ = some (.int .i64 (cn : Int)) := BQ1.out.cell rfl
     have p1 : x1.on.cell? ⟨w.heap.size, 1, none⟩ = some (.int .i64 st) := BQ1.out.cell rfl
     have p2 : x1.on.cell? ⟨w.heap.size, 2, none⟩ = some (.int .i64 k) := BQ1.out.cell rfl
     have p3 : x1.on.cell? ⟨w.heap.size, 3, none⟩ = some (.string key) := BQ1.out.cell rfl
     have p4 : x1.on.cell? ⟨w.heap.size, 4, none⟩ = some (.float .f64 x) := BQ1.out.cell rfl
     have p5 : x1.on.cell? ⟨w.heap.size, 5, none⟩ = some (.int .i64 id) := BQ1.out.cell rfl
     go_wp2_with fail
     refine Calls.ew (ref_Right (cn : Int) st k key x id _) ?_
     rintro e x2 rfl
     rw [HRIGHT.out]
     go_wp2_with fail
     refine Calls.ewD (ref12_Full b sb rb g II.out _ (HH.out.extN (exG0))) ?_
     rintro e x3 rfl
     rw [HFULL.out]
     go_upto_region 7 with fail
     obtain ⟨hL6, hX6⟩ := HH.out.ticked (exG0 : Ext Non w x3.on)
     have hbq : ¬ One b w.heap.size := fun q => by have := HLT.out.1; have : w.heap.size = b := q; omega
     have hbr : ¬ One b (w.heap.size + 1) := fun q => by have := HLT.out.1; have : w.heap.size + 1 = b := q; omega
     have XT : Ext (One b) x3.on (x3.on.setCell ⟨b, 3, none⟩ (.int .i64 (g.done + 1))) := (Ext.refl _ _).set1 _
     have BQ6 := hI_ ((BQ1.out.extN (exG0 : Ext Non x1.on x3.on)).ext XT hbq)
     have BR6 := hI_ ((BR1.out.extN (exG0 : Ext Non x1.on x3.on)).ext XT hbr)
     have HL6 := hI_ hL6
     have HX6 := hI_ hX6
     clear hL6 hX6 XT hbq hbr q3 fz3 wd
     clear p0 p1 p2 p3 p4 p5
     generalize x3.on.setCell ⟨b, 3, none⟩ (.int .i64 (g.done + 1)) = w6 at *
     have p0 : w6.cell? ⟨w.heap.size, 0, none⟩ = some (.int .i64 (cn : Int)) := BQ6.out.cell rfl
     have p1 : w6.cell? ⟨w.heap.size, 1, none⟩ = some (.int .i64 st) := BQ6.out.cell rfl
     have p2 : w6.cell? ⟨w.heap.size, 2, none⟩ = some (.int .i64 k) := BQ6.out.cell rfl
     have p3 : w6.cell? ⟨w.heap.size, 3, none⟩ = some (.string key) := BQ6.out.cell rfl
     have p4 : w6.cell? ⟨w.heap.size, 4, none⟩ = some (.float .f64 x) := BQ6.out.cell rfl
     have p5 : w6.cell? ⟨w.heap.size, 5, none⟩ = some (.int .i64 id) := BQ6.out.cell rfl
     have u0 : w6.cell? ⟨w.heap.size + 1, 0, none⟩ = some (.int .i64 0) := BR6.out.cell rfl
     have u1 : w6.cell? ⟨w.heap.size + 1, 1, none⟩ = some (.float .f64 0) := BR6.out.cell rfl
     have f0 : w6.frozen? ⟨w.heap.size + 1, 0, none⟩ = false := froz_of_heap BR6.out.h
     have f1 : w6.frozen? ⟨w.heap.size + 1, 1, none⟩ = false := froz_of_heap BR6.out.h
     obtain ⟨a61, c61, a62, c62, v6, hb6, -⟩ := HL6.out.ex
     have s5 : w6.cell? ⟨b, 5, none⟩ = some (.slice (some ⟨sb, 0, none⟩) 9 9) := hb6.cell rfl
     have s6 : w6.cell? ⟨b, 6, none⟩ = some (.slice (some ⟨rb, 0, none⟩) 9 9) := hb6.cell rfl
     have sc : w6.cell? ⟨sb, cn, none⟩ = some (.int .i64 (g.cl i).stamp) := by rw [HCN.out]; exact HL6.out.st.cell (st_get _ hi8)
     have rc0 : w6.cell? ⟨rb, cn * 2, none⟩ = some (.int .i64 (g.cl i).code) := by rw [HCN.out]; exact HL6.out.rs.cell (rs_get _ hi8).1
     have rc1 : w6.cell? ⟨rb, cn * 2 + 1, none⟩ = some (.float .f64 (g.cl i).real) := by rw [HCN.out]; exact HL6.out.rs.cell (rs_get _ hi8).2
     clear hb6
     go_upto_region 9 with fail
     apply wp_region_rel (relR [Mo.is _, Mo.is _, Mo.is _, Mo.is _, Mo.is _, Mo.is _, Mo.is _, Mo.is _, Mo.is _, Mo.is _, Mo.is _]) (by kernel_rfl) (by kernel_rfl) (by kernel_rfl) (relR_mono _) (StepD.all ?st27) ?q27
     case st27 =>
      refine ⟨?_, ?_, ?_, ?_, ?_, ?_, ?_, ?_, ?_, ?_, ?_, trivial⟩
      ·intro a' w' hx hs hd
       obtain ⟨y, rfl⟩ := hx.ew
       have e3 : a'.tmps[3]?.getD undef = _ := hs 3 rfl
       simp only [aL, aS, aZ] at e3
       refine .inl ⟨rfl, ?_⟩
       clear hs hd hx
       go_simp
       exact ⟨Ext.refl _ _, rfl⟩
      ·intro a' w' hx hs hd
       obtain ⟨y, rfl⟩ := hx.ew
       have e30 : a'.tmps[30]?.getD undef = _ := hd 0 30 rfl rfl
       refine .inl ⟨rfl, ?_⟩
       clear hs hd hx
       go_simp
       exact ⟨Ext.refl _ _, rfl⟩
      ·intro a' w' hx hs hd
       obtain ⟨y, rfl⟩ := hx.ew
       have e0 : a'.tmps[0]?.getD undef = _ := hs 0 rfl
       simp only [aL, aS, aZ] at e0
       refine .inl ⟨rfl, ?_⟩
       clear hs hd hx
       go_simp
       exact ⟨Ext.refl _ _, rfl⟩
      ·intro a' w' hx hs hd
       obtain ⟨y, rfl⟩ := hx.ew
       have e32 : a'.tmps[32]?.getD undef = _ := hd 2 32 rfl rfl
       refine .inl ⟨rfl, ?_⟩
       clear hs hd hx
       go_simp
       exact ⟨Ext.refl _ _, rfl⟩
      ·intro a' w' hx hs hd
       obtain ⟨y, rfl⟩ := hx.ew
       have e33 : a'.tmps[33]?.getD undef = _ := hd 3 33 rfl rfl
       refine .inl ⟨rfl, ?_⟩
       clear hs hd hx
       go_simp
       exact ⟨Ext.refl _ _, rfl⟩
      ·intro a' w' hx hs hd
       obtain ⟨y, rfl⟩ := hx.ew
       have e34 : a'.tmps[34]?.getD undef = _ := hd 4 34 rfl rfl
       refine .inl ⟨rfl, ?_⟩
       clear hs hd hx
       go_simp
       exact ⟨Ext.refl _ _, rfl⟩
      ·intro a' w' hx hs hd
       obtain ⟨y, rfl⟩ := hx.ew
       have e3 : a'.tmps[3]?.getD undef = _ := hs 3 rfl
       simp only [aL, aS, aZ] at e3
       refine .inl ⟨rfl, ?_⟩
       clear hs hd hx
       go_simp
       exact ⟨Ext.refl _ _, rfl⟩
      ·intro a' w' hx hs hd
       obtain ⟨y, rfl⟩ := hx.ew
       have e36 : a'.tmps[36]?.getD undef = _ := hd 6 36 rfl rfl
       refine .inl ⟨rfl, ?_⟩
       clear hs hd hx
       go_simp
       exact ⟨Ext.refl _ _, rfl⟩
      ·intro a' w' hx hs hd
       obtain ⟨y, rfl⟩ := hx.ew
       have e35 : a'.tmps[35]?.getD undef = _ := hd 5 35 rfl rfl
       have e37 : a'.tmps[37]?.getD undef = _ := hd 7 37 rfl rfl
       refine .inl ⟨rfl, ?_⟩
       clear hs hd hx
       go_simp
       exact ⟨Ext.refl _ _, rfl⟩
      ·intro a' w' hx hs hd
       obtain ⟨y, rfl⟩ := hx.ew
       have e38 : a'.tmps[38]?.getD undef = _ := hd 8 38 rfl rfl
       refine .inl ⟨rfl, ?_⟩
       clear hs hd hx
       go_simp
       exact ⟨Ext.refl _ _, rfl⟩
      ·intro a' w' hx hs hd
       obtain ⟨y, rfl⟩ := hx.ew
       have e31 : a'.tmps[31]?.getD undef = _ := hd 1 31 rfl rfl
       have e39 : a'.tmps[39]?.getD undef = _ := hd 9 39 rfl rfl
       refine .inl ⟨rfl, ?_⟩
       clear hs hd hx
       go_simp
       exact ⟨Ext.refl _ _, rfl⟩
     case' q27 =>
      intro vs w' hx hRR
      obtain ⟨x9, rfl⟩ := hx.ew
      have q0 : vs 0 = _ := hRR 0 (by decide)
      have q1 : vs 1 = _ := hRR 1 (by decide)
      have q2 : vs 2 = _ := hRR 2 (by decide)
      have q3 : vs 3 = _ := hRR 3 (by decide)
      have q4 : vs 4 = _ := hRR 4 (by decide)
      have q5 : vs 5 = _ := hRR 5 (by decide)
      have q6 : vs 6 = _ := hRR 6 (by decide)
      have q7 : vs 7 = _ := hRR 7 (by decide)
      have q8 : vs 8 = _ := hRR 8 (by decide)
      have q9 : vs 9 = _ := hRR 9 (by decide)
      have q10 : vs 10 = _ := hRR 10 (by decide)
      clear hRR hx
      simp only [putAll, List.take_succ_cons, List.take_zero, List.drop_succ_cons, List.drop_zero, Act.put, List.setIfInBounds_toArray, List.set_cons_zero, List.set_cons_succ, Nat.reduceAdd, Nat.zero_add]
      simp only [q0, q1, q2, q3, q4, q5, q6, q7, q8, q9, q10]
      clear q0 q1 q2 q3 q4 q5 q6 q7 q8 q9 q10 vs
     have BRb := hI_ (BR6.out.extN x9.ext)
     have HLb := hI_ (HL6.out.extN x9.ext)
     have HXb := hI_ ((one_tri (sb := sb) (rb := rb) HX6.out).trans x9.ext.ofNon)
     clear p0 p1 p2 p3 p4 p5 u0 u1 f0 f1 s5 s6 sc rc0 rc1
     generalize x9.on = w2 at *
     have u0 : w2.cell? ⟨w.heap.size + 1, 0, none⟩ = some (.int .i64 0) := BRb.out.cell rfl
     have u1 : w2.cell? ⟨w.heap.size + 1, 1, none⟩ = some (.float .f64 0) := BRb.out.cell rfl
     have f0 : w2.frozen? ⟨w.heap.size + 1, 0, none⟩ = false := froz_of_heap BRb.out.h
     have f1 : w2.frozen? ⟨w.heap.size + 1, 1, none⟩ = false := froz_of_heap BRb.out.h
     go_wp2
     obtain ⟨E1, E2, r0, r1⟩ := rdo_end (v0 := .int .i64 7) (v1 := .float .f64 0) BRb.out (by omega : w.heap.size ≤ w.heap.size + 1) HLT.out.2.1 HXb.out HLb.out
     generalize (w2.setCell ⟨w.heap.size + 1, 0, none⟩ (.int .i64 7)).setCell ⟨w.heap.size + 1, 1, none⟩ (.float .f64 0) = w9 at *
     refine bodyPost_ret (v := .tuple #[.agg #[.int .i64 7, .float .f64 0], .int .i64 0]) (by simp [results, Tryz.results22, go_sem, r0, r1]) rfl ?_
     exact ⟨by rw [HG.out.1, HG.out.2.1], E1, by rw [HG.out.2.2]; exact E2⟩
    ·have dl : decide (st < (g.cl i).stamp) = false := decide_eq_false hlt
     by_cases heq : st = (g.cl i).stamp
     ·have HG : Hid (doR g ⟨(cn : Int), st, ⟨k, key, x, id⟩⟩ = ⟨(g.cl i).code, (g.cl i).real⟩ ∧ doE g ⟨(cn : Int), st, ⟨k, key, x, id⟩⟩ = 0 ∧ doL g ⟨(cn : Int), st, ⟨k, key, x, id⟩⟩ = tick g) := hI_ (by
       have e0 : ¬ doE g ⟨(cn : Int), st, ⟨k, key, x, id⟩⟩ ≠ 0 := fun q => q hE0
       have hgt : ¬ (g.cl i).stamp < st := by omega
       unfold doR doL; rw [if_neg e0, if_neg e0, hnl, if_neg (show ¬ (false = true) by simp), if_neg (show ¬ (false = true) by simp), hidx, if_neg hlt, if_neg hlt, if_neg hgt, if_neg hgt]; exact ⟨rfl, hE0, rfl⟩)
      have de : (st == (g.cl i).stamp) = true := by simpa using heq
      clear hnl hrt hfl hE0 hidx hlt heq
      go_enter Tryz.func22, Tryz.ntmps22
      go_wp2_with fail
      refine Calls.ew (ref_Null (cn : Int) st k key x id _) ?_
      rintro e x1 rfl
      rw [HNULL.out]
      have BQ1 := hI_ (BQ.out.extN x1.ext)
      have BR1 := hI_ (BR.out.extN x1.ext)
      have XA := hI_ (exG0 : Ext Non w x1.on)
      have p0 : x1.on.cell? ⟨w.heap.size, 0, none⟩ = some (.int .i64 (cn : Int)) := BQ1.out.cell rfl
      have p1 : x1.on.cell? ⟨w.heap.size, 1, none⟩ = some (.int .i64 st) := BQ1.out.cell rfl
      have p2 : x1.on.cell? ⟨w.heap.size, 2, none⟩ = some (.int .i64 k) := BQ1.out.cell rfl
      have p3 : x1.on.cell? ⟨w.heap.size, 3, none⟩ = some (.string key) := BQ1.out.cell rfl
      have p4 : x1.on.cell? ⟨w.heap.size, 4, none⟩ = some (.float .f64 x) := BQ1.out.cell rfl
      have p5 : x1.on.cell? ⟨w.heap.size, 5, none⟩ = some (.int .i64 id) := BQ1.out.cell rfl
      go_wp2_with fail
      refine Calls.ew (ref_Right (cn : Int) st k key x id _) ?_
      rintro e x2 rfl
      rw [HRIGHT.out]
      go_wp2_with fail
      refine Calls.ewD (ref12_Full b sb rb g II.out _ (HH.out.extN (exG0))) ?_
      rintro e x3 rfl
      rw [HFULL.out]
      go_upto_region 7 with fail
      obtain ⟨hL6, hX6⟩ := HH.out.ticked (exG0 : Ext Non w x3.on)
      have hbq : ¬ One b w.heap.size := fun q => by have := HLT.out.1; have : w.heap.size = b := q; omega
      have hbr : ¬ One b (w.heap.size + 1) := fun q => by have := HLT.out.1; have : w.heap.size + 1 = b := q; omega
      have XT : Ext (One b) x3.on (x3.on.setCell ⟨b, 3, none⟩ (.int .i64 (g.done + 1))) := (Ext.refl _ _).set1 _
      have BQ6 := hI_ ((BQ1.out.extN (exG0 : Ext Non x1.on x3.on)).ext XT hbq)
      have BR6 := hI_ ((BR1.out.extN (exG0 : Ext Non x1.on x3.on)).ext XT hbr)
      have HL6 := hI_ hL6
      have HX6 := hI_ hX6
      clear hL6 hX6 XT hbq hbr q3 fz3 wd
      clear p0 p1 p2 p3 p4 p5
      generalize x3.on.setCell ⟨b, 3, none⟩ (.int .i64 (g.done + 1)) = w6 at *
      have p0 : w6.cell? ⟨w.heap.size, 0, none⟩ = some (.int .i64 (cn : Int)) := BQ6.out.cell rfl
      have p1 : w6.cell? ⟨w.heap.size, 1, none⟩ = some (.int .i64 st) := BQ6.out.cell rfl
      have p2 : w6.cell? ⟨w.heap.size, 2, none⟩ = some (.int .i64 k) := BQ6.out.cell rfl
      have p3 : w6.cell? ⟨w.heap.size, 3, none⟩ = some (.string key) := BQ6.out.cell rfl
      have p4 : w6.cell? ⟨w.heap.size, 4, none⟩ = some (.float .f64 x) := BQ6.out.cell rfl
      have p5 : w6.cell? ⟨w.heap.size, 5, none⟩ = some (.int .i64 id) := BQ6.out.cell rfl
      have u0 : w6.cell? ⟨w.heap.size + 1, 0, none⟩ = some (.int .i64 0) := BR6.out.cell rfl
      have u1 : w6.cell? ⟨w.heap.size + 1, 1, none⟩ = some (.float .f64 0) := BR6.out.cell rfl
      have f0 : w6.frozen? ⟨w.heap.size + 1, 0, none⟩ = false := froz_of_heap BR6.out.h
      have f1 : w6.frozen? ⟨w.heap.size + 1, 1, none⟩ = false := froz_of_heap BR6.out.h
      obtain ⟨a61, c61, a62, c62, v6, hb6, -⟩ := HL6.out.ex
      have s5 : w6.cell? ⟨b, 5, none⟩ = some (.slice (some ⟨sb, 0, none⟩) 9 9) := hb6.cell rfl
      have s6 : w6.cell? ⟨b, 6, none⟩ = some (.slice (some ⟨rb, 0, none⟩) 9 9) := hb6.cell rfl
      have sc : w6.cell? ⟨sb, cn, none⟩ = some (.int .i64 (g.cl i).stamp) := by rw [HCN.out]; exact HL6.out.st.cell (st_get _ hi8)
      have rc0 : w6.cell? ⟨rb, cn * 2, none⟩ = some (.int .i64 (g.cl i).code) := by rw [HCN.out]; exact HL6.out.rs.cell (rs_get _ hi8).1
      have rc1 : w6.cell? ⟨rb, cn * 2 + 1, none⟩ = some (.float .f64 (g.cl i).real) := by rw [HCN.out]; exact HL6.out.rs.cell (rs_get _ hi8).2
      clear hb6
      go_upto_region 9 with fail
      apply wp_region_rel (relR [Mo.is _, Mo.is _, Mo.is _, Mo.is _, Mo.is _, Mo.is _, Mo.is _, Mo.is _, Mo.is _, Mo.is _, Mo.is _]) (by kernel_rfl) (by kernel_rfl) (by kernel_rfl) (relR_mono _) (StepD.all ?st28) ?q28
      case st28 =>
       refine ⟨?_, ?_, ?_, ?_, ?_, ?_, ?_, ?_, ?_, ?_, ?_, trivial⟩
       ·intro a' w' hx hs hd
        obtain ⟨y, rfl⟩ := hx.ew
        have e3 : a'.tmps[3]?.getD undef = _ := hs 3 rfl
        simp only [aL, aS, aZ] at e3
        refine .inl ⟨rfl, ?_⟩
        clear hs hd hx
        go_simp
        exact ⟨Ext.refl _ _, rfl⟩
       ·intro a' w' hx hs hd
        obtain ⟨y, rfl⟩ := hx.ew
        have e30 : a'.tmps[30]?.getD undef = _ := hd 0 30 rfl rfl
        refine .inl ⟨rfl, ?_⟩
        clear hs hd hx
        go_simp
        exact ⟨Ext.refl _ _, rfl⟩
       ·intro a' w' hx hs hd
        obtain ⟨y, rfl⟩ := hx.ew
        have e0 : a'.tmps[0]?.getD undef = _ := hs 0 rfl
        simp only [aL, aS, aZ] at e0
        refine .inl ⟨rfl, ?_⟩
        clear hs hd hx
        go_simp
        exact ⟨Ext.refl _ _, rfl⟩
       ·intro a' w' hx hs hd
        obtain ⟨y, rfl⟩ := hx.ew
        have e32 : a'.tmps[32]?.getD undef = _ := hd 2 32 rfl rfl
        refine .inl ⟨rfl, ?_⟩
        clear hs hd hx
        go_simp
        exact ⟨Ext.refl _ _, rfl⟩
       ·intro a' w' hx hs hd
        obtain ⟨y, rfl⟩ := hx.ew
        have e33 : a'.tmps[33]?.getD undef = _ := hd 3 33 rfl rfl
        refine .inl ⟨rfl, ?_⟩
        clear hs hd hx
        go_simp
        exact ⟨Ext.refl _ _, rfl⟩
       ·intro a' w' hx hs hd
        obtain ⟨y, rfl⟩ := hx.ew
        have e34 : a'.tmps[34]?.getD undef = _ := hd 4 34 rfl rfl
        refine .inl ⟨rfl, ?_⟩
        clear hs hd hx
        go_simp
        exact ⟨Ext.refl _ _, rfl⟩
       ·intro a' w' hx hs hd
        obtain ⟨y, rfl⟩ := hx.ew
        have e3 : a'.tmps[3]?.getD undef = _ := hs 3 rfl
        simp only [aL, aS, aZ] at e3
        refine .inl ⟨rfl, ?_⟩
        clear hs hd hx
        go_simp
        exact ⟨Ext.refl _ _, rfl⟩
       ·intro a' w' hx hs hd
        obtain ⟨y, rfl⟩ := hx.ew
        have e36 : a'.tmps[36]?.getD undef = _ := hd 6 36 rfl rfl
        refine .inl ⟨rfl, ?_⟩
        clear hs hd hx
        go_simp
        exact ⟨Ext.refl _ _, rfl⟩
       ·intro a' w' hx hs hd
        obtain ⟨y, rfl⟩ := hx.ew
        have e35 : a'.tmps[35]?.getD undef = _ := hd 5 35 rfl rfl
        have e37 : a'.tmps[37]?.getD undef = _ := hd 7 37 rfl rfl
        refine .inl ⟨rfl, ?_⟩
        clear hs hd hx
        go_simp
        exact ⟨Ext.refl _ _, rfl⟩
       ·intro a' w' hx hs hd
        obtain ⟨y, rfl⟩ := hx.ew
        have e38 : a'.tmps[38]?.getD undef = _ := hd 8 38 rfl rfl
        refine .inl ⟨rfl, ?_⟩
        clear hs hd hx
        go_simp
        exact ⟨Ext.refl _ _, rfl⟩
       ·intro a' w' hx hs hd
        obtain ⟨y, rfl⟩ := hx.ew
        have e31 : a'.tmps[31]?.getD undef = _ := hd 1 31 rfl rfl
        have e39 : a'.tmps[39]?.getD undef = _ := hd 9 39 rfl rfl
        refine .inl ⟨rfl, ?_⟩
        clear hs hd hx
        go_simp
        exact ⟨Ext.refl _ _, rfl⟩
      case' q28 =>
       intro vs w' hx hRR
       obtain ⟨x9, rfl⟩ := hx.ew
       have q0 : vs 0 = _ := hRR 0 (by decide)
       have q1 : vs 1 = _ := hRR 1 (by decide)
       have q2 : vs 2 = _ := hRR 2 (by decide)
       have q3 : vs 3 = _ := hRR 3 (by decide)
       have q4 : vs 4 = _ := hRR 4 (by decide)
       have q5 : vs 5 = _ := hRR 5 (by decide)
       have q6 : vs 6 = _ := hRR 6 (by decide)
       have q7 : vs 7 = _ := hRR 7 (by decide)
       have q8 : vs 8 = _ := hRR 8 (by decide)
       have q9 : vs 9 = _ := hRR 9 (by decide)
       have q10 : vs 10 = _ := hRR 10 (by decide)
       clear hRR hx
       simp only [putAll, List.take_succ_cons, List.take_zero, List.drop_succ_cons, List.drop_zero, Act.put, List.setIfInBounds_toArray, List.set_cons_zero, List.set_cons_succ, Nat.reduceAdd, Nat.zero_add]
       simp only [q0, q1, q2, q3, q4, q5, q6, q7, q8, q9, q10]
       clear q0 q1 q2 q3 q4 q5 q6 q7 q8 q9 q10 vs
      go_upto_region 11 with fail
      apply wp_region_rel (relR [Mo.is _, Mo.is _, Mo.is _, Mo.is _, Mo.is _, Mo.is _, Mo.is _, Mo.is _, Mo.is _, Mo.is _, Mo.is _]) (by kernel_rfl) (by kernel_rfl) (by kernel_rfl) (relR_mono _) (StepD.all ?st29) ?q29
      case st29 =>
       refine ⟨?_, ?_, ?_, ?_, ?_, ?_, ?_, ?_, ?_, ?_, ?_, trivial⟩
       ·intro a' w' hx hs hd
        obtain ⟨y, rfl⟩ := hx.ew
        have e3 : a'.tmps[3]?.getD undef = _ := hs 3 rfl
        simp only [aL, aS, aZ] at e3
        refine .inl ⟨rfl, ?_⟩
        clear hs hd hx
        go_simp
        exact ⟨Ext.refl _ _, rfl⟩
       ·intro a' w' hx hs hd
        obtain ⟨y, rfl⟩ := hx.ew
        have e42 : a'.tmps[42]?.getD undef = _ := hd 0 42 rfl rfl
        refine .inl ⟨rfl, ?_⟩
        clear hs hd hx
        go_simp
        exact ⟨Ext.refl _ _, rfl⟩
       ·intro a' w' hx hs hd
        obtain ⟨y, rfl⟩ := hx.ew
        have e0 : a'.tmps[0]?.getD undef = _ := hs 0 rfl
        simp only [aL, aS, aZ] at e0
        refine .inl ⟨rfl, ?_⟩
        clear hs hd hx
        go_simp
        exact ⟨Ext.refl _ _, rfl⟩
       ·intro a' w' hx hs hd
        obtain ⟨y, rfl⟩ := hx.ew
        have e44 : a'.tmps[44]?.getD undef = _ := hd 2 44 rfl rfl
        refine .inl ⟨rfl, ?_⟩
        clear hs hd hx
        go_simp
        exact ⟨Ext.refl _ _, rfl⟩
       ·intro a' w' hx hs hd
        obtain ⟨y, rfl⟩ := hx.ew
        have e45 : a'.tmps[45]?.getD undef = _ := hd 3 45 rfl rfl
        refine .inl ⟨rfl, ?_⟩
        clear hs hd hx
        go_simp
        exact ⟨Ext.refl _ _, rfl⟩
       ·intro a' w' hx hs hd
        obtain ⟨y, rfl⟩ := hx.ew
        have e46 : a'.tmps[46]?.getD undef = _ := hd 4 46 rfl rfl
        refine .inl ⟨rfl, ?_⟩
        clear hs hd hx
        go_simp
        exact ⟨Ext.refl _ _, rfl⟩
       ·intro a' w' hx hs hd
        obtain ⟨y, rfl⟩ := hx.ew
        have e3 : a'.tmps[3]?.getD undef = _ := hs 3 rfl
        simp only [aL, aS, aZ] at e3
        refine .inl ⟨rfl, ?_⟩
        clear hs hd hx
        go_simp
        exact ⟨Ext.refl _ _, rfl⟩
       ·intro a' w' hx hs hd
        obtain ⟨y, rfl⟩ := hx.ew
        have e48 : a'.tmps[48]?.getD undef = _ := hd 6 48 rfl rfl
        refine .inl ⟨rfl, ?_⟩
        clear hs hd hx
        go_simp
        exact ⟨Ext.refl _ _, rfl⟩
       ·intro a' w' hx hs hd
        obtain ⟨y, rfl⟩ := hx.ew
        have e47 : a'.tmps[47]?.getD undef = _ := hd 5 47 rfl rfl
        have e49 : a'.tmps[49]?.getD undef = _ := hd 7 49 rfl rfl
        refine .inl ⟨rfl, ?_⟩
        clear hs hd hx
        go_simp
        exact ⟨Ext.refl _ _, rfl⟩
       ·intro a' w' hx hs hd
        obtain ⟨y, rfl⟩ := hx.ew
        have e50 : a'.tmps[50]?.getD undef = _ := hd 8 50 rfl rfl
        refine .inl ⟨rfl, ?_⟩
        clear hs hd hx
        go_simp
        exact ⟨Ext.refl _ _, rfl⟩
       ·intro a' w' hx hs hd
        obtain ⟨y, rfl⟩ := hx.ew
        have e43 : a'.tmps[43]?.getD undef = _ := hd 1 43 rfl rfl
        have e51 : a'.tmps[51]?.getD undef = _ := hd 9 51 rfl rfl
        refine .inl ⟨rfl, ?_⟩
        clear hs hd hx
        go_simp
        exact ⟨Ext.refl _ _, rfl⟩
      case' q29 =>
       intro vs w' hx hRR
       obtain ⟨x11, rfl⟩ := hx.ew
       have q0 : vs 0 = _ := hRR 0 (by decide)
       have q1 : vs 1 = _ := hRR 1 (by decide)
       have q2 : vs 2 = _ := hRR 2 (by decide)
       have q3 : vs 3 = _ := hRR 3 (by decide)
       have q4 : vs 4 = _ := hRR 4 (by decide)
       have q5 : vs 5 = _ := hRR 5 (by decide)
       have q6 : vs 6 = _ := hRR 6 (by decide)
       have q7 : vs 7 = _ := hRR 7 (by decide)
       have q8 : vs 8 = _ := hRR 8 (by decide)
       have q9 : vs 9 = _ := hRR 9 (by decide)
       have q10 : vs 10 = _ := hRR 10 (by decide)
       clear hRR hx
       simp only [putAll, List.take_succ_cons, List.take_zero, List.drop_succ_cons, List.drop_zero, Act.put, List.setIfInBounds_toArray, List.set_cons_zero, List.set_cons_succ, Nat.reduceAdd, Nat.zero_add]
       simp only [q0, q1, q2, q3, q4, q5, q6, q7, q8, q9, q10]
       clear q0 q1 q2 q3 q4 q5 q6 q7 q8 q9 q10 vs
      go_upto_region 12 with fail
      apply wp_region_rel_tail 8 (relR [Mo.is _, Mo.is _, Mo.is _, Mo.is _, Mo.is _, Mo.is _, Mo.is _, Mo.is _]) (by kernel_rfl) (by kernel_rfl) (by kernel_rfl) (by kernel_rfl) (by kernel_rfl) (by decide) (by kernel_rfl) (relR_mono _) (StepD.all ?st30) ?q30
      case st30 =>
       refine ⟨?_, ?_, ?_, ?_, ?_, ?_, ?_, ?_, trivial⟩
       ·intro a' w' hx hs hd
        obtain ⟨y, rfl⟩ := hx.ew
        have e0 : a'.tmps[0]?.getD undef = _ := hs 0 rfl
        simp only [aL, aS, aZ] at e0
        refine .inl ⟨rfl, ?_⟩
        clear hs hd hx
        go_simp
        exact ⟨Ext.refl _ _, rfl⟩
       ·intro a' w' hx hs hd
        obtain ⟨y, rfl⟩ := hx.ew
        have e53 : a'.tmps[53]?.getD undef = _ := hd 0 53 rfl rfl
        refine .inl ⟨rfl, ?_⟩
        clear hs hd hx
        go_simp
        exact ⟨Ext.refl _ _, rfl⟩
       ·intro a' w' hx hs hd
        obtain ⟨y, rfl⟩ := hx.ew
        have e54 : a'.tmps[54]?.getD undef = _ := hd 1 54 rfl rfl
        refine .inl ⟨rfl, ?_⟩
        clear hs hd hx
        go_simp
        exact ⟨Ext.refl _ _, rfl⟩
       ·intro a' w' hx hs hd
        obtain ⟨y, rfl⟩ := hx.ew
        have e55 : a'.tmps[55]?.getD undef = _ := hd 2 55 rfl rfl
        refine .inl ⟨rfl, ?_⟩
        clear hs hd hx
        go_simp
        exact ⟨Ext.refl _ _, rfl⟩
       ·intro a' w' hx hs hd
        obtain ⟨y, rfl⟩ := hx.ew
        have e3 : a'.tmps[3]?.getD undef = _ := hs 3 rfl
        simp only [aL, aS, aZ] at e3
        refine .inl ⟨rfl, ?_⟩
        clear hs hd hx
        go_simp
        exact ⟨Ext.refl _ _, rfl⟩
       ·intro a' w' hx hs hd
        obtain ⟨y, rfl⟩ := hx.ew
        have e57 : a'.tmps[57]?.getD undef = _ := hd 4 57 rfl rfl
        refine .inl ⟨rfl, ?_⟩
        clear hs hd hx
        go_simp
        exact ⟨Ext.refl _ _, rfl⟩
       ·intro a' w' hx hs hd
        obtain ⟨y, rfl⟩ := hx.ew
        have e56 : a'.tmps[56]?.getD undef = _ := hd 3 56 rfl rfl
        have e58 : a'.tmps[58]?.getD undef = _ := hd 5 58 rfl rfl
        refine .inl ⟨rfl, ?_⟩
        clear hs hd hx
        go_simp
        exact ⟨Ext.refl _ _, rfl⟩
       ·intro a' w' hx hs hd
        obtain ⟨y, rfl⟩ := hx.ew
        have e59 : a'.tmps[59]?.getD undef = _ := hd 6 59 rfl rfl
        refine .inl ⟨rfl, ?_⟩
        clear hs hd hx
        go_simp
        exact ⟨Ext.refl _ _, rfl⟩
      case' q30 =>
       intro vs w' hx hRR
       obtain ⟨x12, rfl⟩ := hx.ew
       have q0 : vs 0 = _ := hRR 0 (by decide)
       have q1 : vs 1 = _ := hRR 1 (by decide)
       have q2 : vs 2 = _ := hRR 2 (by decide)
       have q3 : vs 3 = _ := hRR 3 (by decide)
       have q4 : vs 4 = _ := hRR 4 (by decide)
       have q5 : vs 5 = _ := hRR 5 (by decide)
       have q6 : vs 6 = _ := hRR 6 (by decide)
       have q7 : vs 7 = _ := hRR 7 (by decide)
       clear hRR hx
       simp only [putAll, List.take_succ_cons, List.take_zero, List.drop_succ_cons, List.drop_zero, Act.put, List.setIfInBounds_toArray, List.set_cons_zero, List.set_cons_succ, Nat.reduceAdd, Nat.zero_add]
       simp only [q0, q1, q2, q3, q4, q5, q6, q7]
       clear q0 q1 q2 q3 q4 q5 q6 q7 vs
      have XQ : Ext Non w6 x12.on := exG0
      have BRb := hI_ (BR6.out.extN XQ)
      have HLb := hI_ (HL6.out.extN XQ)
      have HXb := hI_ ((one_tri (sb := sb) (rb := rb) HX6.out).trans XQ.ofNon)
      clear XQ p0 p1 p2 p3 p4 p5 u0 u1 f0 f1 s5 s6 sc rc0 rc1
      generalize x12.on = w2 at *
      have u0 : w2.cell? ⟨w.heap.size + 1, 0, none⟩ = some (.int .i64 0) := BRb.out.cell rfl
      have u1 : w2.cell? ⟨w.heap.size + 1, 1, none⟩ = some (.float .f64 0) := BRb.out.cell rfl
      have f0 : w2.frozen? ⟨w.heap.size + 1, 0, none⟩ = false := froz_of_heap BRb.out.h
      have f1 : w2.frozen? ⟨w.heap.size + 1, 1, none⟩ = false := froz_of_heap BRb.out.h
      go_wp2
      obtain ⟨E1, E2, r0, r1⟩ := rdo_end (v0 := .int .i64 (g.cl i).code) (v1 := .float .f64 (g.cl i).real) BRb.out (by omega : w.heap.size ≤ w.heap.size + 1) HLT.out.2.1 HXb.out HLb.out
      generalize (w2.setCell ⟨w.heap.size + 1, 0, none⟩ (.int .i64 (g.cl i).code)).setCell ⟨w.heap.size + 1, 1, none⟩ (.float .f64 (g.cl i).real) = w9 at *
      refine bodyPost_ret (v := .tuple #[.agg #[.int .i64 (g.cl i).code, .float .f64 (g.cl i).real], .int .i64 0]) (by simp [results, Tryz.results22, go_sem, r0, r1]) rfl ?_
      exact ⟨by rw [HG.out.1, HG.out.2.1], E1, by rw [HG.out.2.2]; exact E2⟩
     ·have de : (st == (g.cl i).stamp) = false := by rw [beq_eq_false_iff_ne]; exact heq
      have hgt : (g.cl i).stamp < st := by omega
      have HG : Hid (doR g ⟨(cn : Int), st, ⟨k, key, x, id⟩⟩ = applyR (tick g) ⟨k, key, x, id⟩ ∧ doE g ⟨(cn : Int), st, ⟨k, key, x, id⟩⟩ = 0 ∧ doL g ⟨(cn : Int), st, ⟨k, key, x, id⟩⟩ = setCl (applyL (tick g) ⟨k, key, x, id⟩) i ⟨st, (applyR (tick g) ⟨k, key, x, id⟩).code, (applyR (tick g) ⟨k, key, x, id⟩).real⟩) := hI_ (by
       have e0 : ¬ doE g ⟨(cn : Int), st, ⟨k, key, x, id⟩⟩ ≠ 0 := fun q => q hE0
       unfold doR doL; rw [if_neg e0, if_neg e0, hnl, if_neg (show ¬ (false = true) by simp), if_neg (show ¬ (false = true) by simp), hidx, if_neg hlt, if_neg hlt, if_pos hgt, if_pos hgt]; exact ⟨rfl, hE0, rfl⟩)
      clear hnl hrt hfl hE0 hidx hlt heq hgt
      go_enter Tryz.func22, Tryz.ntmps22
      go_wp2_with fail
      refine Calls.ew (ref_Null (cn : Int) st k key x id _) ?_
      rintro e x1 rfl
      rw [HNULL.out]
      have BQ1 := hI_ (BQ.out.extN x1.ext)
      have BR1 := hI_ (BR.out.extN x1.ext)
      have XA := hI_ (exG0 : Ext Non w x1.on)
      have p0 : x1.on.cell? ⟨w.heap.size, 0, none⟩ = some (.int .i64 (cn : Int)) := BQ1.out.cell rfl
      have p1 : x1.on.cell? ⟨w.heap.size, 1, none⟩ = some (.int .i64 st) := BQ1.out.cell rfl
      have p2 : x1.on.cell? ⟨w.heap.size, 2, none⟩ = some (.int .i64 k) := BQ1.out.cell rfl
      have p3 : x1.on.cell? ⟨w.heap.size, 3, none⟩ = some (.string key) := BQ1.out.cell rfl
      have p4 : x1.on.cell? ⟨w.heap.size, 4, none⟩ = some (.float .f64 x) := BQ1.out.cell rfl
      have p5 : x1.on.cell? ⟨w.heap.size, 5, none⟩ = some (.int .i64 id) := BQ1.out.cell rfl
      go_wp2_with fail
      refine Calls.ew (ref_Right (cn : Int) st k key x id _) ?_
      rintro e x2 rfl
      rw [HRIGHT.out]
      go_wp2_with fail
      refine Calls.ewD (ref12_Full b sb rb g II.out _ (HH.out.extN (exG0))) ?_
      rintro e x3 rfl
      rw [HFULL.out]
      go_upto_region 7 with fail
      obtain ⟨hL6, hX6⟩ := HH.out.ticked (exG0 : Ext Non w x3.on)
      have hbq : ¬ One b w.heap.size := fun q => by have := HLT.out.1; have : w.heap.size = b := q; omega
      have hbr : ¬ One b (w.heap.size + 1) := fun q => by have := HLT.out.1; have : w.heap.size + 1 = b := q; omega
      have XT : Ext (One b) x3.on (x3.on.setCell ⟨b, 3, none⟩ (.int .i64 (g.done + 1))) := (Ext.refl _ _).set1 _
      have BQ6 := hI_ ((BQ1.out.extN (exG0 : Ext Non x1.on x3.on)).ext XT hbq)
      have BR6 := hI_ ((BR1.out.extN (exG0 : Ext Non x1.on x3.on)).ext XT hbr)
      have HL6 := hI_ hL6
      have HX6 := hI_ hX6
      clear hL6 hX6 XT hbq hbr q3 fz3 wd
      clear p0 p1 p2 p3 p4 p5
      generalize x3.on.setCell ⟨b, 3, none⟩ (.int .i64 (g.done + 1)) = w6 at *
      have p0 : w6.cell? ⟨w.heap.size, 0, none⟩ = some (.int .i64 (cn : Int)) := BQ6.out.cell rfl
      have p1 : w6.cell? ⟨w.heap.size, 1, none⟩ = some (.int .i64 st) := BQ6.out.cell rfl
      have p2 : w6.cell? ⟨w.heap.size, 2, none⟩ = some (.int .i64 k) := BQ6.out.cell rfl
      have p3 : w6.cell? ⟨w.heap.size, 3, none⟩ = some (.string key) := BQ6.out.cell rfl
      have p4 : w6.cell? ⟨w.heap.size, 4, none⟩ = some (.float .f64 x) := BQ6.out.cell rfl
      have p5 : w6.cell? ⟨w.heap.size, 5, none⟩ = some (.int .i64 id) := BQ6.out.cell rfl
      have u0 : w6.cell? ⟨w.heap.size + 1, 0, none⟩ = some (.int .i64 0) := BR6.out.cell rfl
      have u1 : w6.cell? ⟨w.heap.size + 1, 1, none⟩ = some (.float .f64 0) := BR6.out.cell rfl
      have f0 : w6.frozen? ⟨w.heap.size + 1, 0, none⟩ = false := froz_of_heap BR6.out.h
      have f1 : w6.frozen? ⟨w.heap.size + 1, 1, none⟩ = false := froz_of_heap BR6.out.h
      obtain ⟨a61, c61, a62, c62, v6, hb6, -⟩ := HL6.out.ex
      have s5 : w6.cell? ⟨b, 5, none⟩ = some (.slice (some ⟨sb, 0, none⟩) 9 9) := hb6.cell rfl
      have s6 : w6.cell? ⟨b, 6, none⟩ = some (.slice (some ⟨rb, 0, none⟩) 9 9) := hb6.cell rfl
      have sc : w6.cell? ⟨sb, cn, none⟩ = some (.int .i64 (g.cl i).stamp) := by rw [HCN.out]; exact HL6.out.st.cell (st_get _ hi8)
      have rc0 : w6.cell? ⟨rb, cn * 2, none⟩ = some (.int .i64 (g.cl i).code) := by rw [HCN.out]; exact HL6.out.rs.cell (rs_get _ hi8).1
      have rc1 : w6.cell? ⟨rb, cn * 2 + 1, none⟩ = some (.float .f64 (g.cl i).real) := by rw [HCN.out]; exact HL6.out.rs.cell (rs_get _ hi8).2
      clear hb6
      go_upto_region 9 with fail
      apply wp_region_rel (relR [Mo.is _, Mo.is _, Mo.is _, Mo.is _, Mo.is _, Mo.is _, Mo.is _, Mo.is _, Mo.is _, Mo.is _, Mo.is _]) (by kernel_rfl) (by kernel_rfl) (by kernel_rfl) (relR_mono _) (StepD.all ?st31) ?q31
      case st31 =>
       refine ⟨?_, ?_, ?_, ?_, ?_, ?_, ?_, ?_, ?_, ?_, ?_, trivial⟩
       ·intro a' w' hx hs hd
        obtain ⟨y, rfl⟩ := hx.ew
        have e3 : a'.tmps[3]?.getD undef = _ := hs 3 rfl
        simp only [aL, aS, aZ] at e3
        refine .inl ⟨rfl, ?_⟩
        clear hs hd hx
        go_simp
        exact ⟨Ext.refl _ _, rfl⟩
       ·intro a' w' hx hs hd
        obtain ⟨y, rfl⟩ := hx.ew
        have e30 : a'.tmps[30]?.getD undef = _ := hd 0 30 rfl rfl
        refine .inl ⟨rfl, ?_⟩
        clear hs hd hx
        go_simp
        exact ⟨Ext.refl _ _, rfl⟩
       ·intro a' w' hx hs hd
        obtain ⟨y, rfl⟩ := hx.ew
        have e0 : a'.tmps[0]?.getD undef = _ := hs 0 rfl
        simp only [aL, aS, aZ] at e0
        refine .inl ⟨rfl, ?_⟩
        clear hs hd hx
        go_simp
        exact ⟨Ext.refl _ _, rfl⟩
       ·intro a' w' hx hs hd
        obtain ⟨y, rfl⟩ := hx.ew
        have e32 : a'.tmps[32]?.getD undef = _ := hd 2 32 rfl rfl
        refine .inl ⟨rfl, ?_⟩
        clear hs hd hx
        go_simp
        exact ⟨Ext.refl _ _, rfl⟩
       ·intro a' w' hx hs hd
        obtain ⟨y, rfl⟩ := hx.ew
        have e33 : a'.tmps[33]?.getD undef = _ := hd 3 33 rfl rfl
        refine .inl ⟨rfl, ?_⟩
        clear hs hd hx
        go_simp
        exact ⟨Ext.refl _ _, rfl⟩
       ·intro a' w' hx hs hd
        obtain ⟨y, rfl⟩ := hx.ew
        have e34 : a'.tmps[34]?.getD undef = _ := hd 4 34 rfl rfl
        refine .inl ⟨rfl, ?_⟩
        clear hs hd hx
        go_simp
        exact ⟨Ext.refl _ _, rfl⟩
       ·intro a' w' hx hs hd
        obtain ⟨y, rfl⟩ := hx.ew
        have e3 : a'.tmps[3]?.getD undef = _ := hs 3 rfl
        simp only [aL, aS, aZ] at e3
        refine .inl ⟨rfl, ?_⟩
        clear hs hd hx
        go_simp
        exact ⟨Ext.refl _ _, rfl⟩
       ·intro a' w' hx hs hd
        obtain ⟨y, rfl⟩ := hx.ew
        have e36 : a'.tmps[36]?.getD undef = _ := hd 6 36 rfl rfl
        refine .inl ⟨rfl, ?_⟩
        clear hs hd hx
        go_simp
        exact ⟨Ext.refl _ _, rfl⟩
       ·intro a' w' hx hs hd
        obtain ⟨y, rfl⟩ := hx.ew
        have e35 : a'.tmps[35]?.getD undef = _ := hd 5 35 rfl rfl
        have e37 : a'.tmps[37]?.getD undef = _ := hd 7 37 rfl rfl
        refine .inl ⟨rfl, ?_⟩
        clear hs hd hx
        go_simp
        exact ⟨Ext.refl _ _, rfl⟩
       ·intro a' w' hx hs hd
        obtain ⟨y, rfl⟩ := hx.ew
        have e38 : a'.tmps[38]?.getD undef = _ := hd 8 38 rfl rfl
        refine .inl ⟨rfl, ?_⟩
        clear hs hd hx
        go_simp
        exact ⟨Ext.refl _ _, rfl⟩
       ·intro a' w' hx hs hd
        obtain ⟨y, rfl⟩ := hx.ew
        have e31 : a'.tmps[31]?.getD undef = _ := hd 1 31 rfl rfl
        have e39 : a'.tmps[39]?.getD undef = _ := hd 9 39 rfl rfl
        refine .inl ⟨rfl, ?_⟩
        clear hs hd hx
        go_simp
        exact ⟨Ext.refl _ _, rfl⟩
      case' q31 =>
       intro vs w' hx hRR
       obtain ⟨x9, rfl⟩ := hx.ew
       have q0 : vs 0 = _ := hRR 0 (by decide)
       have q1 : vs 1 = _ := hRR 1 (by decide)
       have q2 : vs 2 = _ := hRR 2 (by decide)
       have q3 : vs 3 = _ := hRR 3 (by decide)
       have q4 : vs 4 = _ := hRR 4 (by decide)
       have q5 : vs 5 = _ := hRR 5 (by decide)
       have q6 : vs 6 = _ := hRR 6 (by decide)
       have q7 : vs 7 = _ := hRR 7 (by decide)
       have q8 : vs 8 = _ := hRR 8 (by decide)
       have q9 : vs 9 = _ := hRR 9 (by decide)
       have q10 : vs 10 = _ := hRR 10 (by decide)
       clear hRR hx
       simp only [putAll, List.take_succ_cons, List.take_zero, List.drop_succ_cons, List.drop_zero, Act.put, List.setIfInBounds_toArray, List.set_cons_zero, List.set_cons_succ, Nat.reduceAdd, Nat.zero_add]
       simp only [q0, q1, q2, q3, q4, q5, q6, q7, q8, q9, q10]
       clear q0 q1 q2 q3 q4 q5 q6 q7 q8 q9 q10 vs
      go_upto_region 11 with fail
      apply wp_region_rel (relR [Mo.is _, Mo.is _, Mo.is _, Mo.is _, Mo.is _, Mo.is _, Mo.is _, Mo.is _, Mo.is _, Mo.is _, Mo.is _]) (by kernel_rfl) (by kernel_rfl) (by kernel_rfl) (relR_mono _) (StepD.all ?st32) ?q32
      case st32 =>
       refine ⟨?_, ?_, ?_, ?_, ?_, ?_, ?_, ?_, ?_, ?_, ?_, trivial⟩
       ·intro a' w' hx hs hd
        obtain ⟨y, rfl⟩ := hx.ew
        have e3 : a'.tmps[3]?.getD undef = _ := hs 3 rfl
        simp only [aL, aS, aZ] at e3
        refine .inl ⟨rfl, ?_⟩
        clear hs hd hx
        go_simp
        exact ⟨Ext.refl _ _, rfl⟩
       ·intro a' w' hx hs hd
        obtain ⟨y, rfl⟩ := hx.ew
        have e42 : a'.tmps[42]?.getD undef = _ := hd 0 42 rfl rfl
        refine .inl ⟨rfl, ?_⟩
        clear hs hd hx
        go_simp
        exact ⟨Ext.refl _ _, rfl⟩
       ·intro a' w' hx hs hd
        obtain ⟨y, rfl⟩ := hx.ew
        have e0 : a'.tmps[0]?.getD undef = _ := hs 0 rfl
        simp only [aL, aS, aZ] at e0
        refine .inl ⟨rfl, ?_⟩
        clear hs hd hx
        go_simp
        exact ⟨Ext.refl _ _, rfl⟩
       ·intro a' w' hx hs hd
        obtain ⟨y, rfl⟩ := hx.ew
        have e44 : a'.tmps[44]?.getD undef = _ := hd 2 44 rfl rfl
        refine .inl ⟨rfl, ?_⟩
        clear hs hd hx
        go_simp
        exact ⟨Ext.refl _ _, rfl⟩
       ·intro a' w' hx hs hd
        obtain ⟨y, rfl⟩ := hx.ew
        have e45 : a'.tmps[45]?.getD undef = _ := hd 3 45 rfl rfl
        refine .inl ⟨rfl, ?_⟩
        clear hs hd hx
        go_simp
        exact ⟨Ext.refl _ _, rfl⟩
       ·intro a' w' hx hs hd
        obtain ⟨y, rfl⟩ := hx.ew
        have e46 : a'.tmps[46]?.getD undef = _ := hd 4 46 rfl rfl
        refine .inl ⟨rfl, ?_⟩
        clear hs hd hx
        go_simp
        exact ⟨Ext.refl _ _, rfl⟩
       ·intro a' w' hx hs hd
        obtain ⟨y, rfl⟩ := hx.ew
        have e3 : a'.tmps[3]?.getD undef = _ := hs 3 rfl
        simp only [aL, aS, aZ] at e3
        refine .inl ⟨rfl, ?_⟩
        clear hs hd hx
        go_simp
        exact ⟨Ext.refl _ _, rfl⟩
       ·intro a' w' hx hs hd
        obtain ⟨y, rfl⟩ := hx.ew
        have e48 : a'.tmps[48]?.getD undef = _ := hd 6 48 rfl rfl
        refine .inl ⟨rfl, ?_⟩
        clear hs hd hx
        go_simp
        exact ⟨Ext.refl _ _, rfl⟩
       ·intro a' w' hx hs hd
        obtain ⟨y, rfl⟩ := hx.ew
        have e47 : a'.tmps[47]?.getD undef = _ := hd 5 47 rfl rfl
        have e49 : a'.tmps[49]?.getD undef = _ := hd 7 49 rfl rfl
        refine .inl ⟨rfl, ?_⟩
        clear hs hd hx
        go_simp
        exact ⟨Ext.refl _ _, rfl⟩
       ·intro a' w' hx hs hd
        obtain ⟨y, rfl⟩ := hx.ew
        have e50 : a'.tmps[50]?.getD undef = _ := hd 8 50 rfl rfl
        refine .inl ⟨rfl, ?_⟩
        clear hs hd hx
        go_simp
        exact ⟨Ext.refl _ _, rfl⟩
       ·intro a' w' hx hs hd
        obtain ⟨y, rfl⟩ := hx.ew
        have e43 : a'.tmps[43]?.getD undef = _ := hd 1 43 rfl rfl
        have e51 : a'.tmps[51]?.getD undef = _ := hd 9 51 rfl rfl
        refine .inl ⟨rfl, ?_⟩
        clear hs hd hx
        go_simp
        exact ⟨Ext.refl _ _, rfl⟩
      case' q32 =>
       intro vs w' hx hRR
       obtain ⟨x11, rfl⟩ := hx.ew
       have q0 : vs 0 = _ := hRR 0 (by decide)
       have q1 : vs 1 = _ := hRR 1 (by decide)
       have q2 : vs 2 = _ := hRR 2 (by decide)
       have q3 : vs 3 = _ := hRR 3 (by decide)
       have q4 : vs 4 = _ := hRR 4 (by decide)
       have q5 : vs 5 = _ := hRR 5 (by decide)
       have q6 : vs 6 = _ := hRR 6 (by decide)
       have q7 : vs 7 = _ := hRR 7 (by decide)
       have q8 : vs 8 = _ := hRR 8 (by decide)
       have q9 : vs 9 = _ := hRR 9 (by decide)
       have q10 : vs 10 = _ := hRR 10 (by decide)
       clear hRR hx
       simp only [putAll, List.take_succ_cons, List.take_zero, List.drop_succ_cons, List.drop_zero, Act.put, List.setIfInBounds_toArray, List.set_cons_zero, List.set_cons_succ, Nat.reduceAdd, Nat.zero_add]
       simp only [q0, q1, q2, q3, q4, q5, q6, q7, q8, q9, q10]
       clear q0 q1 q2 q3 q4 q5 q6 q7 q8 q9 q10 vs
      go_upto_region 14 with (refine wpList_store_box rfl 48 _ _ rfl x11.on.heap.size _ [.int .i64 0, .float .f64 0] _ rfl rfl (Bx.newAt _ _ _ _ rfl) rfl info_result2 (by simp [Value.oneCell']) (fun W hB => ?_); have B7 := hI_ hB; clear hB)
      have XW : Ext Non x11.on W.on := exG0
      have XQ : Ext Non w6 W.on := (exG0 : Ext Non w6 x11.on).trans XW
      have BQ7 := hI_ (BQ6.out.extN XQ)
      have BR7 := hI_ (BR6.out.extN XQ)
      have HL7 := hI_ (HL6.out.extN XQ)
      have HX7 := hI_ (HX6.out.trans XQ.ofNon)
      have hk7 : w.heap.size + 1 < x11.on.heap.size := by have h1 := (exG0 : Ext Non w6 x11.on).size; have h2 := BR6.out.lt; omega
      try simp only [Act.put]
      clear XW XQ p0 p1 p2 p3 p4 p5 u0 u1 f0 f1 s5 s6 sc rc0 rc1
      generalize x11.on.heap.size = k7 at *
      generalize W.on = w7 at *
      have p0 : w7.cell? ⟨w.heap.size, 0, none⟩ = some (.int .i64 (cn : Int)) := BQ7.out.cell rfl
      have p1 : w7.cell? ⟨w.heap.size, 1, none⟩ = some (.int .i64 st) := BQ7.out.cell rfl
      have p2 : w7.cell? ⟨w.heap.size, 2, none⟩ = some (.int .i64 k) := BQ7.out.cell rfl
      have p3 : w7.cell? ⟨w.heap.size, 3, none⟩ = some (.string key) := BQ7.out.cell rfl
      have p4 : w7.cell? ⟨w.heap.size, 4, none⟩ = some (.float .f64 x) := BQ7.out.cell rfl
      have p5 : w7.cell? ⟨w.heap.size, 5, none⟩ = some (.int .i64 id) := BQ7.out.cell rfl
      have z0 : w7.cell? ⟨k7, 0, none⟩ = some (.int .i64 0) := B7.out.cell rfl
      have z1 : w7.cell? ⟨k7, 1, none⟩ = some (.float .f64 0) := B7.out.cell rfl
      have hbq : ¬ One b w.heap.size := fun q => by have := HLT.out.1; have : w.heap.size = b := q; omega
      have hbr : ¬ One b (w.heap.size + 1) := fun q => by have := HLT.out.1; have : w.heap.size + 1 = b := q; omega
      have hb7 : ¬ One b k7 := fun q => by have := HLT.out.1; have : k7 = b := q; omega
      have HN7 : Hid (k7 ≠ rb ∧ k7 ≠ w.heap.size ∧ k7 ≠ w.heap.size + 1) := hI_ ⟨by have := HLT.out.2.1; omega, by omega, by omega⟩
      have HOPN := hI_ (⟨hbq, hbr, hb7⟩ : ¬ One b w.heap.size ∧ ¬ One b (w.heap.size + 1) ∧ ¬ One b k7)
      clear hbq hbr hb7
      by_cases hk67 : k = 6 ∨ k = 7
      ·rcases hk67 with rfl | rfl
       ·go_wp2_with fail
        refine (ref12_moved b sb rb (tick g) IT.out 6 key x id (by omega) (opB_kinds HOP.out (by show (6 : Int) = 6 ∨ (6 : Int) = 7; omega)) _ HL7.out).mono ?_
        rintro e w8 ⟨rfl, hx8, hL8⟩
        have HL8 := hI_ hL8
        have HX8 := hI_ (HX7.out.trans hx8)
        have BQ8 := hI_ (BQ7.out.ext hx8 HOPN.out.1)
        have BR8 := hI_ (BR7.out.ext hx8 HOPN.out.2.1)
        have B8 := hI_ (B7.out.ext hx8 HOPN.out.2.2)
        clear hx8 hL8 p0 p1 p2 p3 p4 p5 z0 z1
        obtain ⟨G, hG⟩ : ∃ G, G = applyL (tick g) ⟨6, key, x, id⟩ := ⟨_, rfl⟩
        obtain ⟨cd, hcd⟩ : ∃ cd, cd = (applyR (tick g) ⟨6, key, x, id⟩).code := ⟨_, rfl⟩
        obtain ⟨rl, hrl⟩ : ∃ rl, rl = (applyR (tick g) ⟨6, key, x, id⟩).real := ⟨_, rfl⟩
        have HAR : Hid (applyR (tick g) ⟨6, key, x, id⟩ = ⟨cd, rl⟩) := hI_ (by rw [hcd, hrl])
        rw [← hG, ← hcd, ← hrl] at HG
        rw [← hG] at HL8
        rw [← hcd, ← hrl]
        clear hG hcd hrl
        go_upto_region 17 with (refine wpList_store_box rfl 48 _ _ rfl k7 _ [.int .i64 cd, .float .f64 rl] _ rfl rfl B8.out rfl info_result2 (by simp [Value.oneCell']) (fun W hB => ?_); have B9 := hI_ hB; clear hB)
        have hWx : Ext (One k7) w8 W.on := W.ext
        have HL9 := hI_ (HL8.out.other B8.out (by decide) (by decide) (by decide) HN7.out.1 hWx)
        have BQ9 := hI_ (BQ8.out.ext hWx (fun q => HN7.out.2.1 q.symm))
        have BR9 := hI_ (BR8.out.ext hWx (fun q => HN7.out.2.2 q.symm))
        have HX9 := hI_ (HX8.out.step hWx (fun i hi e => by have e : i = k7 := e; omega))
        clear hWx
        try simp only [Act.put]
        generalize W.on = w9 at *
        have p0 : w9.cell? ⟨w.heap.size, 0, none⟩ = some (.int .i64 (cn : Int)) := BQ9.out.cell rfl
        have p1 : w9.cell? ⟨w.heap.size, 1, none⟩ = some (.int .i64 st) := BQ9.out.cell rfl
        have p2 : w9.cell? ⟨w.heap.size, 2, none⟩ = some (.int .i64 6) := BQ9.out.cell rfl
        have p3 : w9.cell? ⟨w.heap.size, 3, none⟩ = some (.string key) := BQ9.out.cell rfl
        have p4 : w9.cell? ⟨w.heap.size, 4, none⟩ = some (.float .f64 x) := BQ9.out.cell rfl
        have p5 : w9.cell? ⟨w.heap.size, 5, none⟩ = some (.int .i64 id) := BQ9.out.cell rfl
        have z0 : w9.cell? ⟨k7, 0, none⟩ = some (.int .i64 cd) := B9.out.cell rfl
        have z1 : w9.cell? ⟨k7, 1, none⟩ = some (.float .f64 rl) := B9.out.cell rfl
        obtain ⟨a91, c91, a92, c92, v9, hb9, -⟩ := HL9.out.ex
        have s5 : w9.cell? ⟨b, 5, none⟩ = some (.slice (some ⟨sb, 0, none⟩) 9 9) := hb9.cell rfl
        have s6 : w9.cell? ⟨b, 6, none⟩ = some (.slice (some ⟨rb, 0, none⟩) 9 9) := hb9.cell rfl
        clear hb9
        apply wp_region_rel_tail 9 (relR [Mo.is _, Mo.is _, Mo.is _, Mo.is _, Mo.is _, Mo.is _, Mo.is _, Mo.is _, Mo.is _]) (by kernel_rfl) (by kernel_rfl) (by kernel_rfl) (by kernel_rfl) (by kernel_rfl) (by decide) (by kernel_rfl) (relR_mono _) (StepD.all ?st33) ?q33
        case st33 =>
         refine ⟨?_, ?_, ?_, ?_, ?_, ?_, ?_, ?_, ?_, trivial⟩
         ·intro a' w' hx hs hd
          obtain ⟨y, rfl⟩ := hx.ew
          have e0 : a'.tmps[0]?.getD undef = _ := hs 0 rfl
          simp only [aL, aS, aZ] at e0
          refine .inl ⟨rfl, ?_⟩
          clear hs hd hx
          go_simp
          exact ⟨Ext.refl _ _, rfl⟩
         ·intro a' w' hx hs hd
          obtain ⟨y, rfl⟩ := hx.ew
          have e80 : a'.tmps[80]?.getD undef = _ := hd 0 80 rfl rfl
          refine .inl ⟨rfl, ?_⟩
          clear hs hd hx
          go_simp
          exact ⟨Ext.refl _ _, rfl⟩
         ·intro a' w' hx hs hd
          obtain ⟨y, rfl⟩ := hx.ew
          have e81 : a'.tmps[81]?.getD undef = _ := hd 1 81 rfl rfl
          refine .inl ⟨rfl, ?_⟩
          clear hs hd hx
          go_simp
          exact ⟨Ext.refl _ _, rfl⟩
         ·intro a' w' hx hs hd
          obtain ⟨y, rfl⟩ := hx.ew
          have e82 : a'.tmps[82]?.getD undef = _ := hd 2 82 rfl rfl
          refine .inl ⟨rfl, ?_⟩
          clear hs hd hx
          go_simp
          exact ⟨Ext.refl _ _, rfl⟩
         ·intro a' w' hx hs hd
          obtain ⟨y, rfl⟩ := hx.ew
          have e3 : a'.tmps[3]?.getD undef = _ := hs 3 rfl
          simp only [aL, aS, aZ] at e3
          refine .inl ⟨rfl, ?_⟩
          clear hs hd hx
          go_simp
          exact ⟨Ext.refl _ _, rfl⟩
         ·intro a' w' hx hs hd
          obtain ⟨y, rfl⟩ := hx.ew
          have e84 : a'.tmps[84]?.getD undef = _ := hd 4 84 rfl rfl
          refine .inl ⟨rfl, ?_⟩
          clear hs hd hx
          go_simp
          exact ⟨Ext.refl _ _, rfl⟩
         ·intro a' w' hx hs hd
          obtain ⟨y, rfl⟩ := hx.ew
          have e3 : a'.tmps[3]?.getD undef = _ := hs 3 rfl
          simp only [aL, aS, aZ] at e3
          refine .inl ⟨rfl, ?_⟩
          clear hs hd hx
          go_simp
          exact ⟨Ext.refl _ _, rfl⟩
         ·intro a' w' hx hs hd
          obtain ⟨y, rfl⟩ := hx.ew
          have e86 : a'.tmps[86]?.getD undef = _ := hd 6 86 rfl rfl
          refine .inl ⟨rfl, ?_⟩
          clear hs hd hx
          go_simp
          exact ⟨Ext.refl _ _, rfl⟩
         ·intro a' w' hx hs hd
          obtain ⟨y, rfl⟩ := hx.ew
          have e83 : a'.tmps[83]?.getD undef = _ := hd 3 83 rfl rfl
          have e85 : a'.tmps[85]?.getD undef = _ := hd 5 85 rfl rfl
          refine .inl ⟨rfl, ?_⟩
          clear hs hd hx
          go_simp
          exact ⟨Ext.refl _ _, rfl⟩
        case' q33 =>
         intro vs w' hx hRR
         obtain ⟨xa, rfl⟩ := hx.ew
         have q0 : vs 0 = _ := hRR 0 (by decide)
         have q1 : vs 1 = _ := hRR 1 (by decide)
         have q2 : vs 2 = _ := hRR 2 (by decide)
         have q3 : vs 3 = _ := hRR 3 (by decide)
         have q4 : vs 4 = _ := hRR 4 (by decide)
         have q5 : vs 5 = _ := hRR 5 (by decide)
         have q6 : vs 6 = _ := hRR 6 (by decide)
         have q7 : vs 7 = _ := hRR 7 (by decide)
         have q8 : vs 8 = _ := hRR 8 (by decide)
         clear hRR hx
         simp only [putAll, List.take_succ_cons, List.take_zero, List.drop_succ_cons, List.drop_zero, Act.put, List.setIfInBounds_toArray, List.set_cons_zero, List.set_cons_succ, Nat.reduceAdd, Nat.zero_add]
         simp only [q0, q1, q2, q3, q4, q5, q6, q7, q8]
         clear q0 q1 q2 q3 q4 q5 q6 q7 q8 vs
        have HLa := hI_ (HL9.out.extN xa.ext)
        have BQa := hI_ (BQ9.out.extN xa.ext)
        have BRa := hI_ (BR9.out.extN xa.ext)
        have Ba := hI_ (B9.out.extN xa.ext)
        have HXa := hI_ (HX9.out.trans xa.ext.ofNon)
        clear p0 p1 p2 p3 p4 p5 z0 z1 s5 s6
        generalize xa.on = w10 at *
        have sc : w10.cell? ⟨sb, cn, none⟩ = some (.int .i64 (G.cl i).stamp) := by rw [HCN.out]; exact HLa.out.st.cell (st_get _ hi8)
        have sf : w10.frozen? ⟨sb, cn, none⟩ = false := froz_of_heap HLa.out.st.h
        go_upto_region 18 with fail
        have hne := HLa.out.ne
        have XS : Ext (One sb) w10 (w10.setCell ⟨sb, cn, none⟩ (.int .i64 st)) := (Ext.refl _ _).set1 _
        have hsq : ¬ One sb w.heap.size := fun q => by have := HLT.out.2.2; have : w.heap.size = sb := q; omega
        have hsr : ¬ One sb (w.heap.size + 1) := fun q => by have := HLT.out.2.2; have : w.heap.size + 1 = sb := q; omega
        have hs7 : ¬ One sb k7 := fun q => by have := HLT.out.2.2; have : k7 = sb := q; omega
        have BQb := hI_ (BQa.out.ext XS hsq)
        have BRb := hI_ (BRa.out.ext XS hsr)
        have Bb := hI_ (Ba.out.ext XS hs7)
        obtain ⟨aa1, ca1, aa2, ca2, va, hba, -⟩ := HLa.out.ex
        have HBb := hI_ (hba.ext XS (fun q => hne.1 q))
        have HRb := hI_ (HLa.out.rs.ext XS (fun q => hne.2.2 q.symm))
        have XSi : Ext Non (w10.setCell ⟨sb, cn, none⟩ (.int .i64 st)) (w10.setCell ⟨sb, cn, none⟩ (.int .i64 st)) := Ext.refl _ _
        clear hba hne hsq hsr hs7 sc sf
        have HPC : Hid (∀ W2, Ext Non (w10.setCell ⟨sb, cn, none⟩ (.int .i64 st)) W2 → RL ((W2.setCell ⟨rb, cn * 2, none⟩ (.int .i64 cd)).setCell ⟨rb, cn * 2 + 1, none⟩ (.float .f64 rl)) b sb rb (setCl G i ⟨st, cd, rl⟩) ∧ Ext (Tri b sb rb) w10 ((W2.setCell ⟨rb, cn * 2, none⟩ (.int .i64 cd)).setCell ⟨rb, cn * 2 + 1, none⟩ (.float .f64 rl))) := hI_ (fun W2 x => by
         rw [HCN.out] at x ⊢; exact HLa.out.put_cl hi8 x)
        clear XS XSi
        generalize w10.setCell ⟨sb, cn, none⟩ (.int .i64 st) = w11 at *
        have p0 : w11.cell? ⟨w.heap.size, 0, none⟩ = some (.int .i64 (cn : Int)) := BQb.out.cell rfl
        have p1 : w11.cell? ⟨w.heap.size, 1, none⟩ = some (.int .i64 st) := BQb.out.cell rfl
        have p2 : w11.cell? ⟨w.heap.size, 2, none⟩ = some (.int .i64 6) := BQb.out.cell rfl
        have p3 : w11.cell? ⟨w.heap.size, 3, none⟩ = some (.string key) := BQb.out.cell rfl
        have p4 : w11.cell? ⟨w.heap.size, 4, none⟩ = some (.float .f64 x) := BQb.out.cell rfl
        have p5 : w11.cell? ⟨w.heap.size, 5, none⟩ = some (.int .i64 id) := BQb.out.cell rfl
        have z0 : w11.cell? ⟨k7, 0, none⟩ = some (.int .i64 cd) := Bb.out.cell rfl
        have z1 : w11.cell? ⟨k7, 1, none⟩ = some (.float .f64 rl) := Bb.out.cell rfl
        have s6 : w11.cell? ⟨b, 6, none⟩ = some (.slice (some ⟨rb, 0, none⟩) 9 9) := HBb.out.cell rfl
        apply wp_region_rel_tail 8 (relR [Mo.is _, Mo.is _, Mo.is _, Mo.is _, Mo.is _, Mo.is _, Mo.is _, Mo.is _]) (by kernel_rfl) (by kernel_rfl) (by kernel_rfl) (by kernel_rfl) (by kernel_rfl) (by decide) (by kernel_rfl) (relR_mono _) (StepD.all ?st34) ?q34
        case st34 =>
         refine ⟨?_, ?_, ?_, ?_, ?_, ?_, ?_, ?_, trivial⟩
         ·intro a' w' hx hs hd
          obtain ⟨y, rfl⟩ := hx.ew
          have e0 : a'.tmps[0]?.getD undef = _ := hs 0 rfl
          simp only [aL, aS, aZ] at e0
          refine .inl ⟨rfl, ?_⟩
          clear hs hd hx
          go_simp
          exact ⟨Ext.refl _ _, rfl⟩
         ·intro a' w' hx hs hd
          obtain ⟨y, rfl⟩ := hx.ew
          have e89 : a'.tmps[89]?.getD undef = _ := hd 0 89 rfl rfl
          refine .inl ⟨rfl, ?_⟩
          clear hs hd hx
          go_simp
          exact ⟨Ext.refl _ _, rfl⟩
         ·intro a' w' hx hs hd
          obtain ⟨y, rfl⟩ := hx.ew
          have e90 : a'.tmps[90]?.getD undef = _ := hd 1 90 rfl rfl
          refine .inl ⟨rfl, ?_⟩
          clear hs hd hx
          go_simp
          exact ⟨Ext.refl _ _, rfl⟩
         ·intro a' w' hx hs hd
          obtain ⟨y, rfl⟩ := hx.ew
          have e91 : a'.tmps[91]?.getD undef = _ := hd 2 91 rfl rfl
          refine .inl ⟨rfl, ?_⟩
          clear hs hd hx
          go_simp
          exact ⟨Ext.refl _ _, rfl⟩
         ·intro a' w' hx hs hd
          obtain ⟨y, rfl⟩ := hx.ew
          have e3 : a'.tmps[3]?.getD undef = _ := hs 3 rfl
          simp only [aL, aS, aZ] at e3
          refine .inl ⟨rfl, ?_⟩
          clear hs hd hx
          go_simp
          exact ⟨Ext.refl _ _, rfl⟩
         ·intro a' w' hx hs hd
          obtain ⟨y, rfl⟩ := hx.ew
          have e93 : a'.tmps[93]?.getD undef = _ := hd 4 93 rfl rfl
          refine .inl ⟨rfl, ?_⟩
          clear hs hd hx
          go_simp
          exact ⟨Ext.refl _ _, rfl⟩
         ·intro a' w' hx hs hd
          obtain ⟨y, rfl⟩ := hx.ew
          have e7 : a'.tmps[7]?.getD undef = _ := hs 7 rfl
          simp only [aL, aS, aZ] at e7
          refine .inl ⟨rfl, ?_⟩
          clear hs hd hx
          go_simp
          exact ⟨Ext.refl _ _, rfl⟩
         ·intro a' w' hx hs hd
          obtain ⟨y, rfl⟩ := hx.ew
          have e92 : a'.tmps[92]?.getD undef = _ := hd 3 92 rfl rfl
          have e94 : a'.tmps[94]?.getD undef = _ := hd 5 94 rfl rfl
          refine .inl ⟨rfl, ?_⟩
          clear hs hd hx
          go_simp
          exact ⟨Ext.refl _ _, rfl⟩
        case' q34 =>
         intro vs w' hx hRR
         obtain ⟨xb, rfl⟩ := hx.ew
         have q0 : vs 0 = _ := hRR 0 (by decide)
         have q1 : vs 1 = _ := hRR 1 (by decide)
         have q2 : vs 2 = _ := hRR 2 (by decide)
         have q3 : vs 3 = _ := hRR 3 (by decide)
         have q4 : vs 4 = _ := hRR 4 (by decide)
         have q5 : vs 5 = _ := hRR 5 (by decide)
         have q6 : vs 6 = _ := hRR 6 (by decide)
         have q7 : vs 7 = _ := hRR 7 (by decide)
         clear hRR hx
         simp only [putAll, List.take_succ_cons, List.take_zero, List.drop_succ_cons, List.drop_zero, Act.put, List.setIfInBounds_toArray, List.set_cons_zero, List.set_cons_succ, Nat.reduceAdd, Nat.zero_add]
         simp only [q0, q1, q2, q3, q4, q5, q6, q7]
         clear q0 q1 q2 q3 q4 q5 q6 q7 vs
        have BRc := hI_ (BRb.out.extN xb.ext)
        have Bc := hI_ (Bb.out.extN xb.ext)
        have HRc := hI_ (HRb.out.extN xb.ext)
        have HPd := hI_ (HPC.out _ xb.ext)
        clear p0 p1 p2 p3 p4 p5 z0 z1 s6
        generalize xb.on = w12 at *
        have rc0 : w12.cell? ⟨rb, cn * 2, none⟩ = some (.int .i64 (G.cl i).code) := by rw [HCN.out]; exact HRc.out.cell (rs_get _ hi8).1
        have rc1 : w12.cell? ⟨rb, cn * 2 + 1, none⟩ = some (.float .f64 (G.cl i).real) := by rw [HCN.out]; exact HRc.out.cell (rs_get _ hi8).2
        have rf0 : w12.frozen? ⟨rb, cn * 2, none⟩ = false := froz_of_heap HRc.out.h
        have rf1 : w12.frozen? ⟨rb, cn * 2 + 1, none⟩ = false := froz_of_heap HRc.out.h
        go_upto_region 19 with fail
        have XR : Ext (One rb) w12 ((w12.setCell ⟨rb, cn * 2, none⟩ (.int .i64 cd)).setCell ⟨rb, cn * 2 + 1, none⟩ (.float .f64 rl)) := ((Ext.refl _ _).set1 _).set1 _
        have hrr : ¬ One rb (w.heap.size + 1) := fun q => by have := HLT.out.2.1; have : w.heap.size + 1 = rb := q; omega
        have hr7 : ¬ One rb k7 := fun q => HN7.out.1 q
        have BRd := hI_ (BRc.out.ext XR hrr)
        have Bd := hI_ (Bc.out.ext XR hr7)
        have HXd := hI_ ((one_tri (sb := sb) (rb := rb) HXa.out).trans HPd.out.2)
        have HLd := hI_ HPd.out.1
        clear XR hrr hr7 rc0 rc1 rf0 rf1 HPd
        generalize (w12.setCell ⟨rb, cn * 2, none⟩ (.int .i64 cd)).setCell ⟨rb, cn * 2 + 1, none⟩ (.float .f64 rl) = w13 at *
        have z0 : w13.cell? ⟨k7, 0, none⟩ = some (.int .i64 cd) := Bd.out.cell rfl
        have z1 : w13.cell? ⟨k7, 1, none⟩ = some (.float .f64 rl) := Bd.out.cell rfl
        have u0 : w13.cell? ⟨w.heap.size + 1, 0, none⟩ = some (.int .i64 0) := BRd.out.cell rfl
        have u1 : w13.cell? ⟨w.heap.size + 1, 1, none⟩ = some (.float .f64 0) := BRd.out.cell rfl
        have f0 : w13.frozen? ⟨w.heap.size + 1, 0, none⟩ = false := froz_of_heap BRd.out.h
        have f1 : w13.frozen? ⟨w.heap.size + 1, 1, none⟩ = false := froz_of_heap BRd.out.h
        go_wp2
        obtain ⟨E1, E2, r0, r1⟩ := rdo_end (v0 := .int .i64 cd) (v1 := .float .f64 rl) BRd.out (by omega : w.heap.size ≤ w.heap.size + 1) HLT.out.2.1 HXd.out HLd.out
        generalize (w13.setCell ⟨w.heap.size + 1, 0, none⟩ (.int .i64 cd)).setCell ⟨w.heap.size + 1, 1, none⟩ (.float .f64 rl) = w9 at *
        refine bodyPost_ret (v := .tuple #[.agg #[.int .i64 cd, .float .f64 rl], .int .i64 0]) (by simp [results, Tryz.results22, go_sem, r0, r1]) rfl ?_
        exact ⟨by rw [HG.out.1, HG.out.2.1, HAR.out], E1, by rw [HG.out.2.2]; exact E2⟩
       ·go_wp2_with fail
        refine (ref12_moved b sb rb (tick g) IT.out 7 key x id (by omega) (opB_kinds HOP.out (by show (7 : Int) = 6 ∨ (7 : Int) = 7; omega)) _ HL7.out).mono ?_
        rintro e w8 ⟨rfl, hx8, hL8⟩
        have HL8 := hI_ hL8
        have HX8 := hI_ (HX7.out.trans hx8)
        have BQ8 := hI_ (BQ7.out.ext hx8 HOPN.out.1)
        have BR8 := hI_ (BR7.out.ext hx8 HOPN.out.2.1)
        have B8 := hI_ (B7.out.ext hx8 HOPN.out.2.2)
        clear hx8 hL8 p0 p1 p2 p3 p4 p5 z0 z1
        obtain ⟨G, hG⟩ : ∃ G, G = applyL (tick g) ⟨7, key, x, id⟩ := ⟨_, rfl⟩
        obtain ⟨cd, hcd⟩ : ∃ cd, cd = (applyR (tick g) ⟨7, key, x, id⟩).code := ⟨_, rfl⟩
        obtain ⟨rl, hrl⟩ : ∃ rl, rl = (applyR (tick g) ⟨7, key, x, id⟩).real := ⟨_, rfl⟩
        have HAR : Hid (applyR (tick g) ⟨7, key, x, id⟩ = ⟨cd, rl⟩) := hI_ (by rw [hcd, hrl])
        rw [← hG, ← hcd, ← hrl] at HG
        rw [← hG] at HL8
        rw [← hcd, ← hrl]
        clear hG hcd hrl
        go_upto_region 17 with (refine wpList_store_box rfl 48 _ _ rfl k7 _ [.int .i64 cd, .float .f64 rl] _ rfl rfl B8.out rfl info_result2 (by simp [Value.oneCell']) (fun W hB => ?_); have B9 := hI_ hB; clear hB)
        have hWx : Ext (One k7) w8 W.on := W.ext
        have HL9 := hI_ (HL8.out.other B8.out (by decide) (by decide) (by decide) HN7.out.1 hWx)
        have BQ9 := hI_ (BQ8.out.ext hWx (fun q => HN7.out.2.1 q.symm))
        have BR9 := hI_ (BR8.out.ext hWx (fun q => HN7.out.2.2 q.symm))
        have HX9 := hI_ (HX8.out.step hWx (fun i hi e => by have e : i = k7 := e; omega))
        clear hWx
        try simp only [Act.put]
        generalize W.on = w9 at *
        have p0 : w9.cell? ⟨w.heap.size, 0, none⟩ = some (.int .i64 (cn : Int)) := BQ9.out.cell rfl
        have p1 : w9.cell? ⟨w.heap.size, 1, none⟩ = some (.int .i64 st) := BQ9.out.cell rfl
        have p2 : w9.cell? ⟨w.heap.size, 2, none⟩ = some (.int .i64 7) := BQ9.out.cell rfl
        have p3 : w9.cell? ⟨w.heap.size, 3, none⟩ = some (.string key) := BQ9.out.cell rfl
        have p4 : w9.cell? ⟨w.heap.size, 4, none⟩ = some (.float .f64 x) := BQ9.out.cell rfl
        have p5 : w9.cell? ⟨w.heap.size, 5, none⟩ = some (.int .i64 id) := BQ9.out.cell rfl
        have z0 : w9.cell? ⟨k7, 0, none⟩ = some (.int .i64 cd) := B9.out.cell rfl
        have z1 : w9.cell? ⟨k7, 1, none⟩ = some (.float .f64 rl) := B9.out.cell rfl
        obtain ⟨a91, c91, a92, c92, v9, hb9, -⟩ := HL9.out.ex
        have s5 : w9.cell? ⟨b, 5, none⟩ = some (.slice (some ⟨sb, 0, none⟩) 9 9) := hb9.cell rfl
        have s6 : w9.cell? ⟨b, 6, none⟩ = some (.slice (some ⟨rb, 0, none⟩) 9 9) := hb9.cell rfl
        clear hb9
        apply wp_region_rel_tail 9 (relR [Mo.is _, Mo.is _, Mo.is _, Mo.is _, Mo.is _, Mo.is _, Mo.is _, Mo.is _, Mo.is _]) (by kernel_rfl) (by kernel_rfl) (by kernel_rfl) (by kernel_rfl) (by kernel_rfl) (by decide) (by kernel_rfl) (relR_mono _) (StepD.all ?st35) ?q35
        case st35 =>
         refine ⟨?_, ?_, ?_, ?_, ?_, ?_, ?_, ?_, ?_, trivial⟩
         ·intro a' w' hx hs hd
          obtain ⟨y, rfl⟩ := hx.ew
          have e0 : a'.tmps[0]?.getD undef = _ := hs 0 rfl
          simp only [aL, aS, aZ] at e0
          refine .inl ⟨rfl, ?_⟩
          clear hs hd hx
          go_simp
          exact ⟨Ext.refl _ _, rfl⟩
         ·intro a' w' hx hs hd
          obtain ⟨y, rfl⟩ := hx.ew
          have e80 : a'.tmps[80]?.getD undef = _ := hd 0 80 rfl rfl
          refine .inl ⟨rfl, ?_⟩
          clear hs hd hx
          go_simp
          exact ⟨Ext.refl _ _, rfl⟩
         ·intro a' w' hx hs hd
          obtain ⟨y, rfl⟩ := hx.ew
          have e81 : a'.tmps[81]?.getD undef = _ := hd 1 81 rfl rfl
          refine .inl ⟨rfl, ?_⟩
          clear hs hd hx
          go_simp
          exact ⟨Ext.refl _ _, rfl⟩
         ·intro a' w' hx hs hd
          obtain ⟨y, rfl⟩ := hx.ew
          have e82 : a'.tmps[82]?.getD undef = _ := hd 2 82 rfl rfl
          refine .inl ⟨rfl, ?_⟩
          clear hs hd hx
          go_simp
          exact ⟨Ext.refl _ _, rfl⟩
         ·intro a' w' hx hs hd
          obtain ⟨y, rfl⟩ := hx.ew
          have e3 : a'.tmps[3]?.getD undef = _ := hs 3 rfl
          simp only [aL, aS, aZ] at e3
          refine .inl ⟨rfl, ?_⟩
          clear hs hd hx
          go_simp
          exact ⟨Ext.refl _ _, rfl⟩
         ·intro a' w' hx hs hd
          obtain ⟨y, rfl⟩ := hx.ew
          have e84 : a'.tmps[84]?.getD undef = _ := hd 4 84 rfl rfl
          refine .inl ⟨rfl, ?_⟩
          clear hs hd hx
          go_simp
          exact ⟨Ext.refl _ _, rfl⟩
         ·intro a' w' hx hs hd
          obtain ⟨y, rfl⟩ := hx.ew
          have e3 : a'.tmps[3]?.getD undef = _ := hs 3 rfl
          simp only [aL, aS, aZ] at e3
          refine .inl ⟨rfl, ?_⟩
          clear hs hd hx
          go_simp
          exact ⟨Ext.refl _ _, rfl⟩
         ·intro a' w' hx hs hd
          obtain ⟨y, rfl⟩ := hx.ew
          have e86 : a'.tmps[86]?.getD undef = _ := hd 6 86 rfl rfl
          refine .inl ⟨rfl, ?_⟩
          clear hs hd hx
          go_simp
          exact ⟨Ext.refl _ _, rfl⟩
         ·intro a' w' hx hs hd
          obtain ⟨y, rfl⟩ := hx.ew
          have e83 : a'.tmps[83]?.getD undef = _ := hd 3 83 rfl rfl
          have e85 : a'.tmps[85]?.getD undef = _ := hd 5 85 rfl rfl
          refine .inl ⟨rfl, ?_⟩
          clear hs hd hx
          go_simp
          exact ⟨Ext.refl _ _, rfl⟩
        case' q35 =>
         intro vs w' hx hRR
         obtain ⟨xa, rfl⟩ := hx.ew
         have q0 : vs 0 = _ := hRR 0 (by decide)
         have q1 : vs 1 = _ := hRR 1 (by decide)
         have q2 : vs 2 = _ := hRR 2 (by decide)
         have q3 : vs 3 = _ := hRR 3 (by decide)
         have q4 : vs 4 = _ := hRR 4 (by decide)
         have q5 : vs 5 = _ := hRR 5 (by decide)
         have q6 : vs 6 = _ := hRR 6 (by decide)
         have q7 : vs 7 = _ := hRR 7 (by decide)
         have q8 : vs 8 = _ := hRR 8 (by decide)
         clear hRR hx
         simp only [putAll, List.take_succ_cons, List.take_zero, List.drop_succ_cons, List.drop_zero, Act.put, List.setIfInBounds_toArray, List.set_cons_zero, List.set_cons_succ, Nat.reduceAdd, Nat.zero_add]
         simp only [q0, q1, q2, q3, q4, q5, q6, q7, q8]
         clear q0 q1 q2 q3 q4 q5 q6 q7 q8 vs
        have HLa := hI_ (HL9.out.extN xa.ext)
        have BQa := hI_ (BQ9.out.extN xa.ext)
        have BRa := hI_ (BR9.out.extN xa.ext)
        have Ba := hI_ (B9.out.extN xa.ext)
        have HXa := hI_ (HX9.out.trans xa.ext.ofNon)
        clear p0 p1 p2 p3 p4 p5 z0 z1 s5 s6
        generalize xa.on = w10 at *
        have sc : w10.cell? ⟨sb, cn, none⟩ = some (.int .i64 (G.cl i).stamp) := by rw [HCN.out]; exact HLa.out.st.cell (st_get _ hi8)
        have sf : w10.frozen? ⟨sb, cn, none⟩ = false := froz_of_heap HLa.out.st.h
        go_upto_region 18 with fail
        have hne := HLa.out.ne
        have XS : Ext (One sb) w10 (w10.setCell ⟨sb, cn, none⟩ (.int .i64 st)) := (Ext.refl _ _).set1 _
        have hsq : ¬ One sb w.heap.size := fun q => by have := HLT.out.2.2; have : w.heap.size = sb := q; omega
        have hsr : ¬ One sb (w.heap.size + 1) := fun q => by have := HLT.out.2.2; have : w.heap.size + 1 = sb := q; omega
        have hs7 : ¬ One sb k7 := fun q => by have := HLT.out.2.2; have : k7 = sb := q; omega
        have BQb := hI_ (BQa.out.ext XS hsq)
        have BRb := hI_ (BRa.out.ext XS hsr)
        have Bb := hI_ (Ba.out.ext XS hs7)
        obtain ⟨aa1, ca1, aa2, ca2, va, hba, -⟩ := HLa.out.ex
        have HBb := hI_ (hba.ext XS (fun q => hne.1 q))
        have HRb := hI_ (HLa.out.rs.ext XS (fun q => hne.2.2 q.symm))
        have XSi : Ext Non (w10.setCell ⟨sb, cn, none⟩ (.int .i64 st)) (w10.setCell ⟨sb, cn, none⟩ (.int .i64 st)) := Ext.refl _ _
        clear hba hne hsq hsr hs7 sc sf
        have HPC : Hid (∀ W2, Ext Non (w10.setCell ⟨sb, cn, none⟩ (.int .i64 st)) W2 → RL ((W2.setCell ⟨rb, cn * 2, none⟩ (.int .i64 cd)).setCell ⟨rb, cn * 2 + 1, none⟩ (.float .f64 rl)) b sb rb (setCl G i ⟨st, cd, rl⟩) ∧ Ext (Tri b sb rb) w10 ((W2.setCell ⟨rb, cn * 2, none⟩ (.int .i64 cd)).setCell ⟨rb, cn * 2 + 1, none⟩ (.float .f64 rl))) := hI_ (fun W2 x => by
         rw [HCN.out] at x ⊢; exact HLa.out.put_cl hi8 x)
        clear XS XSi
        generalize w10.setCell ⟨sb, cn, none⟩ (.int .i64 st) = w11 at *
        have p0 : w11.cell? ⟨w.heap.size, 0, none⟩ = some (.int .i64 (cn : Int)) := BQb.out.cell rfl
        have p1 : w11.cell? ⟨w.heap.size, 1, none⟩ = some (.int .i64 st) := BQb.out.cell rfl
        have p2 : w11.cell? ⟨w.heap.size, 2, none⟩ = some (.int .i64 7) := BQb.out.cell rfl
        have p3 : w11.cell? ⟨w.heap.size, 3, none⟩ = some (.string key) := BQb.out.cell rfl
        have p4 : w11.cell? ⟨w.heap.size, 4, none⟩ = some (.float .f64 x) := BQb.out.cell rfl
        have p5 : w11.cell? ⟨w.heap.size, 5, none⟩ = some (.int .i64 id) := BQb.out.cell rfl
        have z0 : w11.cell? ⟨k7, 0, none⟩ = some (.int .i64 cd) := Bb.out.cell rfl
        have z1 : w11.cell? ⟨k7, 1, none⟩ = some (.float .f64 rl) := Bb.out.cell rfl
        have s6 : w11.cell? ⟨b, 6, none⟩ = some (.slice (some ⟨rb, 0, none⟩) 9 9) := HBb.out.cell rfl
        apply wp_region_rel_tail 8 (relR [Mo.is _, Mo.is _, Mo.is _, Mo.is _, Mo.is _, Mo.is _, Mo.is _, Mo.is _]) (by kernel_rfl) (by kernel_rfl) (by kernel_rfl) (by kernel_rfl) (by kernel_rfl) (by decide) (by kernel_rfl) (relR_mono _) (StepD.all ?st36) ?q36
        case st36 =>
         refine ⟨?_, ?_, ?_, ?_, ?_, ?_, ?_, ?_, trivial⟩
         ·intro a' w' hx hs hd
          obtain ⟨y, rfl⟩ := hx.ew
          have e0 : a'.tmps[0]?.getD undef = _ := hs 0 rfl
          simp only [aL, aS, aZ] at e0
          refine .inl ⟨rfl, ?_⟩
          clear hs hd hx
          go_simp
          exact ⟨Ext.refl _ _, rfl⟩
         ·intro a' w' hx hs hd
          obtain ⟨y, rfl⟩ := hx.ew
          have e89 : a'.tmps[89]?.getD undef = _ := hd 0 89 rfl rfl
          refine .inl ⟨rfl, ?_⟩
          clear hs hd hx
          go_simp
          exact ⟨Ext.refl _ _, rfl⟩
         ·intro a' w' hx hs hd
          obtain ⟨y, rfl⟩ := hx.ew
          have e90 : a'.tmps[90]?.getD undef = _ := hd 1 90 rfl rfl
          refine .inl ⟨rfl, ?_⟩
          clear hs hd hx
          go_simp
          exact ⟨Ext.refl _ _, rfl⟩
         ·intro a' w' hx hs hd
          obtain ⟨y, rfl⟩ := hx.ew
          have e91 : a'.tmps[91]?.getD undef = _ := hd 2 91 rfl rfl
          refine .inl ⟨rfl, ?_⟩
          clear hs hd hx
          go_simp
          exact ⟨Ext.refl _ _, rfl⟩
         ·intro a' w' hx hs hd
          obtain ⟨y, rfl⟩ := hx.ew
          have e3 : a'.tmps[3]?.getD undef = _ := hs 3 rfl
          simp only [aL, aS, aZ] at e3
          refine .inl ⟨rfl, ?_⟩
          clear hs hd hx
          go_simp
          exact ⟨Ext.refl _ _, rfl⟩
         ·intro a' w' hx hs hd
          obtain ⟨y, rfl⟩ := hx.ew
          have e93 : a'.tmps[93]?.getD undef = _ := hd 4 93 rfl rfl
          refine .inl ⟨rfl, ?_⟩
          clear hs hd hx
          go_simp
          exact ⟨Ext.refl _ _, rfl⟩
         ·intro a' w' hx hs hd
          obtain ⟨y, rfl⟩ := hx.ew
          have e7 : a'.tmps[7]?.getD undef = _ := hs 7 rfl
          simp only [aL, aS, aZ] at e7
          refine .inl ⟨rfl, ?_⟩
          clear hs hd hx
          go_simp
          exact ⟨Ext.refl _ _, rfl⟩
         ·intro a' w' hx hs hd
          obtain ⟨y, rfl⟩ := hx.ew
          have e92 : a'.tmps[92]?.getD undef = _ := hd 3 92 rfl rfl
          have e94 : a'.tmps[94]?.getD undef = _ := hd 5 94 rfl rfl
          refine .inl ⟨rfl, ?_⟩
          clear hs hd hx
          go_simp
          exact ⟨Ext.refl _ _, rfl⟩
        case' q36 =>
         intro vs w' hx hRR
         obtain ⟨xb, rfl⟩ := hx.ew
         have q0 : vs 0 = _ := hRR 0 (by decide)
         have q1 : vs 1 = _ := hRR 1 (by decide)
         have q2 : vs 2 = _ := hRR 2 (by decide)
         have q3 : vs 3 = _ := hRR 3 (by decide)
         have q4 : vs 4 = _ := hRR 4 (by decide)
         have q5 : vs 5 = _ := hRR 5 (by decide)
         have q6 : vs 6 = _ := hRR 6 (by decide)
         have q7 : vs 7 = _ := hRR 7 (by decide)
         clear hRR hx
         simp only [putAll, List.take_succ_cons, List.take_zero, List.drop_succ_cons, List.drop_zero, Act.put, List.setIfInBounds_toArray, List.set_cons_zero, List.set_cons_succ, Nat.reduceAdd, Nat.zero_add]
         simp only [q0, q1, q2, q3, q4, q5, q6, q7]
         clear q0 q1 q2 q3 q4 q5 q6 q7 vs
        have BRc := hI_ (BRb.out.extN xb.ext)
        have Bc := hI_ (Bb.out.extN xb.ext)
        have HRc := hI_ (HRb.out.extN xb.ext)
        have HPd := hI_ (HPC.out _ xb.ext)
        clear p0 p1 p2 p3 p4 p5 z0 z1 s6
        generalize xb.on = w12 at *
        have rc0 : w12.cell? ⟨rb, cn * 2, none⟩ = some (.int .i64 (G.cl i).code) := by rw [HCN.out]; exact HRc.out.cell (rs_get _ hi8).1
        have rc1 : w12.cell? ⟨rb, cn * 2 + 1, none⟩ = some (.float .f64 (G.cl i).real) := by rw [HCN.out]; exact HRc.out.cell (rs_get _ hi8).2
        have rf0 : w12.frozen? ⟨rb, cn * 2, none⟩ = false := froz_of_heap HRc.out.h
        have rf1 : w12.frozen? ⟨rb, cn * 2 + 1, none⟩ = false := froz_of_heap HRc.out.h
        go_upto_region 19 with fail
        have XR : Ext (One rb) w12 ((w12.setCell ⟨rb, cn * 2, none⟩ (.int .i64 cd)).setCell ⟨rb, cn * 2 + 1, none⟩ (.float .f64 rl)) := ((Ext.refl _ _).set1 _).set1 _
        have hrr : ¬ One rb (w.heap.size + 1) := fun q => by have := HLT.out.2.1; have : w.heap.size + 1 = rb := q; omega
        have hr7 : ¬ One rb k7 := fun q => HN7.out.1 q
        have BRd := hI_ (BRc.out.ext XR hrr)
        have Bd := hI_ (Bc.out.ext XR hr7)
        have HXd := hI_ ((one_tri (sb := sb) (rb := rb) HXa.out).trans HPd.out.2)
        have HLd := hI_ HPd.out.1
        clear XR hrr hr7 rc0 rc1 rf0 rf1 HPd
        generalize (w12.setCell ⟨rb, cn * 2, none⟩ (.int .i64 cd)).setCell ⟨rb, cn * 2 + 1, none⟩ (.float .f64 rl) = w13 at *
        have z0 : w13.cell? ⟨k7, 0, none⟩ = some (.int .i64 cd) := Bd.out.cell rfl
        have z1 : w13.cell? ⟨k7, 1, none⟩ = some (.float .f64 rl) := Bd.out.cell rfl
        have u0 : w13.cell? ⟨w.heap.size + 1, 0, none⟩ = some (.int .i64 0) := BRd.out.cell rfl
        have u1 : w13.cell? ⟨w.heap.size + 1, 1, none⟩ = some (.float .f64 0) := BRd.out.cell rfl
        have f0 : w13.frozen? ⟨w.heap.size + 1, 0, none⟩ = false := froz_of_heap BRd.out.h
        have f1 : w13.frozen? ⟨w.heap.size + 1, 1, none⟩ = false := froz_of_heap BRd.out.h
        go_wp2
        obtain ⟨E1, E2, r0, r1⟩ := rdo_end (v0 := .int .i64 cd) (v1 := .float .f64 rl) BRd.out (by omega : w.heap.size ≤ w.heap.size + 1) HLT.out.2.1 HXd.out HLd.out
        generalize (w13.setCell ⟨w.heap.size + 1, 0, none⟩ (.int .i64 cd)).setCell ⟨w.heap.size + 1, 1, none⟩ (.float .f64 rl) = w9 at *
        refine bodyPost_ret (v := .tuple #[.agg #[.int .i64 cd, .float .f64 rl], .int .i64 0]) (by simp [results, Tryz.results22, go_sem, r0, r1]) rfl ?_
        exact ⟨by rw [HG.out.1, HG.out.2.1, HAR.out], E1, by rw [HG.out.2.2]; exact E2⟩
      ·have d6 : (k == 6) = false := by rw [beq_eq_false_iff_ne]; exact fun e => hk67 (.inl e)
       have d7 : (k == 7) = false := by rw [beq_eq_false_iff_ne]; exact fun e => hk67 (.inr e)
       have HK6 : Hid (k ≠ 6) := hI_ (fun e => hk67 (.inl e))
       have HK7 : Hid (k ≠ 7) := hI_ (fun e => hk67 (.inr e))
       clear hk67
       go_wp2_with fail
       refine (ref12_keyed b sb rb (tick g) IT.out k key x hx64 id HK6.out HK7.out _ HL7.out).mono ?_
       rintro e w8 ⟨rfl, hx8, hL8⟩
       have HL8 := hI_ hL8
       have HX8 := hI_ (HX7.out.trans hx8)
       have BQ8 := hI_ (BQ7.out.ext hx8 HOPN.out.1)
       have BR8 := hI_ (BR7.out.ext hx8 HOPN.out.2.1)
       have B8 := hI_ (B7.out.ext hx8 HOPN.out.2.2)
       clear hx8 hL8 p0 p1 p2 p3 p4 p5 z0 z1
       obtain ⟨G, hG⟩ : ∃ G, G = applyL (tick g) ⟨k, key, x, id⟩ := ⟨_, rfl⟩
       obtain ⟨cd, hcd⟩ : ∃ cd, cd = (applyR (tick g) ⟨k, key, x, id⟩).code := ⟨_, rfl⟩
       obtain ⟨rl, hrl⟩ : ∃ rl, rl = (applyR (tick g) ⟨k, key, x, id⟩).real := ⟨_, rfl⟩
       have HAR : Hid (applyR (tick g) ⟨k, key, x, id⟩ = ⟨cd, rl⟩) := hI_ (by rw [hcd, hrl])
       rw [← hG, ← hcd, ← hrl] at HG
       rw [← hG] at HL8
       rw [← hcd, ← hrl]
       clear hG hcd hrl
       go_upto_region 17 with (refine wpList_store_box rfl 48 _ _ rfl k7 _ [.int .i64 cd, .float .f64 rl] _ rfl rfl B8.out rfl info_result2 (by simp [Value.oneCell']) (fun W hB => ?_); have B9 := hI_ hB; clear hB)
       have hWx : Ext (One k7) w8 W.on := W.ext
       have HL9 := hI_ (HL8.out.other B8.out (by decide) (by decide) (by decide) HN7.out.1 hWx)
       have BQ9 := hI_ (BQ8.out.ext hWx (fun q => HN7.out.2.1 q.symm))
       have BR9 := hI_ (BR8.out.ext hWx (fun q => HN7.out.2.2 q.symm))
       have HX9 := hI_ (HX8.out.step hWx (fun i hi e => by have e : i = k7 := e; omega))
       clear hWx
       try simp only [Act.put]
       generalize W.on = w9 at *
       have p0 : w9.cell? ⟨w.heap.size, 0, none⟩ = some (.int .i64 (cn : Int)) := BQ9.out.cell rfl
       have p1 : w9.cell? ⟨w.heap.size, 1, none⟩ = some (.int .i64 st) := BQ9.out.cell rfl
       have p2 : w9.cell? ⟨w.heap.size, 2, none⟩ = some (.int .i64 k) := BQ9.out.cell rfl
       have p3 : w9.cell? ⟨w.heap.size, 3, none⟩ = some (.string key) := BQ9.out.cell rfl
       have p4 : w9.cell? ⟨w.heap.size, 4, none⟩ = some (.float .f64 x) := BQ9.out.cell rfl
       have p5 : w9.cell? ⟨w.heap.size, 5, none⟩ = some (.int .i64 id) := BQ9.out.cell rfl
       have z0 : w9.cell? ⟨k7, 0, none⟩ = some (.int .i64 cd) := B9.out.cell rfl
       have z1 : w9.cell? ⟨k7, 1, none⟩ = some (.float .f64 rl) := B9.out.cell rfl
       obtain ⟨a91, c91, a92, c92, v9, hb9, -⟩ := HL9.out.ex
       have s5 : w9.cell? ⟨b, 5, none⟩ = some (.slice (some ⟨sb, 0, none⟩) 9 9) := hb9.cell rfl
       have s6 : w9.cell? ⟨b, 6, none⟩ = some (.slice (some ⟨rb, 0, none⟩) 9 9) := hb9.cell rfl
       clear hb9
       apply wp_region_rel_tail 9 (relR [Mo.is _, Mo.is _, Mo.is _, Mo.is _, Mo.is _, Mo.is _, Mo.is _, Mo.is _, Mo.is _]) (by kernel_rfl) (by kernel_rfl) (by kernel_rfl) (by kernel_rfl) (by kernel_rfl) (by decide) (by kernel_rfl) (relR_mono _) (StepD.all ?st37) ?q37
       case st37 =>
        refine ⟨?_, ?_, ?_, ?_, ?_, ?_, ?_, ?_, ?_, trivial⟩
        ·intro a' w' hx hs hd
         obtain ⟨y, rfl⟩ := hx.ew
         have e0 : a'.tmps[0]?.getD undef = _ := hs 0 rfl
         simp only [aL, aS, aZ] at e0
         refine .inl ⟨rfl, ?_⟩
         clear hs hd hx
         go_simp
         exact ⟨Ext.refl _ _, rfl⟩
        ·intro a' w' hx hs hd
         obtain ⟨y, rfl⟩ := hx.ew
         have e80 : a'.tmps[80]?.getD undef = _ := hd 0 80 rfl rfl
         refine .inl ⟨rfl, ?_⟩
         clear hs hd hx
         go_simp
         exact ⟨Ext.refl _ _, rfl⟩
        ·intro a' w' hx hs hd
         obtain ⟨y, rfl⟩ := hx.ew
         have e81 : a'.tmps[81]?.getD undef = _ := hd 1 81 rfl rfl
         refine .inl ⟨rfl, ?_⟩
         clear hs hd hx
         go_simp
         exact ⟨Ext.refl _ _, rfl⟩
        ·intro a' w' hx hs hd
         obtain ⟨y, rfl⟩ := hx.ew
         have e82 : a'.tmps[82]?.getD undef = _ := hd 2 82 rfl rfl
         refine .inl ⟨rfl, ?_⟩
         clear hs hd hx
         go_simp
         exact ⟨Ext.refl _ _, rfl⟩
        ·intro a' w' hx hs hd
         obtain ⟨y, rfl⟩ := hx.ew
         have e3 : a'.tmps[3]?.getD undef = _ := hs 3 rfl
         simp only [aL, aS, aZ] at e3
         refine .inl ⟨rfl, ?_⟩
         clear hs hd hx
         go_simp
         exact ⟨Ext.refl _ _, rfl⟩
        ·intro a' w' hx hs hd
         obtain ⟨y, rfl⟩ := hx.ew
         have e84 : a'.tmps[84]?.getD undef = _ := hd 4 84 rfl rfl
         refine .inl ⟨rfl, ?_⟩
         clear hs hd hx
         go_simp
         exact ⟨Ext.refl _ _, rfl⟩
        ·intro a' w' hx hs hd
         obtain ⟨y, rfl⟩ := hx.ew
         have e3 : a'.tmps[3]?.getD undef = _ := hs 3 rfl
         simp only [aL, aS, aZ] at e3
         refine .inl ⟨rfl, ?_⟩
         clear hs hd hx
         go_simp
         exact ⟨Ext.refl _ _, rfl⟩
        ·intro a' w' hx hs hd
         obtain ⟨y, rfl⟩ := hx.ew
         have e86 : a'.tmps[86]?.getD undef = _ := hd 6 86 rfl rfl
         refine .inl ⟨rfl, ?_⟩
         clear hs hd hx
         go_simp
         exact ⟨Ext.refl _ _, rfl⟩
        ·intro a' w' hx hs hd
         obtain ⟨y, rfl⟩ := hx.ew
         have e83 : a'.tmps[83]?.getD undef = _ := hd 3 83 rfl rfl
         have e85 : a'.tmps[85]?.getD undef = _ := hd 5 85 rfl rfl
         refine .inl ⟨rfl, ?_⟩
         clear hs hd hx
         go_simp
         exact ⟨Ext.refl _ _, rfl⟩
       case' q37 =>
        intro vs w' hx hRR
        obtain ⟨xa, rfl⟩ := hx.ew
        have q0 : vs 0 = _ := hRR 0 (by decide)
        have q1 : vs 1 = _ := hRR 1 (by decide)
        have q2 : vs 2 = _ := hRR 2 (by decide)
        have q3 : vs 3 = _ := hRR 3 (by decide)
        have q4 : vs 4 = _ := hRR 4 (by decide)
        have q5 : vs 5 = _ := hRR 5 (by decide)
        have q6 : vs 6 = _ := hRR 6 (by decide)
        have q7 : vs 7 = _ := hRR 7 (by decide)
        have q8 : vs 8 = _ := hRR 8 (by decide)
        clear hRR hx
        simp only [putAll, List.take_succ_cons, List.take_zero, List.drop_succ_cons, List.drop_zero, Act.put, List.setIfInBounds_toArray, List.set_cons_zero, List.set_cons_succ, Nat.reduceAdd, Nat.zero_add]
        simp only [q0, q1, q2, q3, q4, q5, q6, q7, q8]
        clear q0 q1 q2 q3 q4 q5 q6 q7 q8 vs
       have HLa := hI_ (HL9.out.extN xa.ext)
       have BQa := hI_ (BQ9.out.extN xa.ext)
       have BRa := hI_ (BR9.out.extN xa.ext)
       have Ba := hI_ (B9.out.extN xa.ext)
       have HXa := hI_ (HX9.out.trans xa.ext.ofNon)
       clear p0 p1 p2 p3 p4 p5 z0 z1 s5 s6
       generalize xa.on = w10 at *
       have sc : w10.cell? ⟨sb, cn, none⟩ = some (.int .i64 (G.cl i).stamp) := by rw [HCN.out]; exact HLa.out.st.cell (st_get _ hi8)
       have sf : w10.frozen? ⟨sb, cn, none⟩ = false := froz_of_heap HLa.out.st.h
       go_upto_region 18 with fail
       have hne := HLa.out.ne
       have XS : Ext (One sb) w10 (w10.setCell ⟨sb, cn, none⟩ (.int .i64 st)) := (Ext.refl _ _).set1 _
       have hsq : ¬ One sb w.heap.size := fun q => by have := HLT.out.2.2; have : w.heap.size = sb := q; omega
       have hsr : ¬ One sb (w.heap.size + 1) := fun q => by have := HLT.out.2.2; have : w.heap.size + 1 = sb := q; omega
       have hs7 : ¬ One sb k7 := fun q => by have := HLT.out.2.2; have : k7 = sb := q; omega
       have BQb := hI_ (BQa.out.ext XS hsq)
       have BRb := hI_ (BRa.out.ext XS hsr)
       have Bb := hI_ (Ba.out.ext XS hs7)
       obtain ⟨aa1, ca1, aa2, ca2, va, hba, -⟩ := HLa.out.ex
       have HBb := hI_ (hba.ext XS (fun q => hne.1 q))
       have HRb := hI_ (HLa.out.rs.ext XS (fun q => hne.2.2 q.symm))
       have XSi : Ext Non (w10.setCell ⟨sb, cn, none⟩ (.int .i64 st)) (w10.setCell ⟨sb, cn, none⟩ (.int .i64 st)) := Ext.refl _ _
       clear hba hne hsq hsr hs7 sc sf
       have HPC : Hid (∀ W2, Ext Non (w10.setCell ⟨sb, cn, none⟩ (.int .i64 st)) W2 → RL ((W2.setCell ⟨rb, cn * 2, none⟩ (.int .i64 cd)).setCell ⟨rb, cn * 2 + 1, none⟩ (.float .f64 rl)) b sb rb (setCl G i ⟨st, cd, rl⟩) ∧ Ext (Tri b sb rb) w10 ((W2.setCell ⟨rb, cn * 2, none⟩ (.int .i64 cd)).setCell ⟨rb, cn * 2 + 1, none⟩ (.float .f64 rl))) := hI_ (fun W2 x => by
        rw [HCN.out] at x ⊢; exact HLa.out.put_cl hi8 x)
       clear XS XSi
       generalize w10.setCell ⟨sb, cn, none⟩ (.int .i64 st) = w11 at *
       have p0 : w11.cell? ⟨w.heap.size, 0, none⟩ = some (.int .i64 (cn : Int)) := BQb.out.cell rfl
       have p1 : w11.cell? ⟨w.heap.size, 1, none⟩ = some (.int .i64 st) := BQb.out.cell rfl
       have p2 : w11.cell? ⟨w.heap.size, 2, none⟩ = some (.int .i64 k) := BQb.out.cell rfl
       have p3 : w11.cell? ⟨w.heap.size, 3, none⟩ = some (.string key) := BQb.out.cell rfl
       have p4 : w11.cell? ⟨w.heap.size, 4, none⟩ = some (.float .f64 x) := BQb.out.cell rfl
       have p5 : w11.cell? ⟨w.heap.size, 5, none⟩ = some (.int .i64 id) := BQb.out.cell rfl
       have z0 : w11.cell? ⟨k7, 0, none⟩ = some (.int .i64 cd) := Bb.out.cell rfl
       have z1 : w11.cell? ⟨k7, 1, none⟩ = some (.float .f64 rl) := Bb.out.cell rfl
       have s6 : w11.cell? ⟨b, 6, none⟩ = some (.slice (some ⟨rb, 0, none⟩) 9 9) := HBb.out.cell rfl
       apply wp_region_rel_tail 8 (relR [Mo.is _, Mo.is _, Mo.is _, Mo.is _, Mo.is _, Mo.is _, Mo.is _, Mo.is _]) (by kernel_rfl) (by kernel_rfl) (by kernel_rfl) (by kernel_rfl) (by kernel_rfl) (by decide) (by kernel_rfl) (relR_mono _) (StepD.all ?st38) ?q38
       case st38 =>
        refine ⟨?_, ?_, ?_, ?_, ?_, ?_, ?_, ?_, trivial⟩
        ·intro a' w' hx hs hd
         obtain ⟨y, rfl⟩ := hx.ew
         have e0 : a'.tmps[0]?.getD undef = _ := hs 0 rfl
         simp only [aL, aS, aZ] at e0
         refine .inl ⟨rfl, ?_⟩
         clear hs hd hx
         go_simp
         exact ⟨Ext.refl _ _, rfl⟩
        ·intro a' w' hx hs hd
         obtain ⟨y, rfl⟩ := hx.ew
         have e89 : a'.tmps[89]?.getD undef = _ := hd 0 89 rfl rfl
         refine .inl ⟨rfl, ?_⟩
         clear hs hd hx
         go_simp
         exact ⟨Ext.refl _ _, rfl⟩
        ·intro a' w' hx hs hd
         obtain ⟨y, rfl⟩ := hx.ew
         have e90 : a'.tmps[90]?.getD undef = _ := hd 1 90 rfl rfl
         refine .inl ⟨rfl, ?_⟩
         clear hs hd hx
         go_simp
         exact ⟨Ext.refl _ _, rfl⟩
        ·intro a' w' hx hs hd
         obtain ⟨y, rfl⟩ := hx.ew
         have e91 : a'.tmps[91]?.getD undef = _ := hd 2 91 rfl rfl
         refine .inl ⟨rfl, ?_⟩
         clear hs hd hx
         go_simp
         exact ⟨Ext.refl _ _, rfl⟩
        ·intro a' w' hx hs hd
         obtain ⟨y, rfl⟩ := hx.ew
         have e3 : a'.tmps[3]?.getD undef = _ := hs 3 rfl
         simp only [aL, aS, aZ] at e3
         refine .inl ⟨rfl, ?_⟩
         clear hs hd hx
         go_simp
         exact ⟨Ext.refl _ _, rfl⟩
        ·intro a' w' hx hs hd
         obtain ⟨y, rfl⟩ := hx.ew
         have e93 : a'.tmps[93]?.getD undef = _ := hd 4 93 rfl rfl
         refine .inl ⟨rfl, ?_⟩
         clear hs hd hx
         go_simp
         exact ⟨Ext.refl _ _, rfl⟩
        ·intro a' w' hx hs hd
         obtain ⟨y, rfl⟩ := hx.ew
         have e7 : a'.tmps[7]?.getD undef = _ := hs 7 rfl
         simp only [aL, aS, aZ] at e7
         refine .inl ⟨rfl, ?_⟩
         clear hs hd hx
         go_simp
         exact ⟨Ext.refl _ _, rfl⟩
        ·intro a' w' hx hs hd
         obtain ⟨y, rfl⟩ := hx.ew
         have e92 : a'.tmps[92]?.getD undef = _ := hd 3 92 rfl rfl
         have e94 : a'.tmps[94]?.getD undef = _ := hd 5 94 rfl rfl
         refine .inl ⟨rfl, ?_⟩
         clear hs hd hx
         go_simp
         exact ⟨Ext.refl _ _, rfl⟩
       case' q38 =>
        intro vs w' hx hRR
        obtain ⟨xb, rfl⟩ := hx.ew
        have q0 : vs 0 = _ := hRR 0 (by decide)
        have q1 : vs 1 = _ := hRR 1 (by decide)
        have q2 : vs 2 = _ := hRR 2 (by decide)
        have q3 : vs 3 = _ := hRR 3 (by decide)
        have q4 : vs 4 = _ := hRR 4 (by decide)
        have q5 : vs 5 = _ := hRR 5 (by decide)
        have q6 : vs 6 = _ := hRR 6 (by decide)
        have q7 : vs 7 = _ := hRR 7 (by decide)
        clear hRR hx
        simp only [putAll, List.take_succ_cons, List.take_zero, List.drop_succ_cons, List.drop_zero, Act.put, List.setIfInBounds_toArray, List.set_cons_zero, List.set_cons_succ, Nat.reduceAdd, Nat.zero_add]
        simp only [q0, q1, q2, q3, q4, q5, q6, q7]
        clear q0 q1 q2 q3 q4 q5 q6 q7 vs
       have BRc := hI_ (BRb.out.extN xb.ext)
       have Bc := hI_ (Bb.out.extN xb.ext)
       have HRc := hI_ (HRb.out.extN xb.ext)
       have HPd := hI_ (HPC.out _ xb.ext)
       clear p0 p1 p2 p3 p4 p5 z0 z1 s6
       generalize xb.on = w12 at *
       have rc0 : w12.cell? ⟨rb, cn * 2, none⟩ = some (.int .i64 (G.cl i).code) := by rw [HCN.out]; exact HRc.out.cell (rs_get _ hi8).1
       have rc1 : w12.cell? ⟨rb, cn * 2 + 1, none⟩ = some (.float .f64 (G.cl i).real) := by rw [HCN.out]; exact HRc.out.cell (rs_get _ hi8).2
       have rf0 : w12.frozen? ⟨rb, cn * 2, none⟩ = false := froz_of_heap HRc.out.h
       have rf1 : w12.frozen? ⟨rb, cn * 2 + 1, none⟩ = false := froz_of_heap HRc.out.h
       go_upto_region 19 with fail
       have XR : Ext (One rb) w12 ((w12.setCell ⟨rb, cn * 2, none⟩ (.int .i64 cd)).setCell ⟨rb, cn * 2 + 1, none⟩ (.float .f64 rl)) := ((Ext.refl _ _).set1 _).set1 _
       have hrr : ¬ One rb (w.heap.size + 1) := fun q => by have := HLT.out.2.1; have : w.heap.size + 1 = rb := q; omega
       have hr7 : ¬ One rb k7 := fun q => HN7.out.1 q
       have BRd := hI_ (BRc.out.ext XR hrr)
       have Bd := hI_ (Bc.out.ext XR hr7)
       have HXd := hI_ ((one_tri (sb := sb) (rb := rb) HXa.out).trans HPd.out.2)
       have HLd := hI_ HPd.out.1
       clear XR hrr hr7 rc0 rc1 rf0 rf1 HPd
       generalize (w12.setCell ⟨rb, cn * 2, none⟩ (.int .i64 cd)).setCell ⟨rb, cn * 2 + 1, none⟩ (.float .f64 rl) = w13 at *
       have z0 : w13.cell? ⟨k7, 0, none⟩ = some (.int .i64 cd) := Bd.out.cell rfl
       have z1 : w13.cell? ⟨k7, 1, none⟩ = some (.float .f64 rl) := Bd.out.cell rfl
       have u0 : w13.cell? ⟨w.heap.size + 1, 0, none⟩ = some (.int .i64 0) := BRd.out.cell rfl
       have u1 : w13.cell? ⟨w.heap.size + 1, 1, none⟩ = some (.float .f64 0) := BRd.out.cell rfl
       have f0 : w13.frozen? ⟨w.heap.size + 1, 0, none⟩ = false := froz_of_heap BRd.out.h
       have f1 : w13.frozen? ⟨w.heap.size + 1, 1, none⟩ = false := froz_of_heap BRd.out.h
       go_wp2
       obtain ⟨E1, E2, r0, r1⟩ := rdo_end (v0 := .int .i64 cd) (v1 := .float .f64 rl) BRd.out (by omega : w.heap.size ≤ w.heap.size + 1) HLT.out.2.1 HXd.out HLd.out
       generalize (w13.setCell ⟨w.heap.size + 1, 0, none⟩ (.int .i64 cd)).setCell ⟨w.heap.size + 1, 1, none⟩ (.float .f64 rl) = w9 at *
       refine bodyPost_ret (v := .tuple #[.agg #[.int .i64 cd, .float .f64 rl], .int .i64 0]) (by simp [results, Tryz.results22, go_sem, r0, r1]) rfl ?_
       exact ⟨by rw [HG.out.1, HG.out.2.1, HAR.out], E1, by rw [HG.out.2.2]; exact E2⟩
   ·have HFULL := hI_ hfl
    have HG : Hid (doR g ⟨c, st, ⟨k, key, x, id⟩⟩ = ⟨0, 0⟩ ∧ doE g ⟨c, st, ⟨k, key, x, id⟩⟩ = 18 ∧ doL g ⟨c, st, ⟨k, key, x, id⟩⟩ = g) := hI_ (by
     have e : doE g ⟨c, st, ⟨k, key, x, id⟩⟩ = 18 := by unfold doE; rw [hrt, hnl, hfl]; rfl
     unfold doR doL; rw [e]; exact ⟨rfl, rfl, rfl⟩)
    clear hnl hrt hfl q3 fz3 wd
    go_enter Tryz.func22, Tryz.ntmps22
    go_wp2_with fail
    refine Calls.ew (ref_Null c st k key x id _) ?_
    rintro e x1 rfl
    rw [HNULL.out]
    have BQ1 := hI_ (BQ.out.extN x1.ext)
    have BR1 := hI_ (BR.out.extN x1.ext)
    have XA := hI_ (exG0 : Ext Non w x1.on)
    have p0 : x1.on.cell? ⟨w.heap.size, 0, none⟩ = some (.int .i64 c) := BQ1.out.cell rfl
    have p1 : x1.on.cell? ⟨w.heap.size, 1, none⟩ = some (.int .i64 st) := BQ1.out.cell rfl
    have p2 : x1.on.cell? ⟨w.heap.size, 2, none⟩ = some (.int .i64 k) := BQ1.out.cell rfl
    have p3 : x1.on.cell? ⟨w.heap.size, 3, none⟩ = some (.string key) := BQ1.out.cell rfl
    have p4 : x1.on.cell? ⟨w.heap.size, 4, none⟩ = some (.float .f64 x) := BQ1.out.cell rfl
    have p5 : x1.on.cell? ⟨w.heap.size, 5, none⟩ = some (.int .i64 id) := BQ1.out.cell rfl
    go_wp2_with fail
    refine Calls.ew (ref_Right c st k key x id _) ?_
    rintro e x2 rfl
    rw [HRIGHT.out]
    go_wp2_with fail
    refine Calls.ewD (ref12_Full b sb rb g II.out _ (HH.out.extN (exG0))) ?_
    rintro e x3 rfl
    rw [HFULL.out]
    have XB : Ext Non w x3.on := exG0
    have BRb := hI_ (BR1.out.extN (exG0 : Ext Non x1.on x3.on))
    have HLb := hI_ (HH.out.extN XB)
    have HXb := hI_ XB
    clear XB p0 p1 p2 p3 p4 p5
    generalize x3.on = w2 at *
    have u0 : w2.cell? ⟨w.heap.size + 1, 0, none⟩ = some (.int .i64 0) := BRb.out.cell rfl
    have u1 : w2.cell? ⟨w.heap.size + 1, 1, none⟩ = some (.float .f64 0) := BRb.out.cell rfl
    have f0 : w2.frozen? ⟨w.heap.size + 1, 0, none⟩ = false := froz_of_heap BRb.out.h
    have f1 : w2.frozen? ⟨w.heap.size + 1, 1, none⟩ = false := froz_of_heap BRb.out.h
    go_wp2
    obtain ⟨E1, E2, r0, r1⟩ := rdo_end (v0 := .int .i64 0) (v1 := .float .f64 0) BRb.out (by omega : w.heap.size ≤ w.heap.size + 1) HLT.out.2.1 HXb.out.ofNon HLb.out
    generalize (w2.setCell ⟨w.heap.size + 1, 0, none⟩ (.int .i64 0)).setCell ⟨w.heap.size + 1, 1, none⟩ (.float .f64 0) = w9 at *
    refine bodyPost_ret (v := .tuple #[.agg #[.int .i64 0, .float .f64 0], .int .i64 18]) (by simp [results, Tryz.results22, go_sem, r0, r1]) rfl ?_
    exact ⟨by rw [HG.out.1, HG.out.2.1], E1, by rw [HG.out.2.2]; exact E2⟩
 ·have HNULL := hI_ hnl
  cases hfl : fullB g
  ·have HFULL := hI_ hfl
   have HG : Hid (doR g ⟨c, st, ⟨k, key, x, id⟩⟩ = ⟨8, 0⟩ ∧ doE g ⟨c, st, ⟨k, key, x, id⟩⟩ = 0 ∧ doL g ⟨c, st, ⟨k, key, x, id⟩⟩ = tick g) := hI_ (by
    have e : doE g ⟨c, st, ⟨k, key, x, id⟩⟩ = 0 := by unfold doE; rw [hnl, hfl]; simp
    have e0 : ¬ doE g ⟨c, st, ⟨k, key, x, id⟩⟩ ≠ 0 := fun q => q e
    unfold doR doL; rw [if_neg e0, if_neg e0, if_pos hnl, if_pos hnl]; exact ⟨rfl, e, rfl⟩)
   clear hnl hfl
   go_enter Tryz.func22, Tryz.ntmps22
   go_wp2_with fail
   refine Calls.ew (ref_Null c st k key x id _) ?_
   rintro e x1 rfl
   rw [HNULL.out]
   have BQ1 := hI_ (BQ.out.extN x1.ext)
   have BR1 := hI_ (BR.out.extN x1.ext)
   have XA := hI_ (exG0 : Ext Non w x1.on)
   have p0 : x1.on.cell? ⟨w.heap.size, 0, none⟩ = some (.int .i64 c) := BQ1.out.cell rfl
   have p1 : x1.on.cell? ⟨w.heap.size, 1, none⟩ = some (.int .i64 st) := BQ1.out.cell rfl
   have p2 : x1.on.cell? ⟨w.heap.size, 2, none⟩ = some (.int .i64 k) := BQ1.out.cell rfl
   have p3 : x1.on.cell? ⟨w.heap.size, 3, none⟩ = some (.string key) := BQ1.out.cell rfl
   have p4 : x1.on.cell? ⟨w.heap.size, 4, none⟩ = some (.float .f64 x) := BQ1.out.cell rfl
   have p5 : x1.on.cell? ⟨w.heap.size, 5, none⟩ = some (.int .i64 id) := BQ1.out.cell rfl
   go_wp2_with fail
   refine Calls.ewD (ref12_Full b sb rb g II.out _ (HH.out.extN (exG0))) ?_
   rintro e x3 rfl
   rw [HFULL.out]
   go_upto_region 7 with fail
   obtain ⟨hL6, hX6⟩ := HH.out.ticked (exG0 : Ext Non w x3.on)
   have hbq : ¬ One b w.heap.size := fun q => by have := HLT.out.1; have : w.heap.size = b := q; omega
   have hbr : ¬ One b (w.heap.size + 1) := fun q => by have := HLT.out.1; have : w.heap.size + 1 = b := q; omega
   have XT : Ext (One b) x3.on (x3.on.setCell ⟨b, 3, none⟩ (.int .i64 (g.done + 1))) := (Ext.refl _ _).set1 _
   have BQ6 := hI_ ((BQ1.out.extN (exG0 : Ext Non x1.on x3.on)).ext XT hbq)
   have BR6 := hI_ ((BR1.out.extN (exG0 : Ext Non x1.on x3.on)).ext XT hbr)
   have HL6 := hI_ hL6
   have HX6 := hI_ hX6
   clear hL6 hX6 XT hbq hbr q3 fz3 wd
   clear p0 p1 p2 p3 p4 p5
   generalize x3.on.setCell ⟨b, 3, none⟩ (.int .i64 (g.done + 1)) = w6 at *
   have u0 : w6.cell? ⟨w.heap.size + 1, 0, none⟩ = some (.int .i64 0) := BR6.out.cell rfl
   have u1 : w6.cell? ⟨w.heap.size + 1, 1, none⟩ = some (.float .f64 0) := BR6.out.cell rfl
   have f0 : w6.frozen? ⟨w.heap.size + 1, 0, none⟩ = false := froz_of_heap BR6.out.h
   have f1 : w6.frozen? ⟨w.heap.size + 1, 1, none⟩ = false := froz_of_heap BR6.out.h
   have HX6b := hI_ (one_tri (sb := sb) (rb := rb) HX6.out)
   go_wp2
   obtain ⟨E1, E2, r0, r1⟩ := rdo_end (v0 := .int .i64 8) (v1 := .float .f64 0) BR6.out (by omega : w.heap.size ≤ w.heap.size + 1) HLT.out.2.1 HX6b.out HL6.out
   generalize (w6.setCell ⟨w.heap.size + 1, 0, none⟩ (.int .i64 8)).setCell ⟨w.heap.size + 1, 1, none⟩ (.float .f64 0) = w9 at *
   refine bodyPost_ret (v := .tuple #[.agg #[.int .i64 8, .float .f64 0], .int .i64 0]) (by simp [results, Tryz.results22, go_sem, r0, r1]) rfl ?_
   exact ⟨by rw [HG.out.1, HG.out.2.1], E1, by rw [HG.out.2.2]; exact E2⟩
  ·have HFULL := hI_ hfl
   have HG : Hid (doR g ⟨c, st, ⟨k, key, x, id⟩⟩ = ⟨0, 0⟩ ∧ doE g ⟨c, st, ⟨k, key, x, id⟩⟩ = 18 ∧ doL g ⟨c, st, ⟨k, key, x, id⟩⟩ = g) := hI_ (by
    have e : doE g ⟨c, st, ⟨k, key, x, id⟩⟩ = 18 := by unfold doE; rw [hnl, hfl]; simp
    unfold doR doL; rw [e]; exact ⟨rfl, rfl, rfl⟩)
   clear hnl hfl q3 fz3 wd
   go_enter Tryz.func22, Tryz.ntmps22
   go_wp2_with fail
   refine Calls.ew (ref_Null c st k key x id _) ?_
   rintro e x1 rfl
   rw [HNULL.out]
   have BQ1 := hI_ (BQ.out.extN x1.ext)
   have BR1 := hI_ (BR.out.extN x1.ext)
   have XA := hI_ (exG0 : Ext Non w x1.on)
   have p0 : x1.on.cell? ⟨w.heap.size, 0, none⟩ = some (.int .i64 c) := BQ1.out.cell rfl
   have p1 : x1.on.cell? ⟨w.heap.size, 1, none⟩ = some (.int .i64 st) := BQ1.out.cell rfl
   have p2 : x1.on.cell? ⟨w.heap.size, 2, none⟩ = some (.int .i64 k) := BQ1.out.cell rfl
   have p3 : x1.on.cell? ⟨w.heap.size, 3, none⟩ = some (.string key) := BQ1.out.cell rfl
   have p4 : x1.on.cell? ⟨w.heap.size, 4, none⟩ = some (.float .f64 x) := BQ1.out.cell rfl
   have p5 : x1.on.cell? ⟨w.heap.size, 5, none⟩ = some (.int .i64 id) := BQ1.out.cell rfl
   go_wp2_with fail
   refine Calls.ewD (ref12_Full b sb rb g II.out _ (HH.out.extN (exG0))) ?_
   rintro e x3 rfl
   rw [HFULL.out]
   have XB : Ext Non w x3.on := exG0
   have BRb := hI_ (BR1.out.extN (exG0 : Ext Non x1.on x3.on))
   have HLb := hI_ (HH.out.extN XB)
   have HXb := hI_ XB
   clear XB p0 p1 p2 p3 p4 p5
   generalize x3.on = w2 at *
   have u0 : w2.cell? ⟨w.heap.size + 1, 0, none⟩ = some (.int .i64 0) := BRb.out.cell rfl
   have u1 : w2.cell? ⟨w.heap.size + 1, 1, none⟩ = some (.float .f64 0) := BRb.out.cell rfl
   have f0 : w2.frozen? ⟨w.heap.size + 1, 0, none⟩ = false := froz_of_heap BRb.out.h
   have f1 : w2.frozen? ⟨w.heap.size + 1, 1, none⟩ = false := froz_of_heap BRb.out.h
   go_wp2
   obtain ⟨E1, E2, r0, r1⟩ := rdo_end (v0 := .int .i64 0) (v1 := .float .f64 0) BRb.out (by omega : w.heap.size ≤ w.heap.size + 1) HLT.out.2.1 HXb.out.ofNon HLb.out
   generalize (w2.setCell ⟨w.heap.size + 1, 0, none⟩ (.int .i64 0)).setCell ⟨w.heap.size + 1, 1, none⟩ (.float .f64 0) = w9 at *
   refine bodyPost_ret (v := .tuple #[.agg #[.int .i64 0, .float .f64 0], .int .i64 18]) (by simp [results, Tryz.results22, go_sem, r0, r1]) rfl ?_
   exact ⟨by rw [HG.out.1, HG.out.2.1], E1, by rw [HG.out.2.2]; exact E2⟩
end Go.Proofs.YtfefeepljbfcdaaGreat
