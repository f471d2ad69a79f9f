/- Joined texts: R12e. What each proves stands at its head; no conditions beside those in its theorems. -/
import Derived.Test.YtfefeepljbfcdaaGreatPjBE
/- The reference of layer 12 in memory: what an operation on a key comes to. -/
namespace Go.Proofs.YtfefeepljbfcdaaGreat
open Go.RowKit Go.Lib F64
set_option linter.unusedSimpArgs false
set_option linter.unusedVariables false
attribute [local go_sem] run_store_float
attribute [local go_sem low] EW.cellN EW.frozN alloc_cell_or alloc_froz_or EW.cellF EW.frozF EW.cell1 EW.froz1
attribute [local go_sem] relAt relUpon
theorem info_result2 : (Tryz.prog.info? 48).map (·.size) = some 2 := by kernel_rfl
theorem RL.other {w w' : World} {b sb rb : Nat} {g : Lg} (h : RL w b sb rb g) {k : Nat} {vs : List Value} {t : TypeId} (hb : Bx w k vs t) (h1 : t ≠ 68) (h2 : t ≠ 3) (h3 : t ≠ 78) (h4 : k ≠ rb) (x : Ext (One k) w w') : RL w' b sb rb g := by
 obtain ⟨a1, c1, a2, c2, v, hx, i1, i2, t1, t2, hv⟩ := h.ex
 have n1 : ∀ a, avT sb w a → ∀ j o, a = some ⟨j, o, none⟩ → ¬ One k j := fun a ha j o e q => by
  obtain ⟨-, us, fr, h5⟩ := ha j o e
  have q : j = k := q
  subst q
  have := hb.h
  rw [this] at h5; injection h5 with h5; injection h5 with _ h5 _
  exact h2 h5
 have nb : ¬ One k b := fun q => bx_apart hx hb (fun e => h1 e.symm) q
 have ns : ¬ One k sb := fun q => bx_apart h.st hb (fun e => h2 e.symm) q
 exact ⟨⟨a1, c1, a2, c2, v, hx.ext x nb, i1.ext x (n1 _ t1), i2.ext x (n1 _ t2), t1.ext x (n1 _ t1), t2.ext x (n1 _ t2), ownR_ext hv x (row_not hv hb (fun e => h3 e.symm))⟩, h.st.ext x ns, h.rs.ext x (fun q => h4 q.symm), h.nd⟩
theorem keyed_end {w W : World} {b sb rb kr : Nat} {g : Lg} {us : List Value} {v0 v1 : Value} (hB : Bx W kr us 48) (hk : w.heap.size ≤ kr) (hb : b < w.heap.size) (hr : rb < w.heap.size) (hx : Ext (One b) w W) (hL : RL W b sb rb g) (hu : us.length = 2 := by rfl) :
  Ext (One b) w ((W.setCell ⟨kr, 0, none⟩ v0).setCell ⟨kr, 1, none⟩ v1) ∧ RL ((W.setCell ⟨kr, 0, none⟩ v0).setCell ⟨kr, 1, none⟩ v1) b sb rb g ∧ ((W.setCell ⟨kr, 0, none⟩ v0).setCell ⟨kr, 1, none⟩ v1).cell? ⟨kr, 0, none⟩ = some v0 ∧ ((W.setCell ⟨kr, 0, none⟩ v0).setCell ⟨kr, 1, none⟩ v1).cell? ⟨kr, 1, none⟩ = some v1 := by
 have x2 : Ext (One kr) W ((W.setCell ⟨kr, 0, none⟩ v0).setCell ⟨kr, 1, none⟩ v1) := ((Ext.refl _ _).set1 _).set1 _
 match us, hu with
 | [a0, a1], _ =>
  have B2 := (hB.set (j := 0) v0).set (j := 1) v1
  exact ⟨hx.step x2 (fun i hi e => by have e : i = kr := e; omega), hL.other hB (by decide) (by decide) (by decide) (by omega) x2, B2.cell rfl, B2.cell rfl⟩
theorem valK_set (ks : Ks) (k : ByteArray) (x : Nat) : valK (setK ks k x) k = x ∧ hasK (setK ks k x) k = true := by
 unfold valK hasK
 rw [getK_set, if_pos rfl]
 exact ⟨rfl, rfl⟩
theorem set16 {g : Lg} (hk : g.keys.length ≤ 16) {k : ByteArray} (h : hasK g.keys k = true ∨ g.keys.length ≠ 16) (x : Nat) : (setK g.keys k x).length ≤ 16 := by
 rw [setK_length]
 split
 ·exact hk
 ·rename_i hh
  rcases h with h | h
  ·exact absurd h hh
  ·omega
set_option maxHeartbeats 4000000 in
set_option maxRecDepth 100000 in
theorem ref12_keyed (b sb rb : Nat) (g : Lg) (I : Inv g) (kind : Int) (key : ByteArray) (x : Nat) (hx64 : x < 18446744073709551616) (id : Int) (h6 : kind ≠ 6) (h7 : kind ≠ 7) (w : World) (h : RL w b sb rb g) : Calls Tryz.prog 62 #[.pointer (some ⟨b, 0, none⟩), .agg #[.int .i64 kind, .string key, .float .f64 x, .int .i64 id]] w fun e w' =>
  e = .returned (.agg #[.int .i64 (applyR g ⟨kind, key, x, id⟩).code, .float .f64 (applyR g ⟨kind, key, x, id⟩).real]) ∧ Ext (One b) w w' ∧ RL w' b sb rb (applyL g ⟨kind, key, x, id⟩) := by
 have HH := hI_ h
 have HLT : Hid (b < w.heap.size ∧ rb < w.heap.size) := hI_ ⟨h.lt.1, h.lt.2.2⟩
 have hk16 := I.kl
 have hnd := h.nd
 have HV := hI_ (val_ok I key)
 have hsl : (sortK g.keys).length = g.keys.length := sortK_len _
 clear h
 by_cases hk1 : kind = 1
 ·subst hk1
  cases ha : atK key (sortK g.keys) with
  | none =>
   have hno := (at_sort_none hnd).1 ha
   have HA : Hid (atI key (sortK g.keys) = -1) := hI_ (by unfold atI; rw [ha])
   by_cases hl : g.keys.length = 16
   ·have HG : Hid (applyL g ⟨1, key, x, id⟩ = g ∧ applyR g ⟨1, key, x, id⟩ = ⟨2, 0⟩) := hI_ (by unfold applyL applyR; simp [hno, hl])
    have hl2 : (sortK g.keys).length = 16 := by omega
    have d16 : decide ((16 : Int) ≤ ((sortK g.keys).length : Int)) = true := decide_eq_true (by omega)
    clear I ha hno hsl hl
    have BO := hI_ ((Bx.newAt w [.int .i64 1, .string key, .float .f64 x, .int .i64 id] 52 _ rfl).alloc (.cells #[.int .i64 0, .float .f64 0] 48))
    have BR := hI_ (Bx.newAt (w.alloc (.cells [Value.int .i64 1, .string key, .float .f64 x, .int .i64 id].toArray 52)) [.int .i64 0, .float .f64 0] 48 (w.heap.size + 1) (by simp))
    go_enter Tryz.func62, Tryz.ntmps62
    go_wp2_with fail
    refine Calls.ew (ref12_at b sb rb g hk16 key _ (HH.out.extN (exG0))) ?_
    rintro e z rfl
    rw [HA.out]
    have XZ : Ext Non w z.on := exG0
    have BO1 := hI_ (BO.out.extN z.ext)
    have BR1 := hI_ (BR.out.extN z.ext)
    have HZ := hI_ (HH.out.extN XZ)
    have HXZ := hI_ XZ
    clear XZ
    generalize z.on = w2 at *
    have o0 : w2.cell? ⟨w.heap.size, 0, none⟩ = some (.int .i64 1) := BO1.out.cell rfl
    have o1 : w2.cell? ⟨w.heap.size, 1, none⟩ = some (.string key) := BO1.out.cell rfl
    have o2 : w2.cell? ⟨w.heap.size, 2, none⟩ = some (.float .f64 x) := BO1.out.cell rfl
    have u0 : w2.cell? ⟨w.heap.size + 1, 0, none⟩ = some (.int .i64 0) := BR1.out.cell rfl
    have u1 : w2.cell? ⟨w.heap.size + 1, 1, none⟩ = some (.float .f64 0) := BR1.out.cell rfl
    have f0 : w2.frozen? ⟨w.heap.size + 1, 0, none⟩ = false := froz_of_heap BR1.out.h
    have f1 : w2.frozen? ⟨w.heap.size + 1, 1, none⟩ = false := froz_of_heap BR1.out.h
    obtain ⟨ia, ic, q4, h1, h2, hc⟩ := HZ.out.row
    have HC := hI_ hc
    clear hc h1 h2
    go_wp2
    obtain ⟨E1, E2, r0, r1⟩ := keyed_end (v0 := .int .i64 2) (v1 := .float .f64 0) BR1.out (by omega : w.heap.size ≤ w.heap.size + 1) HLT.out.1 HLT.out.2 HXZ.out.ofNon HZ.out
    generalize (w2.setCell ⟨w.heap.size + 1, 0, none⟩ (.int .i64 2)).setCell ⟨w.heap.size + 1, 1, none⟩ (.float .f64 0) = w6 at *
    refine bodyPost_ret (v := .agg #[.int .i64 2, .float .f64 0]) (by simp [results, Tryz.results62, go_sem, r0, r1]) rfl ?_
    exact ⟨by rw [HG.out.2], E1, by rw [HG.out.1]; exact E2⟩
   ·have HG : Hid (applyL g ⟨1, key, x, id⟩ = setKeys g (setK g.keys key (canonN x)) ∧ applyR g ⟨1, key, x, id⟩ = ⟨0, canonN x⟩) := hI_ (by unfold applyL applyR; simp [hno, hl])
    have HVS := hI_ (valK_set g.keys key (canonN x))
    have H16 := hI_ (set16 hk16 (.inr hl) (k := key) (canonN x))
    have d16 : decide ((16 : Int) ≤ ((sortK g.keys).length : Int)) = false := decide_eq_false (by omega)
    clear I ha hno hsl hl
    have BO := hI_ ((Bx.newAt w [.int .i64 1, .string key, .float .f64 x, .int .i64 id] 52 _ rfl).alloc (.cells #[.int .i64 0, .float .f64 0] 48))
    have BR := hI_ (Bx.newAt (w.alloc (.cells [Value.int .i64 1, .string key, .float .f64 x, .int .i64 id].toArray 52)) [.int .i64 0, .float .f64 0] 48 (w.heap.size + 1) (by simp))
    go_enter Tryz.func62, Tryz.ntmps62
    go_wp2_with fail
    refine Calls.ew (ref12_at b sb rb g hk16 key _ (HH.out.extN (exG0))) ?_
    rintro e z rfl
    rw [HA.out]
    have XZ : Ext Non w z.on := exG0
    have BO1 := hI_ (BO.out.extN z.ext)
    have BR1 := hI_ (BR.out.extN z.ext)
    have HZ := hI_ (HH.out.extN XZ)
    have HXZ := hI_ XZ
    clear XZ
    generalize z.on = w2 at *
    have o0 : w2.cell? ⟨w.heap.size, 0, none⟩ = some (.int .i64 1) := BO1.out.cell rfl
    have o1 : w2.cell? ⟨w.heap.size, 1, none⟩ = some (.string key) := BO1.out.cell rfl
    have o2 : w2.cell? ⟨w.heap.size, 2, none⟩ = some (.float .f64 x) := BO1.out.cell rfl
    have u0 : w2.cell? ⟨w.heap.size + 1, 0, none⟩ = some (.int .i64 0) := BR1.out.cell rfl
    have u1 : w2.cell? ⟨w.heap.size + 1, 1, none⟩ = some (.float .f64 0) := BR1.out.cell rfl
    have f0 : w2.frozen? ⟨w.heap.size + 1, 0, none⟩ = false := froz_of_heap BR1.out.h
    have f1 : w2.frozen? ⟨w.heap.size + 1, 1, none⟩ = false := froz_of_heap BR1.out.h
    obtain ⟨ia, ic, q4, h1, h2, hc⟩ := HZ.out.row
    have HC := hI_ hc
    clear hc h1 h2
    go_upto_region 5 with fail
    apply wp_region_rel_tail 6 (relR [Mo.is _, Mo.is _, Mo.is _, Mo.is _, Mo.is _, Mo.is _]) (by kernel_rfl) (by kernel_rfl) (by kernel_rfl) (by kernel_rfl) (by kernel_rfl) (by decide) (by kernel_rfl) (relR_mono _) (StepD.all ?st14) ?q14
    case st14 =>
     refine ⟨?_, ?_, ?_, ?_, ?_, ?_, trivial⟩
     ·intro a' w' hx hs hd
      obtain ⟨y, rfl⟩ := hx.ew
      have e0 : a'.tmps[0]?.getD undef = _ := hs 0 rfl
      simp only [aL, aS, aZ] at e0
      refine .inl ⟨rfl, ?_⟩
      clear hs hd hx
      go_simp
      exact ⟨Ext.refl _ _, rfl⟩
     ·intro a' w' hx hs hd
      obtain ⟨y, rfl⟩ := hx.ew
      have e3 : a'.tmps[3]?.getD undef = _ := hs 3 rfl
      simp only [aL, aS, aZ] at e3
      refine .inl ⟨rfl, ?_⟩
      clear hs hd hx
      go_simp
      exact ⟨Ext.refl _ _, rfl⟩
     ·intro a' w' hx hs hd
      obtain ⟨y, rfl⟩ := hx.ew
      have e27 : a'.tmps[27]?.getD undef = _ := hd 1 27 rfl rfl
      refine .inl ⟨rfl, ?_⟩
      clear hs hd hx
      go_simp
      exact ⟨Ext.refl _ _, rfl⟩
     ·intro a' w' hx hs hd
      obtain ⟨y, rfl⟩ := hx.ew
      have e3 : a'.tmps[3]?.getD undef = _ := hs 3 rfl
      simp only [aL, aS, aZ] at e3
      refine .inl ⟨rfl, ?_⟩
      clear hs hd hx
      go_simp
      exact ⟨Ext.refl _ _, rfl⟩
     ·intro a' w' hx hs hd
      obtain ⟨y, rfl⟩ := hx.ew
      have e29 : a'.tmps[29]?.getD undef = _ := hd 3 29 rfl rfl
      refine .inl ⟨rfl, ?_⟩
      clear hs hd hx
      go_simp
      exact ⟨Ext.refl _ _, rfl⟩
     ·intro a' w' hx hs hd
      obtain ⟨y, rfl⟩ := hx.ew
      have e30 : a'.tmps[30]?.getD undef = _ := hd 4 30 rfl rfl
      refine .inl ⟨rfl, ?_⟩
      clear hs hd hx
      go_simp
      exact (ref_Bits x _).mono (fun e w'' ⟨he, hw⟩ => ⟨_, he, by rw [← hw]; exact Ext.refl _ _, rfl⟩)
    case' q14 =>
     intro vs w' hx hRR
     obtain ⟨x3, rfl⟩ := hx.ew
     have q0 : vs 0 = _ := hRR 0 (by decide)
     have q1 : vs 1 = _ := hRR 1 (by decide)
     have q2 : vs 2 = _ := hRR 2 (by decide)
     have q3 : vs 3 = _ := hRR 3 (by decide)
     have q4 : vs 4 = _ := hRR 4 (by decide)
     have q5 : vs 5 = _ := hRR 5 (by decide)
     clear hRR hx
     simp only [putAll, List.take_succ_cons, List.take_zero, List.drop_succ_cons, List.drop_zero, Act.put, List.setIfInBounds_toArray, List.set_cons_zero, List.set_cons_succ, Nat.reduceAdd, Nat.zero_add]
     simp only [q0, q1, q2, q3, q4, q5]
     clear q0 q1 q2 q3 q4 q5 vs
    have XP : Ext Non w x3.on := HXZ.out.trans x3.ext
    have HP := hI_ (HH.out.extN XP)
    have BO2 := hI_ (BO1.out.extN x3.ext)
    have BR2 := hI_ (BR1.out.extN x3.ext)
    have HXP := hI_ XP
    clear XP u0 u1 f0 f1 o0 o1 o2 q4 HC
    generalize x3.on = w3 at *
    go_wp2_with fail
    refine (ref12_put b sb rb g hk16 key (canonN x) _ HP.out).mono ?_
    rintro e w4 ⟨rfl, hx4, hL4⟩
    have HL4 := hI_ hL4
    have X4 := hI_ (HXP.out.ofNon.trans hx4)
    have BO4 := hI_ (BO2.out.ext hx4 (fun q => by have := HLT.out.1; have : w.heap.size = b := q; omega))
    have BR4 := hI_ (BR2.out.ext hx4 (fun q => by have := HLT.out.1; have : w.heap.size + 1 = b := q; omega))
    clear hx4 hL4
    have o0 : w4.cell? ⟨w.heap.size, 0, none⟩ = some (.int .i64 1) := BO4.out.cell rfl
    have o1 : w4.cell? ⟨w.heap.size, 1, none⟩ = some (.string key) := BO4.out.cell rfl
    go_wp2_with fail
    refine Calls.ew (ref12_told b sb rb _ (show (setKeys g (setK g.keys key (canonN x))).keys.length ≤ 16 from H16.out) key (show hasK (setKeys g (setK g.keys key (canonN x))).keys key = true from HVS.out.2) _ HL4.out) ?_
    rintro e x5 rfl
    rw [show valK (setKeys g (setK g.keys key (canonN x))).keys key = canonN x from HVS.out.1]
    have HL5 := hI_ (HL4.out.extN x5.ext)
    have BR5 := hI_ (BR4.out.extN x5.ext)
    have BO5 := hI_ (BO4.out.extN x5.ext)
    have X5 := hI_ (X4.out.trans x5.ext.ofNon)
    clear o0 o1
    generalize x5.on = w5 at *
    have o0 : w5.cell? ⟨w.heap.size, 0, none⟩ = some (.int .i64 1) := BO5.out.cell rfl
    have o1 : w5.cell? ⟨w.heap.size, 1, none⟩ = some (.string key) := BO5.out.cell rfl
    have u0 : w5.cell? ⟨w.heap.size + 1, 0, none⟩ = some (.int .i64 0) := BR5.out.cell rfl
    have u1 : w5.cell? ⟨w.heap.size + 1, 1, none⟩ = some (.float .f64 0) := BR5.out.cell rfl
    have f0 : w5.frozen? ⟨w.heap.size + 1, 0, none⟩ = false := froz_of_heap BR5.out.h
    have f1 : w5.frozen? ⟨w.heap.size + 1, 1, none⟩ = false := froz_of_heap BR5.out.h
    go_wp2
    obtain ⟨E1, E2, r0, r1⟩ := keyed_end (v0 := .int .i64 0) (v1 := .float .f64 (canonN x)) BR5.out (by omega : w.heap.size ≤ w.heap.size + 1) HLT.out.1 HLT.out.2 X5.out HL5.out
    generalize (w5.setCell ⟨w.heap.size + 1, 0, none⟩ (.int .i64 0)).setCell ⟨w.heap.size + 1, 1, none⟩ (.float .f64 (canonN x)) = w6 at *
    refine bodyPost_ret (v := .agg #[.int .i64 0, .float .f64 (canonN x)]) (by simp [results, Tryz.results62, go_sem, r0, r1]) rfl ?_
    exact ⟨by rw [HG.out.2], E1, by rw [HG.out.1]; exact E2⟩
  | some i =>
   obtain ⟨hi, he, hyes⟩ := at_sort hnd ha
   have HA : Hid (atI key (sortK g.keys) = (i : Int)) := hI_ (by unfold atI; rw [ha])
   have HG : Hid (applyL g ⟨1, key, x, id⟩ = setKeys g (setK g.keys key (canonN x)) ∧ applyR g ⟨1, key, x, id⟩ = ⟨0, canonN x⟩) := hI_ (by unfold applyL applyR; simp [hyes])
   have HVS := hI_ (valK_set g.keys key (canonN x))
   have H16 := hI_ (set16 hk16 (.inl hyes) (k := key) (canonN x))
   have di : decide ((i : Int) < 0) = false := decide_eq_false (by omega)
   clear I ha hyes hsl hi he
   have BO := hI_ ((Bx.newAt w [.int .i64 1, .string key, .float .f64 x, .int .i64 id] 52 _ rfl).alloc (.cells #[.int .i64 0, .float .f64 0] 48))
   have BR := hI_ (Bx.newAt (w.alloc (.cells [Value.int .i64 1, .string key, .float .f64 x, .int .i64 id].toArray 52)) [.int .i64 0, .float .f64 0] 48 (w.heap.size + 1) (by simp))
   go_enter Tryz.func62, Tryz.ntmps62
   go_wp2_with fail
   refine Calls.ew (ref12_at b sb rb g hk16 key _ (HH.out.extN (exG0))) ?_
   rintro e z rfl
   rw [HA.out]
   have XZ : Ext Non w z.on := exG0
   have BO1 := hI_ (BO.out.extN z.ext)
   have BR1 := hI_ (BR.out.extN z.ext)
   have HZ := hI_ (HH.out.extN XZ)
   have HXZ := hI_ XZ
   clear XZ
   generalize z.on = w2 at *
   have o0 : w2.cell? ⟨w.heap.size, 0, none⟩ = some (.int .i64 1) := BO1.out.cell rfl
   have o1 : w2.cell? ⟨w.heap.size, 1, none⟩ = some (.string key) := BO1.out.cell rfl
   have o2 : w2.cell? ⟨w.heap.size, 2, none⟩ = some (.float .f64 x) := BO1.out.cell rfl
   have u0 : w2.cell? ⟨w.heap.size + 1, 0, none⟩ = some (.int .i64 0) := BR1.out.cell rfl
   have u1 : w2.cell? ⟨w.heap.size + 1, 1, none⟩ = some (.float .f64 0) := BR1.out.cell rfl
   have f0 : w2.frozen? ⟨w.heap.size + 1, 0, none⟩ = false := froz_of_heap BR1.out.h
   have f1 : w2.frozen? ⟨w.heap.size + 1, 1, none⟩ = false := froz_of_heap BR1.out.h
   obtain ⟨ia, ic, q4, h1, h2, hc⟩ := HZ.out.row
   have HC := hI_ hc
   clear hc h1 h2
   go_upto_region 5 with fail
   apply wp_region_rel_tail 6 (relR [Mo.is _, Mo.is _, Mo.is _, Mo.is _, Mo.is _, Mo.is _]) (by kernel_rfl) (by kernel_rfl) (by kernel_rfl) (by kernel_rfl) (by kernel_rfl) (by decide) (by kernel_rfl) (relR_mono _) (StepD.all ?st15) ?q15
   case st15 =>
    refine ⟨?_, ?_, ?_, ?_, ?_, ?_, trivial⟩
    ·intro a' w' hx hs hd
     obtain ⟨y, rfl⟩ := hx.ew
     have e0 : a'.tmps[0]?.getD undef = _ := hs 0 rfl
     simp only [aL, aS, aZ] at e0
     refine .inl ⟨rfl, ?_⟩
     clear hs hd hx
     go_simp
     exact ⟨Ext.refl _ _, rfl⟩
    ·intro a' w' hx hs hd
     obtain ⟨y, rfl⟩ := hx.ew
     have e3 : a'.tmps[3]?.getD undef = _ := hs 3 rfl
     simp only [aL, aS, aZ] at e3
     refine .inl ⟨rfl, ?_⟩
     clear hs hd hx
     go_simp
     exact ⟨Ext.refl _ _, rfl⟩
    ·intro a' w' hx hs hd
     obtain ⟨y, rfl⟩ := hx.ew
     have e27 : a'.tmps[27]?.getD undef = _ := hd 1 27 rfl rfl
     refine .inl ⟨rfl, ?_⟩
     clear hs hd hx
     go_simp
     exact ⟨Ext.refl _ _, rfl⟩
    ·intro a' w' hx hs hd
     obtain ⟨y, rfl⟩ := hx.ew
     have e3 : a'.tmps[3]?.getD undef = _ := hs 3 rfl
     simp only [aL, aS, aZ] at e3
     refine .inl ⟨rfl, ?_⟩
     clear hs hd hx
     go_simp
     exact ⟨Ext.refl _ _, rfl⟩
    ·intro a' w' hx hs hd
     obtain ⟨y, rfl⟩ := hx.ew
     have e29 : a'.tmps[29]?.getD undef = _ := hd 3 29 rfl rfl
     refine .inl ⟨rfl, ?_⟩
     clear hs hd hx
     go_simp
     exact ⟨Ext.refl _ _, rfl⟩
    ·intro a' w' hx hs hd
     obtain ⟨y, rfl⟩ := hx.ew
     have e30 : a'.tmps[30]?.getD undef = _ := hd 4 30 rfl rfl
     refine .inl ⟨rfl, ?_⟩
     clear hs hd hx
     go_simp
     exact (ref_Bits x _).mono (fun e w'' ⟨he, hw⟩ => ⟨_, he, by rw [← hw]; exact Ext.refl _ _, rfl⟩)
   case' q15 =>
    intro vs w' hx hRR
    obtain ⟨x3, rfl⟩ := hx.ew
    have q0 : vs 0 = _ := hRR 0 (by decide)
    have q1 : vs 1 = _ := hRR 1 (by decide)
    have q2 : vs 2 = _ := hRR 2 (by decide)
    have q3 : vs 3 = _ := hRR 3 (by decide)
    have q4 : vs 4 = _ := hRR 4 (by decide)
    have q5 : vs 5 = _ := hRR 5 (by decide)
    clear hRR hx
    simp only [putAll, List.take_succ_cons, List.take_zero, List.drop_succ_cons, List.drop_zero, Act.put, List.setIfInBounds_toArray, List.set_cons_zero, List.set_cons_succ, Nat.reduceAdd, Nat.zero_add]
    simp only [q0, q1, q2, q3, q4, q5]
    clear q0 q1 q2 q3 q4 q5 vs
   have XP : Ext Non w x3.on := HXZ.out.trans x3.ext
   have HP := hI_ (HH.out.extN XP)
   have BO2 := hI_ (BO1.out.extN x3.ext)
   have BR2 := hI_ (BR1.out.extN x3.ext)
   have HXP := hI_ XP
   clear XP u0 u1 f0 f1 o0 o1 o2 q4 HC
   generalize x3.on = w3 at *
   go_wp2_with fail
   refine (ref12_put b sb rb g hk16 key (canonN x) _ HP.out).mono ?_
   rintro e w4 ⟨rfl, hx4, hL4⟩
   have HL4 := hI_ hL4
   have X4 := hI_ (HXP.out.ofNon.trans hx4)
   have BO4 := hI_ (BO2.out.ext hx4 (fun q => by have := HLT.out.1; have : w.heap.size = b := q; omega))
   have BR4 := hI_ (BR2.out.ext hx4 (fun q => by have := HLT.out.1; have : w.heap.size + 1 = b := q; omega))
   clear hx4 hL4
   have o0 : w4.cell? ⟨w.heap.size, 0, none⟩ = some (.int .i64 1) := BO4.out.cell rfl
   have o1 : w4.cell? ⟨w.heap.size, 1, none⟩ = some (.string key) := BO4.out.cell rfl
   go_wp2_with fail
   refine Calls.ew (ref12_told b sb rb _ (show (setKeys g (setK g.keys key (canonN x))).keys.length ≤ 16 from H16.out) key (show hasK (setKeys g (setK g.keys key (canonN x))).keys key = true from HVS.out.2) _ HL4.out) ?_
   rintro e x5 rfl
   rw [show valK (setKeys g (setK g.keys key (canonN x))).keys key = canonN x from HVS.out.1]
   have HL5 := hI_ (HL4.out.extN x5.ext)
   have BR5 := hI_ (BR4.out.extN x5.ext)
   have BO5 := hI_ (BO4.out.extN x5.ext)
   have X5 := hI_ (X4.out.trans x5.ext.ofNon)
   clear o0 o1
   generalize x5.on = w5 at *
   have o0 : w5.cell? ⟨w.heap.size, 0, none⟩ = some (.int .i64 1) := BO5.out.cell rfl
   have o1 : w5.cell? ⟨w.heap.size, 1, none⟩ = some (.string key) := BO5.out.cell rfl
   have u0 : w5.cell? ⟨w.heap.size + 1, 0, none⟩ = some (.int .i64 0) := BR5.out.cell rfl
   have u1 : w5.cell? ⟨w.heap.size + 1, 1, none⟩ = some (.float .f64 0) := BR5.out.cell rfl
   have f0 : w5.frozen? ⟨w.heap.size + 1, 0, none⟩ = false := froz_of_heap BR5.out.h
   have f1 : w5.frozen? ⟨w.heap.size + 1, 1, none⟩ = false := froz_of_heap BR5.out.h
   go_wp2
   obtain ⟨E1, E2, r0, r1⟩ := keyed_end (v0 := .int .i64 0) (v1 := .float .f64 (canonN x)) BR5.out (by omega : w.heap.size ≤ w.heap.size + 1) HLT.out.1 HLT.out.2 X5.out HL5.out
   generalize (w5.setCell ⟨w.heap.size + 1, 0, none⟩ (.int .i64 0)).setCell ⟨w.heap.size + 1, 1, none⟩ (.float .f64 (canonN x)) = w6 at *
   refine bodyPost_ret (v := .agg #[.int .i64 0, .float .f64 (canonN x)]) (by simp [results, Tryz.results62, go_sem, r0, r1]) rfl ?_
   exact ⟨by rw [HG.out.2], E1, by rw [HG.out.1]; exact E2⟩
 ·have d1 : (kind == 1) = false := by rw [beq_eq_false_iff_ne]; exact hk1
  cases ha : atK key (sortK g.keys) with
  | none =>
   have hno := (at_sort_none hnd).1 ha
   have HA : Hid (atI key (sortK g.keys) = -1) := hI_ (by unfold atI; rw [ha])
   have HG : Hid (applyL g ⟨kind, key, x, id⟩ = g ∧ applyR g ⟨kind, key, x, id⟩ = ⟨1, 0⟩) := hI_ (by unfold applyL applyR; simp [hno, hk1, h6, h7])
   clear I ha hno hsl
   have BO := hI_ ((Bx.newAt w [.int .i64 kind, .string key, .float .f64 x, .int .i64 id] 52 _ rfl).alloc (.cells #[.int .i64 0, .float .f64 0] 48))
   have BR := hI_ (Bx.newAt (w.alloc (.cells [Value.int .i64 kind, .string key, .float .f64 x, .int .i64 id].toArray 52)) [.int .i64 0, .float .f64 0] 48 (w.heap.size + 1) (by simp))
   go_enter Tryz.func62, Tryz.ntmps62
   go_wp2_with fail
   refine Calls.ew (ref12_at b sb rb g hk16 key _ (HH.out.extN (exG0))) ?_
   rintro e z rfl
   rw [HA.out]
   have XZ : Ext Non w z.on := exG0
   have BO1 := hI_ (BO.out.extN z.ext)
   have BR1 := hI_ (BR.out.extN z.ext)
   have HZ := hI_ (HH.out.extN XZ)
   have HXZ := hI_ XZ
   clear XZ
   generalize z.on = w2 at *
   have o0 : w2.cell? ⟨w.heap.size, 0, none⟩ = some (.int .i64 kind) := BO1.out.cell rfl
   have o1 : w2.cell? ⟨w.heap.size, 1, none⟩ = some (.string key) := BO1.out.cell rfl
   have o2 : w2.cell? ⟨w.heap.size, 2, none⟩ = some (.float .f64 x) := BO1.out.cell rfl
   have u0 : w2.cell? ⟨w.heap.size + 1, 0, none⟩ = some (.int .i64 0) := BR1.out.cell rfl
   have u1 : w2.cell? ⟨w.heap.size + 1, 1, none⟩ = some (.float .f64 0) := BR1.out.cell rfl
   have f0 : w2.frozen? ⟨w.heap.size + 1, 0, none⟩ = false := froz_of_heap BR1.out.h
   have f1 : w2.frozen? ⟨w.heap.size + 1, 1, none⟩ = false := froz_of_heap BR1.out.h
   obtain ⟨ia, ic, q4, h1, h2, hc⟩ := HZ.out.row
   have HC := hI_ hc
   clear hc h1 h2
   go_wp2
   obtain ⟨E1, E2, r0, r1⟩ := keyed_end (v0 := .int .i64 1) (v1 := .float .f64 0) BR1.out (by omega : w.heap.size ≤ w.heap.size + 1) HLT.out.1 HLT.out.2 HXZ.out.ofNon HZ.out
   generalize (w2.setCell ⟨w.heap.size + 1, 0, none⟩ (.int .i64 1)).setCell ⟨w.heap.size + 1, 1, none⟩ (.float .f64 0) = w6 at *
   refine bodyPost_ret (v := .agg #[.int .i64 1, .float .f64 0]) (by simp [results, Tryz.results62, go_sem, r0, r1]) rfl ?_
   exact ⟨by rw [HG.out.2], E1, by rw [HG.out.1]; exact E2⟩
  | some i =>
   obtain ⟨hi, he, hyes⟩ := at_sort hnd ha
   have HA : Hid (atI key (sortK g.keys) = (i : Int)) := hI_ (by unfold atI; rw [ha])
   have HE := hI_ he
   have HY := hI_ hyes
   have di : decide ((i : Int) < 0) = false := decide_eq_false (by omega)
   have bi : (i : Int) < ((sortK g.keys).length : Int) := by omega
   by_cases hk2 : kind = 2
   ·subst hk2
    have HG : Hid (applyL g ⟨2, key, x, id⟩ = setKeys g (setK g.keys key (addN (valK g.keys key) x)) ∧ applyR g ⟨2, key, x, id⟩ = ⟨0, (addN (valK g.keys key) x)⟩) := hI_ (by unfold applyL applyR; simp [hyes])
    have HVS := hI_ (valK_set g.keys key (addN (valK g.keys key) x))
    have H16 := hI_ (set16 hk16 (.inl hyes) (k := key) (addN (valK g.keys key) x))
    clear I ha hyes hsl he d1 hk1
    have BO := hI_ ((Bx.newAt w [.int .i64 2, .string key, .float .f64 x, .int .i64 id] 52 _ rfl).alloc (.cells #[.int .i64 0, .float .f64 0] 48))
    have BR := hI_ (Bx.newAt (w.alloc (.cells [Value.int .i64 2, .string key, .float .f64 x, .int .i64 id].toArray 52)) [.int .i64 0, .float .f64 0] 48 (w.heap.size + 1) (by simp))
    go_enter Tryz.func62, Tryz.ntmps62
    go_wp2_with fail
    refine Calls.ew (ref12_at b sb rb g hk16 key _ (HH.out.extN (exG0))) ?_
    rintro e z rfl
    rw [HA.out]
    have XZ : Ext Non w z.on := exG0
    have BO1 := hI_ (BO.out.extN z.ext)
    have BR1 := hI_ (BR.out.extN z.ext)
    have HZ := hI_ (HH.out.extN XZ)
    have HXZ := hI_ XZ
    clear XZ
    generalize z.on = w2 at *
    have o0 : w2.cell? ⟨w.heap.size, 0, none⟩ = some (.int .i64 2) := BO1.out.cell rfl
    have o1 : w2.cell? ⟨w.heap.size, 1, none⟩ = some (.string key) := BO1.out.cell rfl
    have o2 : w2.cell? ⟨w.heap.size, 2, none⟩ = some (.float .f64 x) := BO1.out.cell rfl
    have u0 : w2.cell? ⟨w.heap.size + 1, 0, none⟩ = some (.int .i64 0) := BR1.out.cell rfl
    have u1 : w2.cell? ⟨w.heap.size + 1, 1, none⟩ = some (.float .f64 0) := BR1.out.cell rfl
    have f0 : w2.frozen? ⟨w.heap.size + 1, 0, none⟩ = false := froz_of_heap BR1.out.h
    have f1 : w2.frozen? ⟨w.heap.size + 1, 1, none⟩ = false := froz_of_heap BR1.out.h
    obtain ⟨ia, ic, q4, h1, h2, hc⟩ := HZ.out.row
    have HC := hI_ hc
    clear hc h1 h2
    obtain ⟨gi, rfl, hgi, k0, k1o⟩ := HC.out i hi
    have k1 : w2.cell? ⟨gi, i * 2 + 1, none⟩ = some (.int .u64 (valK g.keys key)) := by rw [HE.out] at k1o; exact k1o
    clear k0 k1o HE HC hi
    generalize (sortK g.keys).length = sl at *
    go_upto_region 12 with fail
    apply wp_region_rel_tail 7 (relR [Mo.is _, Mo.is _, Mo.is _, Mo.is _, Mo.is _, Mo.is _, Mo.is _]) (by kernel_rfl) (by kernel_rfl) (by kernel_rfl) (by kernel_rfl) (by kernel_rfl) (by decide) (by kernel_rfl) (relR_mono _) (StepD.all ?st16) ?q16
    case st16 =>
     refine ⟨?_, ?_, ?_, ?_, ?_, ?_, ?_, trivial⟩
     ·intro a' w' hx hs hd
      obtain ⟨y, rfl⟩ := hx.ew
      have e0 : a'.tmps[0]?.getD undef = _ := hs 0 rfl
      simp only [aL, aS, aZ] at e0
      refine .inl ⟨rfl, ?_⟩
      clear hs hd hx
      go_simp
      exact ⟨Ext.refl _ _, rfl⟩
     ·intro a' w' hx hs hd
      obtain ⟨y, rfl⟩ := hx.ew
      have e3 : a'.tmps[3]?.getD undef = _ := hs 3 rfl
      simp only [aL, aS, aZ] at e3
      refine .inl ⟨rfl, ?_⟩
      clear hs hd hx
      go_simp
      exact ⟨Ext.refl _ _, rfl⟩
     ·intro a' w' hx hs hd
      obtain ⟨y, rfl⟩ := hx.ew
      have e54 : a'.tmps[54]?.getD undef = _ := hd 1 54 rfl rfl
      refine .inl ⟨rfl, ?_⟩
      clear hs hd hx
      go_simp
      exact ⟨Ext.refl _ _, rfl⟩
     ·intro a' w' hx hs hd
      obtain ⟨y, rfl⟩ := hx.ew
      have e6 : a'.tmps[6]?.getD undef = _ := hs 6 rfl
      simp only [aL, aS, aZ] at e6
      refine .inl ⟨rfl, ?_⟩
      clear hs hd hx
      go_simp
      exact ⟨Ext.refl _ _, rfl⟩
     ·intro a' w' hx hs hd
      obtain ⟨y, rfl⟩ := hx.ew
      have e3 : a'.tmps[3]?.getD undef = _ := hs 3 rfl
      simp only [aL, aS, aZ] at e3
      refine .inl ⟨rfl, ?_⟩
      clear hs hd hx
      go_simp
      exact ⟨Ext.refl _ _, rfl⟩
     ·intro a' w' hx hs hd
      obtain ⟨y, rfl⟩ := hx.ew
      have e57 : a'.tmps[57]?.getD undef = _ := hd 4 57 rfl rfl
      refine .inl ⟨rfl, ?_⟩
      clear hs hd hx
      go_simp
      exact ⟨Ext.refl _ _, rfl⟩
     ·intro a' w' hx hs hd
      obtain ⟨y, rfl⟩ := hx.ew
      have e56 : a'.tmps[56]?.getD undef = _ := hd 3 56 rfl rfl
      have e58 : a'.tmps[58]?.getD undef = _ := hd 5 58 rfl rfl
      refine .inl ⟨rfl, ?_⟩
      clear hs hd hx
      go_simp
      exact (ref_Add _ _ _).mono (fun e w'' ⟨he, n, hw⟩ => ⟨_, he, by rw [hw]; exact (Ext.refl _ _).drewN n, rfl⟩)
    case' q16 =>
     intro vs w' hx hRR
     obtain ⟨x3, rfl⟩ := hx.ew
     have q0 : vs 0 = _ := hRR 0 (by decide)
     have q1 : vs 1 = _ := hRR 1 (by decide)
     have q2 : vs 2 = _ := hRR 2 (by decide)
     have q3 : vs 3 = _ := hRR 3 (by decide)
     have q4 : vs 4 = _ := hRR 4 (by decide)
     have q5 : vs 5 = _ := hRR 5 (by decide)
     have q6 : vs 6 = _ := hRR 6 (by decide)
     clear hRR hx
     simp only [putAll, List.take_succ_cons, List.take_zero, List.drop_succ_cons, List.drop_zero, Act.put, List.setIfInBounds_toArray, List.set_cons_zero, List.set_cons_succ, Nat.reduceAdd, Nat.zero_add]
     simp only [q0, q1, q2, q3, q4, q5, q6]
     clear q0 q1 q2 q3 q4 q5 q6 vs
    have XP : Ext Non w x3.on := HXZ.out.trans x3.ext
    have HP := hI_ (HH.out.extN XP)
    have BO2 := hI_ (BO1.out.extN x3.ext)
    have BR2 := hI_ (BR1.out.extN x3.ext)
    have HXP := hI_ XP
    clear XP k1 u0 u1 f0 f1 o0 o1 o2 q4
    generalize x3.on = w3 at *
    go_wp2_with fail
    refine (ref12_put b sb rb g hk16 key (addN (valK g.keys key) x) _ HP.out).mono ?_
    rintro e w4 ⟨rfl, hx4, hL4⟩
    have HL4 := hI_ hL4
    have X4 := hI_ (HXP.out.ofNon.trans hx4)
    have BO4 := hI_ (BO2.out.ext hx4 (fun q => by have := HLT.out.1; have : w.heap.size = b := q; omega))
    have BR4 := hI_ (BR2.out.ext hx4 (fun q => by have := HLT.out.1; have : w.heap.size + 1 = b := q; omega))
    clear hx4 hL4
    have o0 : w4.cell? ⟨w.heap.size, 0, none⟩ = some (.int .i64 2) := BO4.out.cell rfl
    have o1 : w4.cell? ⟨w.heap.size, 1, none⟩ = some (.string key) := BO4.out.cell rfl
    go_wp2_with fail
    refine Calls.ew (ref12_told b sb rb _ (show (setKeys g (setK g.keys key (addN (valK g.keys key) x))).keys.length ≤ 16 from H16.out) key (show hasK (setKeys g (setK g.keys key (addN (valK g.keys key) x))).keys key = true from HVS.out.2) _ HL4.out) ?_
    rintro e x5 rfl
    rw [show valK (setKeys g (setK g.keys key (addN (valK g.keys key) x))).keys key = (addN (valK g.keys key) x) from HVS.out.1]
    have HL5 := hI_ (HL4.out.extN x5.ext)
    have BR5 := hI_ (BR4.out.extN x5.ext)
    have BO5 := hI_ (BO4.out.extN x5.ext)
    have X5 := hI_ (X4.out.trans x5.ext.ofNon)
    clear o0 o1
    generalize x5.on = w5 at *
    have o0 : w5.cell? ⟨w.heap.size, 0, none⟩ = some (.int .i64 2) := BO5.out.cell rfl
    have o1 : w5.cell? ⟨w.heap.size, 1, none⟩ = some (.string key) := BO5.out.cell rfl
    have u0 : w5.cell? ⟨w.heap.size + 1, 0, none⟩ = some (.int .i64 0) := BR5.out.cell rfl
    have u1 : w5.cell? ⟨w.heap.size + 1, 1, none⟩ = some (.float .f64 0) := BR5.out.cell rfl
    have f0 : w5.frozen? ⟨w.heap.size + 1, 0, none⟩ = false := froz_of_heap BR5.out.h
    have f1 : w5.frozen? ⟨w.heap.size + 1, 1, none⟩ = false := froz_of_heap BR5.out.h
    go_upto_region 16 with (refine wpList_store_box rfl 48 _ _ rfl w5.heap.size _ [.int .i64 0, .float .f64 (addN (valK g.keys key) x)] _ rfl rfl (Bx.newAt _ _ _ _ rfl) rfl info_result2 (by simp [Value.oneCell']) (fun W hB => ?_); have B7 := hI_ hB; clear hB)
    have XW : Ext Non w5 W.on := exG0
    have HL7 := hI_ (HL5.out.extN XW)
    have BR7 := hI_ (BR5.out.extN XW)
    have BO7 := hI_ (BO5.out.extN XW)
    have X7 := hI_ (X5.out.trans XW.ofNon)
    have hk7 : w.heap.size + 1 < w5.heap.size := BR5.out.lt
    try simp only [Act.put]
    clear XW o0 o1 u0 u1 f0 f1
    generalize w5.heap.size = k7 at *
    generalize W.on = w7 at *
    have o0 : w7.cell? ⟨w.heap.size, 0, none⟩ = some (.int .i64 2) := BO7.out.cell rfl
    have o1 : w7.cell? ⟨w.heap.size, 1, none⟩ = some (.string key) := BO7.out.cell rfl
    have u0 : w7.cell? ⟨w.heap.size + 1, 0, none⟩ = some (.int .i64 0) := BR7.out.cell rfl
    have u1 : w7.cell? ⟨w.heap.size + 1, 1, none⟩ = some (.float .f64 0) := BR7.out.cell rfl
    have f0 : w7.frozen? ⟨w.heap.size + 1, 0, none⟩ = false := froz_of_heap BR7.out.h
    have f1 : w7.frozen? ⟨w.heap.size + 1, 1, none⟩ = false := froz_of_heap BR7.out.h
    have v70 : w7.cell? ⟨k7, 0, none⟩ = some (.int .i64 0) := B7.out.cell rfl
    have v71 : w7.cell? ⟨k7, 1, none⟩ = some (.float .f64 (addN (valK g.keys key) x)) := B7.out.cell rfl
    go_wp2
    obtain ⟨E1, E2, r0, r1⟩ := keyed_end (v0 := .int .i64 0) (v1 := .float .f64 (addN (valK g.keys key) x)) BR7.out (by omega : w.heap.size ≤ w.heap.size + 1) HLT.out.1 HLT.out.2 X7.out HL7.out
    generalize (w7.setCell ⟨w.heap.size + 1, 0, none⟩ (.int .i64 0)).setCell ⟨w.heap.size + 1, 1, none⟩ (.float .f64 (addN (valK g.keys key) x)) = w6 at *
    refine bodyPost_ret (v := .agg #[.int .i64 0, .float .f64 (addN (valK g.keys key) x)]) (by simp [results, Tryz.results62, go_sem, r0, r1]) rfl ?_
    exact ⟨by rw [HG.out.2], E1, by rw [HG.out.1]; exact E2⟩
   ·have d2 : (kind == 2) = false := by rw [beq_eq_false_iff_ne]; exact hk2
    by_cases hk3 : kind = 3
    ·subst hk3
     have HG : Hid (applyL g ⟨3, key, x, id⟩ = setKeys g (setK g.keys key (mostN (valK g.keys key) x)) ∧ applyR g ⟨3, key, x, id⟩ = ⟨0, (mostN (valK g.keys key) x)⟩) := hI_ (by unfold applyL applyR; simp [hyes])
     have HVS := hI_ (valK_set g.keys key (mostN (valK g.keys key) x))
     have H16 := hI_ (set16 hk16 (.inl hyes) (k := key) (mostN (valK g.keys key) x))
     clear I ha hyes hsl he d1 hk1 d2 hk2
     have BO := hI_ ((Bx.newAt w [.int .i64 3, .string key, .float .f64 x, .int .i64 id] 52 _ rfl).alloc (.cells #[.int .i64 0, .float .f64 0] 48))
     have BR := hI_ (Bx.newAt (w.alloc (.cells [Value.int .i64 3, .string key, .float .f64 x, .int .i64 id].toArray 52)) [.int .i64 0, .float .f64 0] 48 (w.heap.size + 1) (by simp))
     go_enter Tryz.func62, Tryz.ntmps62
     go_wp2_with fail
     refine Calls.ew (ref12_at b sb rb g hk16 key _ (HH.out.extN (exG0))) ?_
     rintro e z rfl
     rw [HA.out]
     have XZ : Ext Non w z.on := exG0
     have BO1 := hI_ (BO.out.extN z.ext)
     have BR1 := hI_ (BR.out.extN z.ext)
     have HZ := hI_ (HH.out.extN XZ)
     have HXZ := hI_ XZ
     clear XZ
     generalize z.on = w2 at *
     have o0 : w2.cell? ⟨w.heap.size, 0, none⟩ = some (.int .i64 3) := BO1.out.cell rfl
     have o1 : w2.cell? ⟨w.heap.size, 1, none⟩ = some (.string key) := BO1.out.cell rfl
     have o2 : w2.cell? ⟨w.heap.size, 2, none⟩ = some (.float .f64 x) := BO1.out.cell rfl
     have u0 : w2.cell? ⟨w.heap.size + 1, 0, none⟩ = some (.int .i64 0) := BR1.out.cell rfl
     have u1 : w2.cell? ⟨w.heap.size + 1, 1, none⟩ = some (.float .f64 0) := BR1.out.cell rfl
     have f0 : w2.frozen? ⟨w.heap.size + 1, 0, none⟩ = false := froz_of_heap BR1.out.h
     have f1 : w2.frozen? ⟨w.heap.size + 1, 1, none⟩ = false := froz_of_heap BR1.out.h
     obtain ⟨ia, ic, q4, h1, h2, hc⟩ := HZ.out.row
     have HC := hI_ hc
     clear hc h1 h2
     obtain ⟨gi, rfl, hgi, k0, k1o⟩ := HC.out i hi
     have k1 : w2.cell? ⟨gi, i * 2 + 1, none⟩ = some (.int .u64 (valK g.keys key)) := by rw [HE.out] at k1o; exact k1o
     clear k0 k1o HE HC hi
     generalize (sortK g.keys).length = sl at *
     go_upto_region 14 with fail
     apply wp_region_rel_tail 7 (relR [Mo.is _, Mo.is _, Mo.is _, Mo.is _, Mo.is _, Mo.is _, Mo.is _]) (by kernel_rfl) (by kernel_rfl) (by kernel_rfl) (by kernel_rfl) (by kernel_rfl) (by decide) (by kernel_rfl) (relR_mono _) (StepD.all ?st17) ?q17
     case st17 =>
      refine ⟨?_, ?_, ?_, ?_, ?_, ?_, ?_, trivial⟩
      ·intro a' w' hx hs hd
       obtain ⟨y, rfl⟩ := hx.ew
       have e0 : a'.tmps[0]?.getD undef = _ := hs 0 rfl
       simp only [aL, aS, aZ] at e0
       refine .inl ⟨rfl, ?_⟩
       clear hs hd hx
       go_simp
       exact ⟨Ext.refl _ _, rfl⟩
      ·intro a' w' hx hs hd
       obtain ⟨y, rfl⟩ := hx.ew
       have e3 : a'.tmps[3]?.getD undef = _ := hs 3 rfl
       simp only [aL, aS, aZ] at e3
       refine .inl ⟨rfl, ?_⟩
       clear hs hd hx
       go_simp
       exact ⟨Ext.refl _ _, rfl⟩
      ·intro a' w' hx hs hd
       obtain ⟨y, rfl⟩ := hx.ew
       have e64 : a'.tmps[64]?.getD undef = _ := hd 1 64 rfl rfl
       refine .inl ⟨rfl, ?_⟩
       clear hs hd hx
       go_simp
       exact ⟨Ext.refl _ _, rfl⟩
      ·intro a' w' hx hs hd
       obtain ⟨y, rfl⟩ := hx.ew
       have e6 : a'.tmps[6]?.getD undef = _ := hs 6 rfl
       simp only [aL, aS, aZ] at e6
       refine .inl ⟨rfl, ?_⟩
       clear hs hd hx
       go_simp
       exact ⟨Ext.refl _ _, rfl⟩
      ·intro a' w' hx hs hd
       obtain ⟨y, rfl⟩ := hx.ew
       have e3 : a'.tmps[3]?.getD undef = _ := hs 3 rfl
       simp only [aL, aS, aZ] at e3
       refine .inl ⟨rfl, ?_⟩
       clear hs hd hx
       go_simp
       exact ⟨Ext.refl _ _, rfl⟩
      ·intro a' w' hx hs hd
       obtain ⟨y, rfl⟩ := hx.ew
       have e67 : a'.tmps[67]?.getD undef = _ := hd 4 67 rfl rfl
       refine .inl ⟨rfl, ?_⟩
       clear hs hd hx
       go_simp
       exact ⟨Ext.refl _ _, rfl⟩
      ·intro a' w' hx hs hd
       obtain ⟨y, rfl⟩ := hx.ew
       have e66 : a'.tmps[66]?.getD undef = _ := hd 3 66 rfl rfl
       have e68 : a'.tmps[68]?.getD undef = _ := hd 5 68 rfl rfl
       refine .inl ⟨rfl, ?_⟩
       clear hs hd hx
       go_simp
       exact (ref_Most _ _ HV.out.1 hx64 _).mono (fun e w'' ⟨he, hw⟩ => ⟨_, he, by rw [← hw]; exact Ext.refl _ _, rfl⟩)
     case' q17 =>
      intro vs w' hx hRR
      obtain ⟨x3, rfl⟩ := hx.ew
      have q0 : vs 0 = _ := hRR 0 (by decide)
      have q1 : vs 1 = _ := hRR 1 (by decide)
      have q2 : vs 2 = _ := hRR 2 (by decide)
      have q3 : vs 3 = _ := hRR 3 (by decide)
      have q4 : vs 4 = _ := hRR 4 (by decide)
      have q5 : vs 5 = _ := hRR 5 (by decide)
      have q6 : vs 6 = _ := hRR 6 (by decide)
      clear hRR hx
      simp only [putAll, List.take_succ_cons, List.take_zero, List.drop_succ_cons, List.drop_zero, Act.put, List.setIfInBounds_toArray, List.set_cons_zero, List.set_cons_succ, Nat.reduceAdd, Nat.zero_add]
      simp only [q0, q1, q2, q3, q4, q5, q6]
      clear q0 q1 q2 q3 q4 q5 q6 vs
     have XP : Ext Non w x3.on := HXZ.out.trans x3.ext
     have HP := hI_ (HH.out.extN XP)
     have BO2 := hI_ (BO1.out.extN x3.ext)
     have BR2 := hI_ (BR1.out.extN x3.ext)
     have HXP := hI_ XP
     clear XP k1 u0 u1 f0 f1 o0 o1 o2 q4
     generalize x3.on = w3 at *
     go_wp2_with fail
     refine (ref12_put b sb rb g hk16 key (mostN (valK g.keys key) x) _ HP.out).mono ?_
     rintro e w4 ⟨rfl, hx4, hL4⟩
     have HL4 := hI_ hL4
     have X4 := hI_ (HXP.out.ofNon.trans hx4)
     have BO4 := hI_ (BO2.out.ext hx4 (fun q => by have := HLT.out.1; have : w.heap.size = b := q; omega))
     have BR4 := hI_ (BR2.out.ext hx4 (fun q => by have := HLT.out.1; have : w.heap.size + 1 = b := q; omega))
     clear hx4 hL4
     have o0 : w4.cell? ⟨w.heap.size, 0, none⟩ = some (.int .i64 3) := BO4.out.cell rfl
     have o1 : w4.cell? ⟨w.heap.size, 1, none⟩ = some (.string key) := BO4.out.cell rfl
     go_wp2_with fail
     refine Calls.ew (ref12_told b sb rb _ (show (setKeys g (setK g.keys key (mostN (valK g.keys key) x))).keys.length ≤ 16 from H16.out) key (show hasK (setKeys g (setK g.keys key (mostN (valK g.keys key) x))).keys key = true from HVS.out.2) _ HL4.out) ?_
     rintro e x5 rfl
     rw [show valK (setKeys g (setK g.keys key (mostN (valK g.keys key) x))).keys key = (mostN (valK g.keys key) x) from HVS.out.1]
     have HL5 := hI_ (HL4.out.extN x5.ext)
     have BR5 := hI_ (BR4.out.extN x5.ext)
     have BO5 := hI_ (BO4.out.extN x5.ext)
     have X5 := hI_ (X4.out.trans x5.ext.ofNon)
     clear o0 o1
     generalize x5.on = w5 at *
     have o0 : w5.cell? ⟨w.heap.size, 0, none⟩ = some (.int .i64 3) := BO5.out.cell rfl
     have o1 : w5.cell? ⟨w.heap.size, 1, none⟩ = some (.string key) := BO5.out.cell rfl
     have u0 : w5.cell? ⟨w.heap.size + 1, 0, none⟩ = some (.int .i64 0) := BR5.out.cell rfl
     have u1 : w5.cell? ⟨w.heap.size + 1, 1, none⟩ = some (.float .f64 0) := BR5.out.cell rfl
     have f0 : w5.frozen? ⟨w.heap.size + 1, 0, none⟩ = false := froz_of_heap BR5.out.h
     have f1 : w5.frozen? ⟨w.heap.size + 1, 1, none⟩ = false := froz_of_heap BR5.out.h
     go_upto_region 16 with (refine wpList_store_box rfl 48 _ _ rfl w5.heap.size _ [.int .i64 0, .float .f64 (mostN (valK g.keys key) x)] _ rfl rfl (Bx.newAt _ _ _ _ rfl) rfl info_result2 (by simp [Value.oneCell']) (fun W hB => ?_); have B7 := hI_ hB; clear hB)
     have XW : Ext Non w5 W.on := exG0
     have HL7 := hI_ (HL5.out.extN XW)
     have BR7 := hI_ (BR5.out.extN XW)
     have BO7 := hI_ (BO5.out.extN XW)
     have X7 := hI_ (X5.out.trans XW.ofNon)
     have hk7 : w.heap.size + 1 < w5.heap.size := BR5.out.lt
     try simp only [Act.put]
     clear XW o0 o1 u0 u1 f0 f1
     generalize w5.heap.size = k7 at *
     generalize W.on = w7 at *
     have o0 : w7.cell? ⟨w.heap.size, 0, none⟩ = some (.int .i64 3) := BO7.out.cell rfl
     have o1 : w7.cell? ⟨w.heap.size, 1, none⟩ = some (.string key) := BO7.out.cell rfl
     have u0 : w7.cell? ⟨w.heap.size + 1, 0, none⟩ = some (.int .i64 0) := BR7.out.cell rfl
     have u1 : w7.cell? ⟨w.heap.size + 1, 1, none⟩ = some (.float .f64 0) := BR7.out.cell rfl
     have f0 : w7.frozen? ⟨w.heap.size + 1, 0, none⟩ = false := froz_of_heap BR7.out.h
     have f1 : w7.frozen? ⟨w.heap.size + 1, 1, none⟩ = false := froz_of_heap BR7.out.h
     have v70 : w7.cell? ⟨k7, 0, none⟩ = some (.int .i64 0) := B7.out.cell rfl
     have v71 : w7.cell? ⟨k7, 1, none⟩ = some (.float .f64 (mostN (valK g.keys key) x)) := B7.out.cell rfl
     go_wp2
     obtain ⟨E1, E2, r0, r1⟩ := keyed_end (v0 := .int .i64 0) (v1 := .float .f64 (mostN (valK g.keys key) x)) BR7.out (by omega : w.heap.size ≤ w.heap.size + 1) HLT.out.1 HLT.out.2 X7.out HL7.out
     generalize (w7.setCell ⟨w.heap.size + 1, 0, none⟩ (.int .i64 0)).setCell ⟨w.heap.size + 1, 1, none⟩ (.float .f64 (mostN (valK g.keys key) x)) = w6 at *
     refine bodyPost_ret (v := .agg #[.int .i64 0, .float .f64 (mostN (valK g.keys key) x)]) (by simp [results, Tryz.results62, go_sem, r0, r1]) rfl ?_
     exact ⟨by rw [HG.out.2], E1, by rw [HG.out.1]; exact E2⟩
    ·have d3 : (kind == 3) = false := by rw [beq_eq_false_iff_ne]; exact hk3
     by_cases hk4 : kind = 4
     ·subst hk4
      have HG : Hid (applyL g ⟨4, key, x, id⟩ = setKeys g (delK g.keys key) ∧ applyR g ⟨4, key, x, id⟩ = ⟨0, valK g.keys key⟩) := hI_ (by unfold applyL applyR; simp [hyes])
      clear I ha hyes hsl he d1 hk1 d2 hk2 d3 hk3
      have BO := hI_ ((Bx.newAt w [.int .i64 4, .string key, .float .f64 x, .int .i64 id] 52 _ rfl).alloc (.cells #[.int .i64 0, .float .f64 0] 48))
      have BR := hI_ (Bx.newAt (w.alloc (.cells [Value.int .i64 4, .string key, .float .f64 x, .int .i64 id].toArray 52)) [.int .i64 0, .float .f64 0] 48 (w.heap.size + 1) (by simp))
      go_enter Tryz.func62, Tryz.ntmps62
      go_wp2_with fail
      refine Calls.ew (ref12_at b sb rb g hk16 key _ (HH.out.extN (exG0))) ?_
      rintro e z rfl
      rw [HA.out]
      have XZ : Ext Non w z.on := exG0
      have BO1 := hI_ (BO.out.extN z.ext)
      have BR1 := hI_ (BR.out.extN z.ext)
      have HZ := hI_ (HH.out.extN XZ)
      have HXZ := hI_ XZ
      clear XZ
      generalize z.on = w2 at *
      have o0 : w2.cell? ⟨w.heap.size, 0, none⟩ = some (.int .i64 4) := BO1.out.cell rfl
      have o1 : w2.cell? ⟨w.heap.size, 1, none⟩ = some (.string key) := BO1.out.cell rfl
      have o2 : w2.cell? ⟨w.heap.size, 2, none⟩ = some (.float .f64 x) := BO1.out.cell rfl
      have u0 : w2.cell? ⟨w.heap.size + 1, 0, none⟩ = some (.int .i64 0) := BR1.out.cell rfl
      have u1 : w2.cell? ⟨w.heap.size + 1, 1, none⟩ = some (.float .f64 0) := BR1.out.cell rfl
      have f0 : w2.frozen? ⟨w.heap.size + 1, 0, none⟩ = false := froz_of_heap BR1.out.h
      have f1 : w2.frozen? ⟨w.heap.size + 1, 1, none⟩ = false := froz_of_heap BR1.out.h
      obtain ⟨ia, ic, q4, h1, h2, hc⟩ := HZ.out.row
      have HC := hI_ hc
      clear hc h1 h2
      obtain ⟨gi, rfl, hgi, k0, k1o⟩ := HC.out i hi
      have k1 : w2.cell? ⟨gi, i * 2 + 1, none⟩ = some (.int .u64 (valK g.keys key)) := by rw [HE.out] at k1o; exact k1o
      clear k0 k1o HE HC hi
      generalize (sortK g.keys).length = sl at *
      go_wp2_with fail
      refine Calls.ew (ref12_told b sb rb g hk16 key HY.out _ HZ.out) ?_
      rintro e x5 rfl
      have HL5 := hI_ (HZ.out.extN x5.ext)
      have BR5 := hI_ (BR1.out.extN x5.ext)
      have BO5 := hI_ (BO1.out.extN x5.ext)
      have X5 := hI_ ((HXZ.out.trans x5.ext).ofNon (S := One b))
      clear o0 o1 o2 u0 u1 f0 f1 k1 q4
      generalize x5.on = w5 at *
      have o0 : w5.cell? ⟨w.heap.size, 0, none⟩ = some (.int .i64 4) := BO5.out.cell rfl
      have o1 : w5.cell? ⟨w.heap.size, 1, none⟩ = some (.string key) := BO5.out.cell rfl
      have u0 : w5.cell? ⟨w.heap.size + 1, 0, none⟩ = some (.int .i64 0) := BR5.out.cell rfl
      have u1 : w5.cell? ⟨w.heap.size + 1, 1, none⟩ = some (.float .f64 0) := BR5.out.cell rfl
      have f0 : w5.frozen? ⟨w.heap.size + 1, 0, none⟩ = false := froz_of_heap BR5.out.h
      have f1 : w5.frozen? ⟨w.heap.size + 1, 1, none⟩ = false := froz_of_heap BR5.out.h
      go_upto_region 16 with (refine wpList_store_box rfl 48 _ _ rfl w5.heap.size _ [.int .i64 0, .float .f64 (valK g.keys key)] _ rfl rfl (Bx.newAt _ _ _ _ rfl) rfl info_result2 (by simp [Value.oneCell']) (fun W hB => ?_); have B7 := hI_ hB; clear hB)
      have XW : Ext Non w5 W.on := exG0
      have HL7 := hI_ (HL5.out.extN XW)
      have BR7 := hI_ (BR5.out.extN XW)
      have BO7 := hI_ (BO5.out.extN XW)
      have X7 := hI_ (X5.out.trans XW.ofNon)
      have hk7 : w.heap.size + 1 < w5.heap.size := BR5.out.lt
      try simp only [Act.put]
      clear XW o0 o1 u0 u1 f0 f1
      generalize w5.heap.size = k7 at *
      generalize W.on = w7 at *
      have o0 : w7.cell? ⟨w.heap.size, 0, none⟩ = some (.int .i64 4) := BO7.out.cell rfl
      have o1 : w7.cell? ⟨w.heap.size, 1, none⟩ = some (.string key) := BO7.out.cell rfl
      have u0 : w7.cell? ⟨w.heap.size + 1, 0, none⟩ = some (.int .i64 0) := BR7.out.cell rfl
      have u1 : w7.cell? ⟨w.heap.size + 1, 1, none⟩ = some (.float .f64 0) := BR7.out.cell rfl
      have f0 : w7.frozen? ⟨w.heap.size + 1, 0, none⟩ = false := froz_of_heap BR7.out.h
      have f1 : w7.frozen? ⟨w.heap.size + 1, 1, none⟩ = false := froz_of_heap BR7.out.h
      have v70 : w7.cell? ⟨k7, 0, none⟩ = some (.int .i64 0) := B7.out.cell rfl
      have v71 : w7.cell? ⟨k7, 1, none⟩ = some (.float .f64 (valK g.keys key)) := B7.out.cell rfl
      go_wp2_with fail
      refine (ref12_cut b sb rb g hk16 key _ HL7.out).mono ?_
      rintro e w8 ⟨rfl, hx8, hL8⟩
      have HL8 := hI_ hL8
      have X8 := hI_ (X7.out.trans hx8)
      have BR8 := hI_ (BR7.out.ext hx8 (fun q => by have := HLT.out.1; have : w.heap.size + 1 = b := q; omega))
      have B8 := hI_ (B7.out.ext hx8 (fun q => by have := HLT.out.1; have : k7 = b := q; omega))
      clear hx8 hL8 o0 o1 u0 u1 f0 f1 v70 v71
      have u0 : w8.cell? ⟨w.heap.size + 1, 0, none⟩ = some (.int .i64 0) := BR8.out.cell rfl
      have u1 : w8.cell? ⟨w.heap.size + 1, 1, none⟩ = some (.float .f64 0) := BR8.out.cell rfl
      have f0 : w8.frozen? ⟨w.heap.size + 1, 0, none⟩ = false := froz_of_heap BR8.out.h
      have f1 : w8.frozen? ⟨w.heap.size + 1, 1, none⟩ = false := froz_of_heap BR8.out.h
      have v70 : w8.cell? ⟨k7, 0, none⟩ = some (.int .i64 0) := B8.out.cell rfl
      have v71 : w8.cell? ⟨k7, 1, none⟩ = some (.float .f64 (valK g.keys key)) := B8.out.cell rfl
      go_wp2
      obtain ⟨E1, E2, r0, r1⟩ := keyed_end (v0 := .int .i64 0) (v1 := .float .f64 (valK g.keys key)) BR8.out (by omega : w.heap.size ≤ w.heap.size + 1) HLT.out.1 HLT.out.2 X8.out HL8.out
      generalize (w8.setCell ⟨w.heap.size + 1, 0, none⟩ (.int .i64 0)).setCell ⟨w.heap.size + 1, 1, none⟩ (.float .f64 (valK g.keys key)) = w6 at *
      refine bodyPost_ret (v := .agg #[.int .i64 0, .float .f64 (valK g.keys key)]) (by simp [results, Tryz.results62, go_sem, r0, r1]) rfl ?_
      exact ⟨by rw [HG.out.2], E1, by rw [HG.out.1]; exact E2⟩
     ·have d4 : (kind == 4) = false := by rw [beq_eq_false_iff_ne]; exact hk4
      have HG : Hid (applyL g ⟨kind, key, x, id⟩ = g ∧ applyR g ⟨kind, key, x, id⟩ = ⟨0, valK g.keys key⟩) := hI_ (by unfold applyL applyR; simp [hyes, hk1, hk2, hk3, hk4, h6, h7, setK_same hnd hyes, setKeys])
      clear I ha hyes hsl he hk1 hk2 hk3 hk4
      have BO := hI_ ((Bx.newAt w [.int .i64 kind, .string key, .float .f64 x, .int .i64 id] 52 _ rfl).alloc (.cells #[.int .i64 0, .float .f64 0] 48))
      have BR := hI_ (Bx.newAt (w.alloc (.cells [Value.int .i64 kind, .string key, .float .f64 x, .int .i64 id].toArray 52)) [.int .i64 0, .float .f64 0] 48 (w.heap.size + 1) (by simp))
      go_enter Tryz.func62, Tryz.ntmps62
      go_wp2_with fail
      refine Calls.ew (ref12_at b sb rb g hk16 key _ (HH.out.extN (exG0))) ?_
      rintro e z rfl
      rw [HA.out]
      have XZ : Ext Non w z.on := exG0
      have BO1 := hI_ (BO.out.extN z.ext)
      have BR1 := hI_ (BR.out.extN z.ext)
      have HZ := hI_ (HH.out.extN XZ)
      have HXZ := hI_ XZ
      clear XZ
      generalize z.on = w2 at *
      have o0 : w2.cell? ⟨w.heap.size, 0, none⟩ = some (.int .i64 kind) := BO1.out.cell rfl
      have o1 : w2.cell? ⟨w.heap.size, 1, none⟩ = some (.string key) := BO1.out.cell rfl
      have o2 : w2.cell? ⟨w.heap.size, 2, none⟩ = some (.float .f64 x) := BO1.out.cell rfl
      have u0 : w2.cell? ⟨w.heap.size + 1, 0, none⟩ = some (.int .i64 0) := BR1.out.cell rfl
      have u1 : w2.cell? ⟨w.heap.size + 1, 1, none⟩ = some (.float .f64 0) := BR1.out.cell rfl
      have f0 : w2.frozen? ⟨w.heap.size + 1, 0, none⟩ = false := froz_of_heap BR1.out.h
      have f1 : w2.frozen? ⟨w.heap.size + 1, 1, none⟩ = false := froz_of_heap BR1.out.h
      obtain ⟨ia, ic, q4, h1, h2, hc⟩ := HZ.out.row
      have HC := hI_ hc
      clear hc h1 h2
      obtain ⟨gi, rfl, hgi, k0, k1o⟩ := HC.out i hi
      have k1 : w2.cell? ⟨gi, i * 2 + 1, none⟩ = some (.int .u64 (valK g.keys key)) := by rw [HE.out] at k1o; exact k1o
      clear k0 k1o HE HC hi
      generalize (sortK g.keys).length = sl at *
      go_wp2_with fail
      refine Calls.ew (ref12_told b sb rb g hk16 key HY.out _ HZ.out) ?_
      rintro e x5 rfl
      have HL5 := hI_ (HZ.out.extN x5.ext)
      have BR5 := hI_ (BR1.out.extN x5.ext)
      have BO5 := hI_ (BO1.out.extN x5.ext)
      have X5 := hI_ ((HXZ.out.trans x5.ext).ofNon (S := One b))
      clear o0 o1 o2 u0 u1 f0 f1 k1 q4
      generalize x5.on = w5 at *
      have o0 : w5.cell? ⟨w.heap.size, 0, none⟩ = some (.int .i64 kind) := BO5.out.cell rfl
      have o1 : w5.cell? ⟨w.heap.size, 1, none⟩ = some (.string key) := BO5.out.cell rfl
      have u0 : w5.cell? ⟨w.heap.size + 1, 0, none⟩ = some (.int .i64 0) := BR5.out.cell rfl
      have u1 : w5.cell? ⟨w.heap.size + 1, 1, none⟩ = some (.float .f64 0) := BR5.out.cell rfl
      have f0 : w5.frozen? ⟨w.heap.size + 1, 0, none⟩ = false := froz_of_heap BR5.out.h
      have f1 : w5.frozen? ⟨w.heap.size + 1, 1, none⟩ = false := froz_of_heap BR5.out.h
      go_upto_region 16 with (refine wpList_store_box rfl 48 _ _ rfl w5.heap.size _ [.int .i64 0, .float .f64 (valK g.keys key)] _ rfl rfl (Bx.newAt _ _ _ _ rfl) rfl info_result2 (by simp [Value.oneCell']) (fun W hB => ?_); have B7 := hI_ hB; clear hB)
      have XW : Ext Non w5 W.on := exG0
      have HL7 := hI_ (HL5.out.extN XW)
      have BR7 := hI_ (BR5.out.extN XW)
      have BO7 := hI_ (BO5.out.extN XW)
      have X7 := hI_ (X5.out.trans XW.ofNon)
      have hk7 : w.heap.size + 1 < w5.heap.size := BR5.out.lt
      try simp only [Act.put]
      clear XW o0 o1 u0 u1 f0 f1
      generalize w5.heap.size = k7 at *
      generalize W.on = w7 at *
      have o0 : w7.cell? ⟨w.heap.size, 0, none⟩ = some (.int .i64 kind) := BO7.out.cell rfl
      have o1 : w7.cell? ⟨w.heap.size, 1, none⟩ = some (.string key) := BO7.out.cell rfl
      have u0 : w7.cell? ⟨w.heap.size + 1, 0, none⟩ = some (.int .i64 0) := BR7.out.cell rfl
      have u1 : w7.cell? ⟨w.heap.size + 1, 1, none⟩ = some (.float .f64 0) := BR7.out.cell rfl
      have f0 : w7.frozen? ⟨w.heap.size + 1, 0, none⟩ = false := froz_of_heap BR7.out.h
      have f1 : w7.frozen? ⟨w.heap.size + 1, 1, none⟩ = false := froz_of_heap BR7.out.h
      have v70 : w7.cell? ⟨k7, 0, none⟩ = some (.int .i64 0) := B7.out.cell rfl
      have v71 : w7.cell? ⟨k7, 1, none⟩ = some (.float .f64 (valK g.keys key)) := B7.out.cell rfl
      go_wp2
      obtain ⟨E1, E2, r0, r1⟩ := keyed_end (v0 := .int .i64 0) (v1 := .float .f64 (valK g.keys key)) BR7.out (by omega : w.heap.size ≤ w.heap.size + 1) HLT.out.1 HLT.out.2 X7.out HL7.out
      generalize (w7.setCell ⟨w.heap.size + 1, 0, none⟩ (.int .i64 0)).setCell ⟨w.heap.size + 1, 1, none⟩ (.float .f64 (valK g.keys key)) = w6 at *
      refine bodyPost_ret (v := .agg #[.int .i64 0, .float .f64 (valK g.keys key)]) (by simp [results, Tryz.results62, go_sem, r0, r1]) rfl ?_
      exact ⟨by rw [HG.out.2], E1, by rw [HG.out.1]; exact E2⟩
end Go.Proofs.YtfefeepljbfcdaaGreat
