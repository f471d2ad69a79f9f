/- Joined texts: R12f. What each proves stands at its head; no conditions beside those in its theorems. -/
import Derived.Test.YtfefeepljbfcdaaGreatPjAY
import Derived.Test.YtfefeepljbfcdaaGreatPjBF
/- The reference of layer 12 in memory: what a coming or going comes to. -/
namespace Go.Proofs.YtfefeepljbfcdaaGreat
open Go.RowKit Go.Lib F64
set_option linter.unusedSimpArgs false
set_option linter.unusedVariables false
attribute [local go_sem] run_store_float
attribute [local go_sem low] EW.cellN EW.frozN alloc_cell_or alloc_froz_or EW.cellF EW.frozF EW.cell1 EW.froz1
attribute [local go_sem] relAt relUpon
theorem ref07_Join_any (a : Option Addr) (cap : Nat) (xs : List Int) (id : Int) (hm : membersB xs = true) (e : Int) (he : joinE xs id = e) (n : Nat) (w : World) (hn : n ≤ w.heap.size) (h : Ints w a cap xs) : Calls Tryz.prog 97 #[.slice a xs.length cap, .int .i64 id] w fun r w' =>
  ∃ a' c' m', r = .returned (.tuple #[.slice a' m' c', .int .i64 e]) ∧ Ext Non w w' ∧ (e = 0 → m' = (joinL xs id).length ∧ Ints w' a' c' (joinL xs id) ∧ fresh n w' a') := by
 by_cases h0 : e = 0
 ·subst h0
  exact (ref07_Join_ok a cap xs id he hm w h).mono fun r w' ⟨a', c', h1, h2, h3, h4⟩ => ⟨a', c', _, h1, h2, fun _ => ⟨rfl, h3, h4.low hn⟩⟩
 ·exact (ref07_Join_no a cap xs hm id (by rw [he]; exact h0) w h).mono fun r w' ⟨h1, h2⟩ => ⟨none, 0, 0, by rw [h1, he], h2, fun q => absurd q h0⟩
theorem ref07_Leave_any (a : Option Addr) (cap : Nat) (xs : List Int) (id : Int) (hm : membersB xs = true) (e : Int) (he : leaveE xs id = e) (n : Nat) (w : World) (hn : n ≤ w.heap.size) (h : Ints w a cap xs) : Calls Tryz.prog 98 #[.slice a xs.length cap, .int .i64 id] w fun r w' =>
  ∃ a' c' m', r = .returned (.tuple #[.slice a' m' c', .int .i64 e]) ∧ Ext Non w w' ∧ (e = 0 → m' = (leaveL xs id).length ∧ Ints w' a' c' (leaveL xs id) ∧ fresh n w' a') := by
 by_cases h0 : e = 0
 ·subst h0
  exact (ref07_Leave_ok a cap xs id he hm w h).mono fun r w' ⟨a', c', h1, h2, h3, h4⟩ => ⟨a', c', _, h1, h2, fun _ => ⟨rfl, h3, h4.low hn⟩⟩
 ·exact (ref07_Leave_no a cap xs hm id (by rw [he]; exact h0) w h).mono fun r w' ⟨h1, h2⟩ => ⟨none, 0, 0, by rw [h1, he], h2, fun q => absurd q h0⟩
theorem fresh.extN {n : Nat} {w w' : World} {a : Option Addr} (h : fresh n w a) (x : Ext Non w w') : fresh n w' a := fun k o e => ⟨(h k o e).1, h.typed.ext x (NoInts.non _) k o e⟩
def moJ (n : Nat) (l : List Int) (e : Int) : Mo := ⟨fun v w => ∃ a c m, v = .tuple #[.slice a m c, .int .i64 e] ∧ Hid (e = 0 → m = l.length ∧ Ints w a c l ∧ fresh n w a), fun _ _ _ x ⟨a, c, m, q, h⟩ => ⟨a, c, m, q, hI_ (fun z => ⟨(h.out z).1, (h.out z).2.1.extN x, (h.out z).2.2.extN x⟩)⟩⟩
def moJs (n : Nat) (l : List Int) (e : Int) : Mo := ⟨fun v w => ∃ a c m, v = .slice a m c ∧ Hid (e = 0 → m = l.length ∧ Ints w a c l ∧ fresh n w a), fun _ _ _ x ⟨a, c, m, q, h⟩ => ⟨a, c, m, q, hI_ (fun z => ⟨(h.out z).1, (h.out z).2.1.extN x, (h.out z).2.2.extN x⟩)⟩⟩
set_option maxHeartbeats 4000000 in
set_option maxRecDepth 100000 in
theorem ref12_moved (b sb rb : Nat) (g : Lg) (I : Inv g) (kind : Int) (key : ByteArray) (x : Nat) (id : Int) (hk : kind = 6 ∨ kind = 7) (hid : 0 ≤ id ∧ id < 16) (w : World) (h : RL w b sb rb g) : Calls Tryz.prog 61 #[.pointer (some ⟨b, 0, none⟩), .agg #[.int .i64 kind, .string key, .float .f64 x, .int .i64 id]] w fun e w' =>
  e = .returned (.agg #[.int .i64 (applyR g ⟨kind, key, x, id⟩).code, .float .f64 (applyR g ⟨kind, key, x, id⟩).real]) ∧ Ext (One b) w w' ∧ RL w' b sb rb (applyL g ⟨kind, key, x, id⟩) := by
 have HH := hI_ h
 have HLT : Hid (b < w.heap.size ∧ rb < w.heap.size ∧ sb < w.heap.size) := hI_ ⟨h.lt.1, h.lt.2.2, h.lt.2.1⟩
 have HM := hI_ I.mn
 obtain ⟨a1, c1, a2, c2, v, hb, i1, i2, t1, t2, hv⟩ := h.ex
 have q2 : w.cell? ⟨b, 2, none⟩ = some (.slice a2 g.next.length c2) := hb.cell rfl
 have fz : w.frozen? ⟨b, 2, none⟩ = false := froz_of_heap hb.h
 have HB := hI_ hb; have I1 := hI_ i1; have I2 := hI_ i2; have T1 := hI_ t1; have T2 := hI_ t2; have HV := hI_ hv
 have hJ := joinE_of I.mn id
 have hL := leaveE_of I.mn id
 rw [if_pos hid] at hJ hL
 clear h hb i1 i2 t1 t2 hv
 rcases hk with rfl | rfl
 ·have hex : joinE g.next id = 7 ∨ joinE g.next id = 10 ∨ joinE g.next id = 0 := by
   rw [hJ]; split
   ·exact .inl rfl
   ·split
    ·exact .inr (.inl rfl)
    ·exact .inr (.inr rfl)
  clear hJ hL
  rcases hex with he | he | he
  ·have HG : Hid (applyL g ⟨6, key, x, id⟩ = g ∧ applyR g ⟨6, key, x, id⟩ = ⟨3, 0⟩) := hI_ (by unfold applyL applyR moveL moveC; simp [he])
   have HE := hI_ he
   clear he I
   have BO := hI_ ((Bx.newAt w [.int .i64 6, .string key, .float .f64 x, .int .i64 id] 52 _ rfl).alloc (.cells #[.int .i64 0, .float .f64 0] 48))
   have BR := hI_ (Bx.newAt (w.alloc (.cells [Value.int .i64 6, .string key, .float .f64 x, .int .i64 id].toArray 52)) [.int .i64 0, .float .f64 0] 48 (w.heap.size + 1) (by simp))
   go_enter Tryz.func61, Tryz.ntmps61
   go_upto_region 1 with fail
   apply wp_region_rel (relR [Mo.is _, Mo.is _, Mo.is _, Mo.is _, Mo.is _, Mo.is _, moJ w.heap.size (joinL g.next id) 7, moJ w.heap.size (joinL g.next id) 7, moJs w.heap.size (joinL g.next id) 7, Mo.is _, moJs w.heap.size (joinL g.next id) 7, Mo.is _]) (by kernel_rfl) (by kernel_rfl) (by kernel_rfl) (relR_mono _) (StepD.all ?st18) ?q18
   case st18 =>
    refine ⟨?_, ?_, ?_, ?_, ?_, ?_, ?_, ?_, ?_, ?_, ?_, ?_, trivial⟩
    ·intro a' w' hx hs hd
     obtain ⟨y, rfl⟩ := hx.ew
     have e0 : a'.tmps[0]?.getD undef = _ := hs 0 rfl
     simp only [aL, aS, aZ] at e0
     refine .inl ⟨rfl, ?_⟩
     clear hs hd hx
     go_simp
     exact ⟨Ext.refl _ _, rfl⟩
    ·intro a' w' hx hs hd
     obtain ⟨y, rfl⟩ := hx.ew
     have e8 : a'.tmps[8]?.getD undef = _ := hd 0 8 rfl rfl
     refine .inl ⟨rfl, ?_⟩
     clear hs hd hx
     go_simp
     exact ⟨Ext.refl _ _, rfl⟩
    ·intro a' w' hx hs hd
     obtain ⟨y, rfl⟩ := hx.ew
     have e9 : a'.tmps[9]?.getD undef = _ := hd 1 9 rfl rfl
     refine .inl ⟨rfl, ?_⟩
     clear hs hd hx
     go_simp
     exact ⟨Ext.refl _ _, rfl⟩
    ·intro a' w' hx hs hd
     obtain ⟨y, rfl⟩ := hx.ew
     have e10 : a'.tmps[10]?.getD undef = _ := hd 2 10 rfl rfl
     refine .inl ⟨rfl, ?_⟩
     clear hs hd hx
     go_simp
     exact ⟨Ext.refl _ _, rfl⟩
    ·intro a' w' hx hs hd
     obtain ⟨y, rfl⟩ := hx.ew
     have e3 : a'.tmps[3]?.getD undef = _ := hs 3 rfl
     simp only [aL, aS, aZ] at e3
     refine .inl ⟨rfl, ?_⟩
     clear hs hd hx
     go_simp
     exact ⟨Ext.refl _ _, rfl⟩
    ·intro a' w' hx hs hd
     obtain ⟨y, rfl⟩ := hx.ew
     have e12 : a'.tmps[12]?.getD undef = _ := hd 4 12 rfl rfl
     refine .inl ⟨rfl, ?_⟩
     clear hs hd hx
     go_simp
     exact ⟨Ext.refl _ _, rfl⟩
    ·intro a' w' hx hs hd
     obtain ⟨y, rfl⟩ := hx.ew
     have e11 : a'.tmps[11]?.getD undef = _ := hd 3 11 rfl rfl
     have e13 : a'.tmps[13]?.getD undef = _ := hd 5 13 rfl rfl
     refine .inl ⟨rfl, ?_⟩
     clear hs hd hx
     go_simp
     exact (ref07_Join_any a2 c2 g.next id HM.out 7 HE.out w.heap.size _ (by have h1 := (exG0 : Ext Non w y.on).size; omega) (I2.out.extN (exG0))).mono (fun e w'' ⟨a, c, m, he, hx, hr⟩ => ⟨_, he, hx, a, c, m, rfl, hI_ hr⟩)
    ·intro a' w' hx hs hd
     obtain ⟨y, rfl⟩ := hx.ew
     obtain ⟨a3, c3, m3, e14, h3⟩ : ∃ a c m, a'.tmps[14]?.getD undef = .tuple #[.slice a m c, .int .i64 7] ∧ Hid (7 = 0 → m = (joinL g.next id).length ∧ Ints y.on a c (joinL g.next id) ∧ fresh w.heap.size y.on a) := hd 6 14 rfl rfl
     refine .inl ⟨rfl, ?_⟩
     clear hs hd hx
     go_simp
     exact ⟨Ext.refl _ _, a3, c3, m3, rfl, h3⟩
    ·intro a' w' hx hs hd
     obtain ⟨y, rfl⟩ := hx.ew
     obtain ⟨a4, c4, m4, e7, h4⟩ : ∃ a c m, a'.tmps[7]?.getD undef = .tuple #[.slice a m c, .int .i64 7] ∧ Hid (7 = 0 → m = (joinL g.next id).length ∧ Ints y.on a c (joinL g.next id) ∧ fresh w.heap.size y.on a) := hd 7 7 rfl rfl
     refine .inl ⟨rfl, ?_⟩
     clear hs hd hx
     go_simp
     exact ⟨Ext.refl _ _, a4, c4, m4, rfl, h4⟩
    ·intro a' w' hx hs hd
     obtain ⟨y, rfl⟩ := hx.ew
     obtain ⟨a4, c4, m4, e7, h4⟩ : ∃ a c m, a'.tmps[7]?.getD undef = .tuple #[.slice a m c, .int .i64 7] ∧ Hid (7 = 0 → m = (joinL g.next id).length ∧ Ints y.on a c (joinL g.next id) ∧ fresh w.heap.size y.on a) := hd 7 7 rfl rfl
     refine .inl ⟨rfl, ?_⟩
     clear hs hd hx
     go_simp
     exact ⟨Ext.refl _ _, rfl⟩
    ·intro a' w' hx hs hd
     obtain ⟨y, rfl⟩ := hx.ew
     obtain ⟨a5, c5, m5, e15, h5⟩ : ∃ a c m, a'.tmps[15]?.getD undef = .slice a m c ∧ Hid (7 = 0 → m = (joinL g.next id).length ∧ Ints y.on a c (joinL g.next id) ∧ fresh w.heap.size y.on a) := hd 8 15 rfl rfl
     refine .inl ⟨rfl, ?_⟩
     clear hs hd hx
     go_simp
     exact ⟨Ext.refl _ _, a5, c5, m5, rfl, h5⟩
    ·intro a' w' hx hs hd
     obtain ⟨y, rfl⟩ := hx.ew
     have e16 : a'.tmps[16]?.getD undef = _ := hd 9 16 rfl rfl
     refine .inl ⟨rfl, ?_⟩
     clear hs hd hx
     go_simp
     exact ⟨Ext.refl _ _, rfl⟩
   case' q18 =>
    intro vs w' hx hRR
    obtain ⟨x2, rfl⟩ := hx.ew
    have q0 : vs 0 = _ := hRR 0 (by decide)
    have q1 : vs 1 = _ := hRR 1 (by decide)
    have q2 : vs 2 = _ := hRR 2 (by decide)
    have q3 : vs 3 = _ := hRR 3 (by decide)
    have q4 : vs 4 = _ := hRR 4 (by decide)
    have q5 : vs 5 = _ := hRR 5 (by decide)
    obtain ⟨a3, c3, m3, q6, h3⟩ : ∃ a c m, vs 6 = .tuple #[.slice a m c, .int .i64 7] ∧ Hid (7 = 0 → m = (joinL g.next id).length ∧ Ints x2.on a c (joinL g.next id) ∧ fresh w.heap.size x2.on a) := hRR 6 (by decide)
    obtain ⟨a4, c4, m4, q7, h4⟩ : ∃ a c m, vs 7 = .tuple #[.slice a m c, .int .i64 7] ∧ Hid (7 = 0 → m = (joinL g.next id).length ∧ Ints x2.on a c (joinL g.next id) ∧ fresh w.heap.size x2.on a) := hRR 7 (by decide)
    obtain ⟨a5, c5, m5, q8, h5⟩ : ∃ a c m, vs 8 = .slice a m c ∧ Hid (7 = 0 → m = (joinL g.next id).length ∧ Ints x2.on a c (joinL g.next id) ∧ fresh w.heap.size x2.on a) := hRR 8 (by decide)
    have q9 : vs 9 = _ := hRR 9 (by decide)
    obtain ⟨ja, jc, jm, q10, jh⟩ : ∃ a c m, vs 10 = .slice a m c ∧ Hid (7 = 0 → m = (joinL g.next id).length ∧ Ints x2.on a c (joinL g.next id) ∧ fresh w.heap.size x2.on a) := hRR 10 (by decide)
    have q11 : vs 11 = _ := hRR 11 (by decide)
    clear hRR hx
    simp only [putAll, List.take_succ_cons, List.take_zero, List.drop_succ_cons, List.drop_zero, Act.put, List.setIfInBounds_toArray, List.set_cons_zero, List.set_cons_succ, Nat.reduceAdd, Nat.zero_add]
    simp only [q0, q1, q2, q3, q4, q5, q6, q7, q8, q9, q10, q11]
    clear q0 q1 q2 q3 q4 q5 q6 q7 q8 q9 q10 q11 vs
   clear h3 h4 h5
   have XZ : Ext Non w x2.on := exG0
   have BR1 := hI_ (BR.out.extN x2.ext)
   have HZ := hI_ (HH.out.extN XZ)
   have HXZ := hI_ XZ
   have HQ := jh
   clear XZ
   have BO1 := hI_ (BO.out.extN x2.ext)
   generalize x2.on = w2 at *
   have u0 : w2.cell? ⟨w.heap.size + 1, 0, none⟩ = some (.int .i64 0) := BR1.out.cell rfl
   have u1 : w2.cell? ⟨w.heap.size + 1, 1, none⟩ = some (.float .f64 0) := BR1.out.cell rfl
   have f0 : w2.frozen? ⟨w.heap.size + 1, 0, none⟩ = false := froz_of_heap BR1.out.h
   have f1 : w2.frozen? ⟨w.heap.size + 1, 1, none⟩ = false := froz_of_heap BR1.out.h
   have o0 : w2.cell? ⟨w.heap.size, 0, none⟩ = some (.int .i64 6) := BO1.out.cell rfl
   clear HQ q2 fz
   go_wp2
   obtain ⟨E1, E2, r0, r1⟩ := keyed_end (v0 := .int .i64 3) (v1 := .float .f64 0) BR1.out (by omega : w.heap.size ≤ w.heap.size + 1) HLT.out.1 HLT.out.2.1 HXZ.out.ofNon HZ.out
   generalize (w2.setCell ⟨w.heap.size + 1, 0, none⟩ (.int .i64 3)).setCell ⟨w.heap.size + 1, 1, none⟩ (.float .f64 0) = w6 at *
   refine bodyPost_ret (v := .agg #[.int .i64 3, .float .f64 0]) (by simp [results, Tryz.results61, go_sem, r0, r1]) rfl ?_
   exact ⟨by rw [HG.out.2], E1, by rw [HG.out.1]; exact E2⟩
  ·have HG : Hid (applyL g ⟨6, key, x, id⟩ = g ∧ applyR g ⟨6, key, x, id⟩ = ⟨6, 0⟩) := hI_ (by unfold applyL applyR moveL moveC; simp [he])
   have HE := hI_ he
   clear he I
   have BO := hI_ ((Bx.newAt w [.int .i64 6, .string key, .float .f64 x, .int .i64 id] 52 _ rfl).alloc (.cells #[.int .i64 0, .float .f64 0] 48))
   have BR := hI_ (Bx.newAt (w.alloc (.cells [Value.int .i64 6, .string key, .float .f64 x, .int .i64 id].toArray 52)) [.int .i64 0, .float .f64 0] 48 (w.heap.size + 1) (by simp))
   go_enter Tryz.func61, Tryz.ntmps61
   go_upto_region 1 with fail
   apply wp_region_rel (relR [Mo.is _, Mo.is _, Mo.is _, Mo.is _, Mo.is _, Mo.is _, moJ w.heap.size (joinL g.next id) 10, moJ w.heap.size (joinL g.next id) 10, moJs w.heap.size (joinL g.next id) 10, Mo.is _, moJs w.heap.size (joinL g.next id) 10, Mo.is _]) (by kernel_rfl) (by kernel_rfl) (by kernel_rfl) (relR_mono _) (StepD.all ?st19) ?q19
   case st19 =>
    refine ⟨?_, ?_, ?_, ?_, ?_, ?_, ?_, ?_, ?_, ?_, ?_, ?_, trivial⟩
    ·intro a' w' hx hs hd
     obtain ⟨y, rfl⟩ := hx.ew
     have e0 : a'.tmps[0]?.getD undef = _ := hs 0 rfl
     simp only [aL, aS, aZ] at e0
     refine .inl ⟨rfl, ?_⟩
     clear hs hd hx
     go_simp
     exact ⟨Ext.refl _ _, rfl⟩
    ·intro a' w' hx hs hd
     obtain ⟨y, rfl⟩ := hx.ew
     have e8 : a'.tmps[8]?.getD undef = _ := hd 0 8 rfl rfl
     refine .inl ⟨rfl, ?_⟩
     clear hs hd hx
     go_simp
     exact ⟨Ext.refl _ _, rfl⟩
    ·intro a' w' hx hs hd
     obtain ⟨y, rfl⟩ := hx.ew
     have e9 : a'.tmps[9]?.getD undef = _ := hd 1 9 rfl rfl
     refine .inl ⟨rfl, ?_⟩
     clear hs hd hx
     go_simp
     exact ⟨Ext.refl _ _, rfl⟩
    ·intro a' w' hx hs hd
     obtain ⟨y, rfl⟩ := hx.ew
     have e10 : a'.tmps[10]?.getD undef = _ := hd 2 10 rfl rfl
     refine .inl ⟨rfl, ?_⟩
     clear hs hd hx
     go_simp
     exact ⟨Ext.refl _ _, rfl⟩
    ·intro a' w' hx hs hd
     obtain ⟨y, rfl⟩ := hx.ew
     have e3 : a'.tmps[3]?.getD undef = _ := hs 3 rfl
     simp only [aL, aS, aZ] at e3
     refine .inl ⟨rfl, ?_⟩
     clear hs hd hx
     go_simp
     exact ⟨Ext.refl _ _, rfl⟩
    ·intro a' w' hx hs hd
     obtain ⟨y, rfl⟩ := hx.ew
     have e12 : a'.tmps[12]?.getD undef = _ := hd 4 12 rfl rfl
     refine .inl ⟨rfl, ?_⟩
     clear hs hd hx
     go_simp
     exact ⟨Ext.refl _ _, rfl⟩
    ·intro a' w' hx hs hd
     obtain ⟨y, rfl⟩ := hx.ew
     have e11 : a'.tmps[11]?.getD undef = _ := hd 3 11 rfl rfl
     have e13 : a'.tmps[13]?.getD undef = _ := hd 5 13 rfl rfl
     refine .inl ⟨rfl, ?_⟩
     clear hs hd hx
     go_simp
     exact (ref07_Join_any a2 c2 g.next id HM.out 10 HE.out w.heap.size _ (by have h1 := (exG0 : Ext Non w y.on).size; omega) (I2.out.extN (exG0))).mono (fun e w'' ⟨a, c, m, he, hx, hr⟩ => ⟨_, he, hx, a, c, m, rfl, hI_ hr⟩)
    ·intro a' w' hx hs hd
     obtain ⟨y, rfl⟩ := hx.ew
     obtain ⟨a3, c3, m3, e14, h3⟩ : ∃ a c m, a'.tmps[14]?.getD undef = .tuple #[.slice a m c, .int .i64 10] ∧ Hid (10 = 0 → m = (joinL g.next id).length ∧ Ints y.on a c (joinL g.next id) ∧ fresh w.heap.size y.on a) := hd 6 14 rfl rfl
     refine .inl ⟨rfl, ?_⟩
     clear hs hd hx
     go_simp
     exact ⟨Ext.refl _ _, a3, c3, m3, rfl, h3⟩
    ·intro a' w' hx hs hd
     obtain ⟨y, rfl⟩ := hx.ew
     obtain ⟨a4, c4, m4, e7, h4⟩ : ∃ a c m, a'.tmps[7]?.getD undef = .tuple #[.slice a m c, .int .i64 10] ∧ Hid (10 = 0 → m = (joinL g.next id).length ∧ Ints y.on a c (joinL g.next id) ∧ fresh w.heap.size y.on a) := hd 7 7 rfl rfl
     refine .inl ⟨rfl, ?_⟩
     clear hs hd hx
     go_simp
     exact ⟨Ext.refl _ _, a4, c4, m4, rfl, h4⟩
    ·intro a' w' hx hs hd
     obtain ⟨y, rfl⟩ := hx.ew
     obtain ⟨a4, c4, m4, e7, h4⟩ : ∃ a c m, a'.tmps[7]?.getD undef = .tuple #[.slice a m c, .int .i64 10] ∧ Hid (10 = 0 → m = (joinL g.next id).length ∧ Ints y.on a c (joinL g.next id) ∧ fresh w.heap.size y.on a) := hd 7 7 rfl rfl
     refine .inl ⟨rfl, ?_⟩
     clear hs hd hx
     go_simp
     exact ⟨Ext.refl _ _, rfl⟩
    ·intro a' w' hx hs hd
     obtain ⟨y, rfl⟩ := hx.ew
     obtain ⟨a5, c5, m5, e15, h5⟩ : ∃ a c m, a'.tmps[15]?.getD undef = .slice a m c ∧ Hid (10 = 0 → m = (joinL g.next id).length ∧ Ints y.on a c (joinL g.next id) ∧ fresh w.heap.size y.on a) := hd 8 15 rfl rfl
     refine .inl ⟨rfl, ?_⟩
     clear hs hd hx
     go_simp
     exact ⟨Ext.refl _ _, a5, c5, m5, rfl, h5⟩
    ·intro a' w' hx hs hd
     obtain ⟨y, rfl⟩ := hx.ew
     have e16 : a'.tmps[16]?.getD undef = _ := hd 9 16 rfl rfl
     refine .inl ⟨rfl, ?_⟩
     clear hs hd hx
     go_simp
     exact ⟨Ext.refl _ _, rfl⟩
   case' q19 =>
    intro vs w' hx hRR
    obtain ⟨x2, rfl⟩ := hx.ew
    have q0 : vs 0 = _ := hRR 0 (by decide)
    have q1 : vs 1 = _ := hRR 1 (by decide)
    have q2 : vs 2 = _ := hRR 2 (by decide)
    have q3 : vs 3 = _ := hRR 3 (by decide)
    have q4 : vs 4 = _ := hRR 4 (by decide)
    have q5 : vs 5 = _ := hRR 5 (by decide)
    obtain ⟨a3, c3, m3, q6, h3⟩ : ∃ a c m, vs 6 = .tuple #[.slice a m c, .int .i64 10] ∧ Hid (10 = 0 → m = (joinL g.next id).length ∧ Ints x2.on a c (joinL g.next id) ∧ fresh w.heap.size x2.on a) := hRR 6 (by decide)
    obtain ⟨a4, c4, m4, q7, h4⟩ : ∃ a c m, vs 7 = .tuple #[.slice a m c, .int .i64 10] ∧ Hid (10 = 0 → m = (joinL g.next id).length ∧ Ints x2.on a c (joinL g.next id) ∧ fresh w.heap.size x2.on a) := hRR 7 (by decide)
    obtain ⟨a5, c5, m5, q8, h5⟩ : ∃ a c m, vs 8 = .slice a m c ∧ Hid (10 = 0 → m = (joinL g.next id).length ∧ Ints x2.on a c (joinL g.next id) ∧ fresh w.heap.size x2.on a) := hRR 8 (by decide)
    have q9 : vs 9 = _ := hRR 9 (by decide)
    obtain ⟨ja, jc, jm, q10, jh⟩ : ∃ a c m, vs 10 = .slice a m c ∧ Hid (10 = 0 → m = (joinL g.next id).length ∧ Ints x2.on a c (joinL g.next id) ∧ fresh w.heap.size x2.on a) := hRR 10 (by decide)
    have q11 : vs 11 = _ := hRR 11 (by decide)
    clear hRR hx
    simp only [putAll, List.take_succ_cons, List.take_zero, List.drop_succ_cons, List.drop_zero, Act.put, List.setIfInBounds_toArray, List.set_cons_zero, List.set_cons_succ, Nat.reduceAdd, Nat.zero_add]
    simp only [q0, q1, q2, q3, q4, q5, q6, q7, q8, q9, q10, q11]
    clear q0 q1 q2 q3 q4 q5 q6 q7 q8 q9 q10 q11 vs
   clear h3 h4 h5
   have XZ : Ext Non w x2.on := exG0
   have BR1 := hI_ (BR.out.extN x2.ext)
   have HZ := hI_ (HH.out.extN XZ)
   have HXZ := hI_ XZ
   have HQ := jh
   clear XZ
   have BO1 := hI_ (BO.out.extN x2.ext)
   generalize x2.on = w2 at *
   have u0 : w2.cell? ⟨w.heap.size + 1, 0, none⟩ = some (.int .i64 0) := BR1.out.cell rfl
   have u1 : w2.cell? ⟨w.heap.size + 1, 1, none⟩ = some (.float .f64 0) := BR1.out.cell rfl
   have f0 : w2.frozen? ⟨w.heap.size + 1, 0, none⟩ = false := froz_of_heap BR1.out.h
   have f1 : w2.frozen? ⟨w.heap.size + 1, 1, none⟩ = false := froz_of_heap BR1.out.h
   have o0 : w2.cell? ⟨w.heap.size, 0, none⟩ = some (.int .i64 6) := BO1.out.cell rfl
   clear HQ q2 fz
   go_wp2
   obtain ⟨E1, E2, r0, r1⟩ := keyed_end (v0 := .int .i64 6) (v1 := .float .f64 0) BR1.out (by omega : w.heap.size ≤ w.heap.size + 1) HLT.out.1 HLT.out.2.1 HXZ.out.ofNon HZ.out
   generalize (w2.setCell ⟨w.heap.size + 1, 0, none⟩ (.int .i64 6)).setCell ⟨w.heap.size + 1, 1, none⟩ (.float .f64 0) = w6 at *
   refine bodyPost_ret (v := .agg #[.int .i64 6, .float .f64 0]) (by simp [results, Tryz.results61, go_sem, r0, r1]) rfl ?_
   exact ⟨by rw [HG.out.2], E1, by rw [HG.out.1]; exact E2⟩
  ·have HG : Hid (applyL g ⟨6, key, x, id⟩ = setNext g (joinL g.next id) ∧ applyR g ⟨6, key, x, id⟩ = ⟨0, 0⟩) := hI_ (by unfold applyL applyR moveL moveC; simp [he])
   have HE := hI_ he
   clear he I
   have BO := hI_ ((Bx.newAt w [.int .i64 6, .string key, .float .f64 x, .int .i64 id] 52 _ rfl).alloc (.cells #[.int .i64 0, .float .f64 0] 48))
   have BR := hI_ (Bx.newAt (w.alloc (.cells [Value.int .i64 6, .string key, .float .f64 x, .int .i64 id].toArray 52)) [.int .i64 0, .float .f64 0] 48 (w.heap.size + 1) (by simp))
   go_enter Tryz.func61, Tryz.ntmps61
   go_upto_region 1 with fail
   apply wp_region_rel (relR [Mo.is _, Mo.is _, Mo.is _, Mo.is _, Mo.is _, Mo.is _, moJ w.heap.size (joinL g.next id) 0, moJ w.heap.size (joinL g.next id) 0, moJs w.heap.size (joinL g.next id) 0, Mo.is _, moJs w.heap.size (joinL g.next id) 0, Mo.is _]) (by kernel_rfl) (by kernel_rfl) (by kernel_rfl) (relR_mono _) (StepD.all ?st20) ?q20
   case st20 =>
    refine ⟨?_, ?_, ?_, ?_, ?_, ?_, ?_, ?_, ?_, ?_, ?_, ?_, trivial⟩
    ·intro a' w' hx hs hd
     obtain ⟨y, rfl⟩ := hx.ew
     have e0 : a'.tmps[0]?.getD undef = _ := hs 0 rfl
     simp only [aL, aS, aZ] at e0
     refine .inl ⟨rfl, ?_⟩
     clear hs hd hx
     go_simp
     exact ⟨Ext.refl _ _, rfl⟩
    ·intro a' w' hx hs hd
     obtain ⟨y, rfl⟩ := hx.ew
     have e8 : a'.tmps[8]?.getD undef = _ := hd 0 8 rfl rfl
     refine .inl ⟨rfl, ?_⟩
     clear hs hd hx
     go_simp
     exact ⟨Ext.refl _ _, rfl⟩
    ·intro a' w' hx hs hd
     obtain ⟨y, rfl⟩ := hx.ew
     have e9 : a'.tmps[9]?.getD undef = _ := hd 1 9 rfl rfl
     refine .inl ⟨rfl, ?_⟩
     clear hs hd hx
     go_simp
     exact ⟨Ext.refl _ _, rfl⟩
    ·intro a' w' hx hs hd
     obtain ⟨y, rfl⟩ := hx.ew
     have e10 : a'.tmps[10]?.getD undef = _ := hd 2 10 rfl rfl
     refine .inl ⟨rfl, ?_⟩
     clear hs hd hx
     go_simp
     exact ⟨Ext.refl _ _, rfl⟩
    ·intro a' w' hx hs hd
     obtain ⟨y, rfl⟩ := hx.ew
     have e3 : a'.tmps[3]?.getD undef = _ := hs 3 rfl
     simp only [aL, aS, aZ] at e3
     refine .inl ⟨rfl, ?_⟩
     clear hs hd hx
     go_simp
     exact ⟨Ext.refl _ _, rfl⟩
    ·intro a' w' hx hs hd
     obtain ⟨y, rfl⟩ := hx.ew
     have e12 : a'.tmps[12]?.getD undef = _ := hd 4 12 rfl rfl
     refine .inl ⟨rfl, ?_⟩
     clear hs hd hx
     go_simp
     exact ⟨Ext.refl _ _, rfl⟩
    ·intro a' w' hx hs hd
     obtain ⟨y, rfl⟩ := hx.ew
     have e11 : a'.tmps[11]?.getD undef = _ := hd 3 11 rfl rfl
     have e13 : a'.tmps[13]?.getD undef = _ := hd 5 13 rfl rfl
     refine .inl ⟨rfl, ?_⟩
     clear hs hd hx
     go_simp
     exact (ref07_Join_any a2 c2 g.next id HM.out 0 HE.out w.heap.size _ (by have h1 := (exG0 : Ext Non w y.on).size; omega) (I2.out.extN (exG0))).mono (fun e w'' ⟨a, c, m, he, hx, hr⟩ => ⟨_, he, hx, a, c, m, rfl, hI_ hr⟩)
    ·intro a' w' hx hs hd
     obtain ⟨y, rfl⟩ := hx.ew
     obtain ⟨a3, c3, m3, e14, h3⟩ : ∃ a c m, a'.tmps[14]?.getD undef = .tuple #[.slice a m c, .int .i64 0] ∧ Hid (0 = 0 → m = (joinL g.next id).length ∧ Ints y.on a c (joinL g.next id) ∧ fresh w.heap.size y.on a) := hd 6 14 rfl rfl
     refine .inl ⟨rfl, ?_⟩
     clear hs hd hx
     go_simp
     exact ⟨Ext.refl _ _, a3, c3, m3, rfl, h3⟩
    ·intro a' w' hx hs hd
     obtain ⟨y, rfl⟩ := hx.ew
     obtain ⟨a4, c4, m4, e7, h4⟩ : ∃ a c m, a'.tmps[7]?.getD undef = .tuple #[.slice a m c, .int .i64 0] ∧ Hid (0 = 0 → m = (joinL g.next id).length ∧ Ints y.on a c (joinL g.next id) ∧ fresh w.heap.size y.on a) := hd 7 7 rfl rfl
     refine .inl ⟨rfl, ?_⟩
     clear hs hd hx
     go_simp
     exact ⟨Ext.refl _ _, a4, c4, m4, rfl, h4⟩
    ·intro a' w' hx hs hd
     obtain ⟨y, rfl⟩ := hx.ew
     obtain ⟨a4, c4, m4, e7, h4⟩ : ∃ a c m, a'.tmps[7]?.getD undef = .tuple #[.slice a m c, .int .i64 0] ∧ Hid (0 = 0 → m = (joinL g.next id).length ∧ Ints y.on a c (joinL g.next id) ∧ fresh w.heap.size y.on a) := hd 7 7 rfl rfl
     refine .inl ⟨rfl, ?_⟩
     clear hs hd hx
     go_simp
     exact ⟨Ext.refl _ _, rfl⟩
    ·intro a' w' hx hs hd
     obtain ⟨y, rfl⟩ := hx.ew
     obtain ⟨a5, c5, m5, e15, h5⟩ : ∃ a c m, a'.tmps[15]?.getD undef = .slice a m c ∧ Hid (0 = 0 → m = (joinL g.next id).length ∧ Ints y.on a c (joinL g.next id) ∧ fresh w.heap.size y.on a) := hd 8 15 rfl rfl
     refine .inl ⟨rfl, ?_⟩
     clear hs hd hx
     go_simp
     exact ⟨Ext.refl _ _, a5, c5, m5, rfl, h5⟩
    ·intro a' w' hx hs hd
     obtain ⟨y, rfl⟩ := hx.ew
     have e16 : a'.tmps[16]?.getD undef = _ := hd 9 16 rfl rfl
     refine .inl ⟨rfl, ?_⟩
     clear hs hd hx
     go_simp
     exact ⟨Ext.refl _ _, rfl⟩
   case' q20 =>
    intro vs w' hx hRR
    obtain ⟨x2, rfl⟩ := hx.ew
    have q0 : vs 0 = _ := hRR 0 (by decide)
    have q1 : vs 1 = _ := hRR 1 (by decide)
    have q2 : vs 2 = _ := hRR 2 (by decide)
    have q3 : vs 3 = _ := hRR 3 (by decide)
    have q4 : vs 4 = _ := hRR 4 (by decide)
    have q5 : vs 5 = _ := hRR 5 (by decide)
    obtain ⟨a3, c3, m3, q6, h3⟩ : ∃ a c m, vs 6 = .tuple #[.slice a m c, .int .i64 0] ∧ Hid (0 = 0 → m = (joinL g.next id).length ∧ Ints x2.on a c (joinL g.next id) ∧ fresh w.heap.size x2.on a) := hRR 6 (by decide)
    obtain ⟨a4, c4, m4, q7, h4⟩ : ∃ a c m, vs 7 = .tuple #[.slice a m c, .int .i64 0] ∧ Hid (0 = 0 → m = (joinL g.next id).length ∧ Ints x2.on a c (joinL g.next id) ∧ fresh w.heap.size x2.on a) := hRR 7 (by decide)
    obtain ⟨a5, c5, m5, q8, h5⟩ : ∃ a c m, vs 8 = .slice a m c ∧ Hid (0 = 0 → m = (joinL g.next id).length ∧ Ints x2.on a c (joinL g.next id) ∧ fresh w.heap.size x2.on a) := hRR 8 (by decide)
    have q9 : vs 9 = _ := hRR 9 (by decide)
    obtain ⟨ja, jc, jm, q10, jh⟩ : ∃ a c m, vs 10 = .slice a m c ∧ Hid (0 = 0 → m = (joinL g.next id).length ∧ Ints x2.on a c (joinL g.next id) ∧ fresh w.heap.size x2.on a) := hRR 10 (by decide)
    have q11 : vs 11 = _ := hRR 11 (by decide)
    clear hRR hx
    simp only [putAll, List.take_succ_cons, List.take_zero, List.drop_succ_cons, List.drop_zero, Act.put, List.setIfInBounds_toArray, List.set_cons_zero, List.set_cons_succ, Nat.reduceAdd, Nat.zero_add]
    simp only [q0, q1, q2, q3, q4, q5, q6, q7, q8, q9, q10, q11]
    clear q0 q1 q2 q3 q4 q5 q6 q7 q8 q9 q10 q11 vs
   clear h3 h4 h5
   have XZ : Ext Non w x2.on := exG0
   have BR1 := hI_ (BR.out.extN x2.ext)
   have HZ := hI_ (HH.out.extN XZ)
   have HXZ := hI_ XZ
   have HQ := jh
   clear XZ
   have BO1 := hI_ (BO.out.extN x2.ext)
   generalize x2.on = w2 at *
   have u0 : w2.cell? ⟨w.heap.size + 1, 0, none⟩ = some (.int .i64 0) := BR1.out.cell rfl
   have u1 : w2.cell? ⟨w.heap.size + 1, 1, none⟩ = some (.float .f64 0) := BR1.out.cell rfl
   have f0 : w2.frozen? ⟨w.heap.size + 1, 0, none⟩ = false := froz_of_heap BR1.out.h
   have f1 : w2.frozen? ⟨w.heap.size + 1, 1, none⟩ = false := froz_of_heap BR1.out.h
   have o0 : w2.cell? ⟨w.heap.size, 0, none⟩ = some (.int .i64 6) := BO1.out.cell rfl
   have q2' : w2.cell? ⟨b, 2, none⟩ = some (.slice a2 g.next.length c2) := (HB.out.extN HXZ.out).cell rfl
   have fz' : w2.frozen? ⟨b, 2, none⟩ = false := froz_of_heap (HB.out.extN HXZ.out).h
   clear q2 fz
   obtain ⟨hmm, hI5, hF5⟩ := HQ.out rfl
   subst hmm
   have HI5 := hI_ hI5; have HF5 := hI_ hF5
   clear hI5 hF5 HQ
   have X3 : Ext (One b) w2 (w2.setCell ⟨b, 2, none⟩ (.slice ja (joinL g.next id).length jc)) := (Ext.refl _ _).set1 _
   have HR3 : Hid (RL (w2.setCell ⟨b, 2, none⟩ (.slice ja (joinL g.next id).length jc)) b sb rb (setNext g (joinL g.next id))) := hI_ (by
    have hb2 := HB.out.extN HXZ.out
    exact HZ.out.upd X3 (g' := setNext g (joinL g.next id)) (hb2.set (j := 2) (.slice ja (joinL g.next id).length jc)) (I1.out.extN HXZ.out) HI5.out (T1.out.extN HXZ.out) (HF5.out.av HLT.out.2.2) (ownR_ext (ownR_extN HV.out HXZ.out) X3 (row_not (ownR_extN HV.out HXZ.out) hb2 (by decide))) rfl HH.out.nd)
   have BR3 := hI_ (BR1.out.ext X3 (fun q => by have := HLT.out.1; have : w.heap.size + 1 = b := q; omega))
   have HX3 := hI_ (HXZ.out.ofNon.trans X3)
   clear X3
   go_upto_region 14 with fail
   clear q2' fz' u0 u1 f0 f1
   generalize w2.setCell ⟨b, 2, none⟩ (.slice ja (joinL g.next id).length jc) = w3 at *
   have u0 : w3.cell? ⟨w.heap.size + 1, 0, none⟩ = some (.int .i64 0) := BR3.out.cell rfl
   have u1 : w3.cell? ⟨w.heap.size + 1, 1, none⟩ = some (.float .f64 0) := BR3.out.cell rfl
   have f0 : w3.frozen? ⟨w.heap.size + 1, 0, none⟩ = false := froz_of_heap BR3.out.h
   have f1 : w3.frozen? ⟨w.heap.size + 1, 1, none⟩ = false := froz_of_heap BR3.out.h
   go_wp2
   obtain ⟨E1, E2, r0, r1⟩ := keyed_end (v0 := .int .i64 0) (v1 := .float .f64 0) BR3.out (by omega : w.heap.size ≤ w.heap.size + 1) HLT.out.1 HLT.out.2.1 HX3.out HR3.out
   generalize (w3.setCell ⟨w.heap.size + 1, 0, none⟩ (.int .i64 0)).setCell ⟨w.heap.size + 1, 1, none⟩ (.float .f64 0) = w6 at *
   refine bodyPost_ret (v := .agg #[.int .i64 0, .float .f64 0]) (by simp [results, Tryz.results61, go_sem, r0, r1]) rfl ?_
   exact ⟨by rw [HG.out.2], E1, by rw [HG.out.1]; exact E2⟩
 ·have hex : leaveE g.next id = 8 ∨ leaveE g.next id = 9 ∨ leaveE g.next id = 0 := by
   rw [hL]; split
   ·split
    ·exact .inr (.inl rfl)
    ·exact .inr (.inr rfl)
   ·exact .inl rfl
  obtain ⟨e1, he1⟩ : ∃ e1, joinE g.next id = e1 := ⟨_, rfl⟩
  have HE1 := hI_ he1
  clear hJ hL he1
  rcases hex with he | he | he
  ·have HG : Hid (applyL g ⟨7, key, x, id⟩ = g ∧ applyR g ⟨7, key, x, id⟩ = ⟨4, 0⟩) := hI_ (by unfold applyL applyR moveL moveC; simp [he])
   have HE := hI_ he
   clear he I
   have BO := hI_ ((Bx.newAt w [.int .i64 7, .string key, .float .f64 x, .int .i64 id] 52 _ rfl).alloc (.cells #[.int .i64 0, .float .f64 0] 48))
   have BR := hI_ (Bx.newAt (w.alloc (.cells [Value.int .i64 7, .string key, .float .f64 x, .int .i64 id].toArray 52)) [.int .i64 0, .float .f64 0] 48 (w.heap.size + 1) (by simp))
   go_enter Tryz.func61, Tryz.ntmps61
   go_upto_region 1 with fail
   apply wp_region_rel (relR [Mo.is _, Mo.is _, Mo.is _, Mo.is _, Mo.is _, Mo.is _, moJ w.heap.size (joinL g.next id) e1, moJ w.heap.size (joinL g.next id) e1, moJs w.heap.size (joinL g.next id) e1, Mo.is _, moJs w.heap.size (joinL g.next id) e1, Mo.is _]) (by kernel_rfl) (by kernel_rfl) (by kernel_rfl) (relR_mono _) (StepD.all ?st21) ?q21
   case st21 =>
    refine ⟨?_, ?_, ?_, ?_, ?_, ?_, ?_, ?_, ?_, ?_, ?_, ?_, trivial⟩
    ·intro a' w' hx hs hd
     obtain ⟨y, rfl⟩ := hx.ew
     have e0 : a'.tmps[0]?.getD undef = _ := hs 0 rfl
     simp only [aL, aS, aZ] at e0
     refine .inl ⟨rfl, ?_⟩
     clear hs hd hx
     go_simp
     exact ⟨Ext.refl _ _, rfl⟩
    ·intro a' w' hx hs hd
     obtain ⟨y, rfl⟩ := hx.ew
     have e8 : a'.tmps[8]?.getD undef = _ := hd 0 8 rfl rfl
     refine .inl ⟨rfl, ?_⟩
     clear hs hd hx
     go_simp
     exact ⟨Ext.refl _ _, rfl⟩
    ·intro a' w' hx hs hd
     obtain ⟨y, rfl⟩ := hx.ew
     have e9 : a'.tmps[9]?.getD undef = _ := hd 1 9 rfl rfl
     refine .inl ⟨rfl, ?_⟩
     clear hs hd hx
     go_simp
     exact ⟨Ext.refl _ _, rfl⟩
    ·intro a' w' hx hs hd
     obtain ⟨y, rfl⟩ := hx.ew
     have e10 : a'.tmps[10]?.getD undef = _ := hd 2 10 rfl rfl
     refine .inl ⟨rfl, ?_⟩
     clear hs hd hx
     go_simp
     exact ⟨Ext.refl _ _, rfl⟩
    ·intro a' w' hx hs hd
     obtain ⟨y, rfl⟩ := hx.ew
     have e3 : a'.tmps[3]?.getD undef = _ := hs 3 rfl
     simp only [aL, aS, aZ] at e3
     refine .inl ⟨rfl, ?_⟩
     clear hs hd hx
     go_simp
     exact ⟨Ext.refl _ _, rfl⟩
    ·intro a' w' hx hs hd
     obtain ⟨y, rfl⟩ := hx.ew
     have e12 : a'.tmps[12]?.getD undef = _ := hd 4 12 rfl rfl
     refine .inl ⟨rfl, ?_⟩
     clear hs hd hx
     go_simp
     exact ⟨Ext.refl _ _, rfl⟩
    ·intro a' w' hx hs hd
     obtain ⟨y, rfl⟩ := hx.ew
     have e11 : a'.tmps[11]?.getD undef = _ := hd 3 11 rfl rfl
     have e13 : a'.tmps[13]?.getD undef = _ := hd 5 13 rfl rfl
     refine .inl ⟨rfl, ?_⟩
     clear hs hd hx
     go_simp
     exact (ref07_Join_any a2 c2 g.next id HM.out e1 HE1.out w.heap.size _ (by have h1 := (exG0 : Ext Non w y.on).size; omega) (I2.out.extN (exG0))).mono (fun e w'' ⟨a, c, m, he, hx, hr⟩ => ⟨_, he, hx, a, c, m, rfl, hI_ hr⟩)
    ·intro a' w' hx hs hd
     obtain ⟨y, rfl⟩ := hx.ew
     obtain ⟨a3, c3, m3, e14, h3⟩ : ∃ a c m, a'.tmps[14]?.getD undef = .tuple #[.slice a m c, .int .i64 e1] ∧ Hid (e1 = 0 → m = (joinL g.next id).length ∧ Ints y.on a c (joinL g.next id) ∧ fresh w.heap.size y.on a) := hd 6 14 rfl rfl
     refine .inl ⟨rfl, ?_⟩
     clear hs hd hx
     go_simp
     exact ⟨Ext.refl _ _, a3, c3, m3, rfl, h3⟩
    ·intro a' w' hx hs hd
     obtain ⟨y, rfl⟩ := hx.ew
     obtain ⟨a4, c4, m4, e7, h4⟩ : ∃ a c m, a'.tmps[7]?.getD undef = .tuple #[.slice a m c, .int .i64 e1] ∧ Hid (e1 = 0 → m = (joinL g.next id).length ∧ Ints y.on a c (joinL g.next id) ∧ fresh w.heap.size y.on a) := hd 7 7 rfl rfl
     refine .inl ⟨rfl, ?_⟩
     clear hs hd hx
     go_simp
     exact ⟨Ext.refl _ _, a4, c4, m4, rfl, h4⟩
    ·intro a' w' hx hs hd
     obtain ⟨y, rfl⟩ := hx.ew
     obtain ⟨a4, c4, m4, e7, h4⟩ : ∃ a c m, a'.tmps[7]?.getD undef = .tuple #[.slice a m c, .int .i64 e1] ∧ Hid (e1 = 0 → m = (joinL g.next id).length ∧ Ints y.on a c (joinL g.next id) ∧ fresh w.heap.size y.on a) := hd 7 7 rfl rfl
     refine .inl ⟨rfl, ?_⟩
     clear hs hd hx
     go_simp
     exact ⟨Ext.refl _ _, rfl⟩
    ·intro a' w' hx hs hd
     obtain ⟨y, rfl⟩ := hx.ew
     obtain ⟨a5, c5, m5, e15, h5⟩ : ∃ a c m, a'.tmps[15]?.getD undef = .slice a m c ∧ Hid (e1 = 0 → m = (joinL g.next id).length ∧ Ints y.on a c (joinL g.next id) ∧ fresh w.heap.size y.on a) := hd 8 15 rfl rfl
     refine .inl ⟨rfl, ?_⟩
     clear hs hd hx
     go_simp
     exact ⟨Ext.refl _ _, a5, c5, m5, rfl, h5⟩
    ·intro a' w' hx hs hd
     obtain ⟨y, rfl⟩ := hx.ew
     have e16 : a'.tmps[16]?.getD undef = _ := hd 9 16 rfl rfl
     refine .inl ⟨rfl, ?_⟩
     clear hs hd hx
     go_simp
     exact ⟨Ext.refl _ _, rfl⟩
   case' q21 =>
    intro vs w' hx hRR
    obtain ⟨x1, rfl⟩ := hx.ew
    have q0 : vs 0 = _ := hRR 0 (by decide)
    have q1 : vs 1 = _ := hRR 1 (by decide)
    have q2 : vs 2 = _ := hRR 2 (by decide)
    have q3 : vs 3 = _ := hRR 3 (by decide)
    have q4 : vs 4 = _ := hRR 4 (by decide)
    have q5 : vs 5 = _ := hRR 5 (by decide)
    obtain ⟨a3, c3, m3, q6, h3⟩ : ∃ a c m, vs 6 = .tuple #[.slice a m c, .int .i64 e1] ∧ Hid (e1 = 0 → m = (joinL g.next id).length ∧ Ints x1.on a c (joinL g.next id) ∧ fresh w.heap.size x1.on a) := hRR 6 (by decide)
    obtain ⟨a4, c4, m4, q7, h4⟩ : ∃ a c m, vs 7 = .tuple #[.slice a m c, .int .i64 e1] ∧ Hid (e1 = 0 → m = (joinL g.next id).length ∧ Ints x1.on a c (joinL g.next id) ∧ fresh w.heap.size x1.on a) := hRR 7 (by decide)
    obtain ⟨a5, c5, m5, q8, h5⟩ : ∃ a c m, vs 8 = .slice a m c ∧ Hid (e1 = 0 → m = (joinL g.next id).length ∧ Ints x1.on a c (joinL g.next id) ∧ fresh w.heap.size x1.on a) := hRR 8 (by decide)
    have q9 : vs 9 = _ := hRR 9 (by decide)
    obtain ⟨ja, jc, jm, q10, jh⟩ : ∃ a c m, vs 10 = .slice a m c ∧ Hid (e1 = 0 → m = (joinL g.next id).length ∧ Ints x1.on a c (joinL g.next id) ∧ fresh w.heap.size x1.on a) := hRR 10 (by decide)
    have q11 : vs 11 = _ := hRR 11 (by decide)
    clear hRR hx
    simp only [putAll, List.take_succ_cons, List.take_zero, List.drop_succ_cons, List.drop_zero, Act.put, List.setIfInBounds_toArray, List.set_cons_zero, List.set_cons_succ, Nat.reduceAdd, Nat.zero_add]
    simp only [q0, q1, q2, q3, q4, q5, q6, q7, q8, q9, q10, q11]
    clear q0 q1 q2 q3 q4 q5 q6 q7 q8 q9 q10 q11 vs
   clear h3 h4 h5
   clear jh
   have BO1 := hI_ (BO.out.extN x1.ext)
   have o0 : x1.on.cell? ⟨w.heap.size, 0, none⟩ = some (.int .i64 7) := BO1.out.cell rfl
   have o3 : x1.on.cell? ⟨w.heap.size, 3, none⟩ = some (.int .i64 id) := BO1.out.cell rfl
   go_upto_region 3 with fail
   apply wp_region_rel (relR [Mo.is _, Mo.is _, Mo.is _, Mo.is _, Mo.is _, Mo.is _, moJ w.heap.size (leaveL g.next id) 8, moJ w.heap.size (leaveL g.next id) 8, moJs w.heap.size (leaveL g.next id) 8, Mo.is _, moJs w.heap.size (leaveL g.next id) 8, Mo.is _]) (by kernel_rfl) (by kernel_rfl) (by kernel_rfl) (relR_mono _) (StepD.all ?st22) ?q22
   case st22 =>
    refine ⟨?_, ?_, ?_, ?_, ?_, ?_, ?_, ?_, ?_, ?_, ?_, ?_, trivial⟩
    ·intro a' w' hx hs hd
     obtain ⟨y, rfl⟩ := hx.ew
     have e0 : a'.tmps[0]?.getD undef = _ := hs 0 rfl
     simp only [aL, aS, aZ] at e0
     refine .inl ⟨rfl, ?_⟩
     clear hs hd hx
     go_simp
     exact ⟨Ext.refl _ _, rfl⟩
    ·intro a' w' hx hs hd
     obtain ⟨y, rfl⟩ := hx.ew
     have e21 : a'.tmps[21]?.getD undef = _ := hd 0 21 rfl rfl
     refine .inl ⟨rfl, ?_⟩
     clear hs hd hx
     go_simp
     exact ⟨Ext.refl _ _, rfl⟩
    ·intro a' w' hx hs hd
     obtain ⟨y, rfl⟩ := hx.ew
     have e22 : a'.tmps[22]?.getD undef = _ := hd 1 22 rfl rfl
     refine .inl ⟨rfl, ?_⟩
     clear hs hd hx
     go_simp
     exact ⟨Ext.refl _ _, rfl⟩
    ·intro a' w' hx hs hd
     obtain ⟨y, rfl⟩ := hx.ew
     have e23 : a'.tmps[23]?.getD undef = _ := hd 2 23 rfl rfl
     refine .inl ⟨rfl, ?_⟩
     clear hs hd hx
     go_simp
     exact ⟨Ext.refl _ _, rfl⟩
    ·intro a' w' hx hs hd
     obtain ⟨y, rfl⟩ := hx.ew
     have e3 : a'.tmps[3]?.getD undef = _ := hs 3 rfl
     simp only [aL, aS, aZ] at e3
     refine .inl ⟨rfl, ?_⟩
     clear hs hd hx
     go_simp
     exact ⟨Ext.refl _ _, rfl⟩
    ·intro a' w' hx hs hd
     obtain ⟨y, rfl⟩ := hx.ew
     have e25 : a'.tmps[25]?.getD undef = _ := hd 4 25 rfl rfl
     refine .inl ⟨rfl, ?_⟩
     clear hs hd hx
     go_simp
     exact ⟨Ext.refl _ _, rfl⟩
    ·intro a' w' hx hs hd
     obtain ⟨y, rfl⟩ := hx.ew
     have e24 : a'.tmps[24]?.getD undef = _ := hd 3 24 rfl rfl
     have e26 : a'.tmps[26]?.getD undef = _ := hd 5 26 rfl rfl
     refine .inl ⟨rfl, ?_⟩
     clear hs hd hx
     go_simp
     exact (ref07_Leave_any a2 c2 g.next id HM.out 8 HE.out w.heap.size _ (by have h1 := (exG0 : Ext Non w y.on).size; omega) (I2.out.extN (exG0))).mono (fun e w'' ⟨a, c, m, he, hx, hr⟩ => ⟨_, he, hx, a, c, m, rfl, hI_ hr⟩)
    ·intro a' w' hx hs hd
     obtain ⟨y, rfl⟩ := hx.ew
     obtain ⟨a3, c3, m3, e27, h3⟩ : ∃ a c m, a'.tmps[27]?.getD undef = .tuple #[.slice a m c, .int .i64 8] ∧ Hid (8 = 0 → m = (leaveL g.next id).length ∧ Ints y.on a c (leaveL g.next id) ∧ fresh w.heap.size y.on a) := hd 6 27 rfl rfl
     refine .inl ⟨rfl, ?_⟩
     clear hs hd hx
     go_simp
     exact ⟨Ext.refl _ _, a3, c3, m3, rfl, h3⟩
    ·intro a' w' hx hs hd
     obtain ⟨y, rfl⟩ := hx.ew
     obtain ⟨a4, c4, m4, e20, h4⟩ : ∃ a c m, a'.tmps[20]?.getD undef = .tuple #[.slice a m c, .int .i64 8] ∧ Hid (8 = 0 → m = (leaveL g.next id).length ∧ Ints y.on a c (leaveL g.next id) ∧ fresh w.heap.size y.on a) := hd 7 20 rfl rfl
     refine .inl ⟨rfl, ?_⟩
     clear hs hd hx
     go_simp
     exact ⟨Ext.refl _ _, a4, c4, m4, rfl, h4⟩
    ·intro a' w' hx hs hd
     obtain ⟨y, rfl⟩ := hx.ew
     obtain ⟨a4, c4, m4, e20, h4⟩ : ∃ a c m, a'.tmps[20]?.getD undef = .tuple #[.slice a m c, .int .i64 8] ∧ Hid (8 = 0 → m = (leaveL g.next id).length ∧ Ints y.on a c (leaveL g.next id) ∧ fresh w.heap.size y.on a) := hd 7 20 rfl rfl
     refine .inl ⟨rfl, ?_⟩
     clear hs hd hx
     go_simp
     exact ⟨Ext.refl _ _, rfl⟩
    ·intro a' w' hx hs hd
     obtain ⟨y, rfl⟩ := hx.ew
     obtain ⟨a5, c5, m5, e28, h5⟩ : ∃ a c m, a'.tmps[28]?.getD undef = .slice a m c ∧ Hid (8 = 0 → m = (leaveL g.next id).length ∧ Ints y.on a c (leaveL g.next id) ∧ fresh w.heap.size y.on a) := hd 8 28 rfl rfl
     refine .inl ⟨rfl, ?_⟩
     clear hs hd hx
     go_simp
     exact ⟨Ext.refl _ _, a5, c5, m5, rfl, h5⟩
    ·intro a' w' hx hs hd
     obtain ⟨y, rfl⟩ := hx.ew
     have e29 : a'.tmps[29]?.getD undef = _ := hd 9 29 rfl rfl
     refine .inl ⟨rfl, ?_⟩
     clear hs hd hx
     go_simp
     exact ⟨Ext.refl _ _, rfl⟩
   case' q22 =>
    intro vs w' hx hRR
    obtain ⟨x2, rfl⟩ := hx.ew
    have q0 : vs 0 = _ := hRR 0 (by decide)
    have q1 : vs 1 = _ := hRR 1 (by decide)
    have q2 : vs 2 = _ := hRR 2 (by decide)
    have q3 : vs 3 = _ := hRR 3 (by decide)
    have q4 : vs 4 = _ := hRR 4 (by decide)
    have q5 : vs 5 = _ := hRR 5 (by decide)
    obtain ⟨a3, c3, m3, q6, h3⟩ : ∃ a c m, vs 6 = .tuple #[.slice a m c, .int .i64 8] ∧ Hid (8 = 0 → m = (leaveL g.next id).length ∧ Ints x2.on a c (leaveL g.next id) ∧ fresh w.heap.size x2.on a) := hRR 6 (by decide)
    obtain ⟨a4, c4, m4, q7, h4⟩ : ∃ a c m, vs 7 = .tuple #[.slice a m c, .int .i64 8] ∧ Hid (8 = 0 → m = (leaveL g.next id).length ∧ Ints x2.on a c (leaveL g.next id) ∧ fresh w.heap.size x2.on a) := hRR 7 (by decide)
    obtain ⟨a5, c5, m5, q8, h5⟩ : ∃ a c m, vs 8 = .slice a m c ∧ Hid (8 = 0 → m = (leaveL g.next id).length ∧ Ints x2.on a c (leaveL g.next id) ∧ fresh w.heap.size x2.on a) := hRR 8 (by decide)
    have q9 : vs 9 = _ := hRR 9 (by decide)
    obtain ⟨ka, kc, km, q10, kh⟩ : ∃ a c m, vs 10 = .slice a m c ∧ Hid (8 = 0 → m = (leaveL g.next id).length ∧ Ints x2.on a c (leaveL g.next id) ∧ fresh w.heap.size x2.on a) := hRR 10 (by decide)
    have q11 : vs 11 = _ := hRR 11 (by decide)
    clear hRR hx
    simp only [putAll, List.take_succ_cons, List.take_zero, List.drop_succ_cons, List.drop_zero, Act.put, List.setIfInBounds_toArray, List.set_cons_zero, List.set_cons_succ, Nat.reduceAdd, Nat.zero_add]
    simp only [q0, q1, q2, q3, q4, q5, q6, q7, q8, q9, q10, q11]
    clear q0 q1 q2 q3 q4 q5 q6 q7 q8 q9 q10 q11 vs
   clear h3 h4 h5 o0 o3
   have XZ : Ext Non w x2.on := exG0
   have BR1 := hI_ ((BR.out.extN x1.ext).extN x2.ext)
   have HZ := hI_ (HH.out.extN XZ)
   have HXZ := hI_ XZ
   have HQ := kh
   clear XZ
   generalize x2.on = w2 at *
   have u0 : w2.cell? ⟨w.heap.size + 1, 0, none⟩ = some (.int .i64 0) := BR1.out.cell rfl
   have u1 : w2.cell? ⟨w.heap.size + 1, 1, none⟩ = some (.float .f64 0) := BR1.out.cell rfl
   have f0 : w2.frozen? ⟨w.heap.size + 1, 0, none⟩ = false := froz_of_heap BR1.out.h
   have f1 : w2.frozen? ⟨w.heap.size + 1, 1, none⟩ = false := froz_of_heap BR1.out.h
   clear HQ q2 fz
   go_wp2
   obtain ⟨E1, E2, r0, r1⟩ := keyed_end (v0 := .int .i64 4) (v1 := .float .f64 0) BR1.out (by omega : w.heap.size ≤ w.heap.size + 1) HLT.out.1 HLT.out.2.1 HXZ.out.ofNon HZ.out
   generalize (w2.setCell ⟨w.heap.size + 1, 0, none⟩ (.int .i64 4)).setCell ⟨w.heap.size + 1, 1, none⟩ (.float .f64 0) = w6 at *
   refine bodyPost_ret (v := .agg #[.int .i64 4, .float .f64 0]) (by simp [results, Tryz.results61, go_sem, r0, r1]) rfl ?_
   exact ⟨by rw [HG.out.2], E1, by rw [HG.out.1]; exact E2⟩
  ·have HG : Hid (applyL g ⟨7, key, x, id⟩ = g ∧ applyR g ⟨7, key, x, id⟩ = ⟨5, 0⟩) := hI_ (by unfold applyL applyR moveL moveC; simp [he])
   have HE := hI_ he
   clear he I
   have BO := hI_ ((Bx.newAt w [.int .i64 7, .string key, .float .f64 x, .int .i64 id] 52 _ rfl).alloc (.cells #[.int .i64 0, .float .f64 0] 48))
   have BR := hI_ (Bx.newAt (w.alloc (.cells [Value.int .i64 7, .string key, .float .f64 x, .int .i64 id].toArray 52)) [.int .i64 0, .float .f64 0] 48 (w.heap.size + 1) (by simp))
   go_enter Tryz.func61, Tryz.ntmps61
   go_upto_region 1 with fail
   apply wp_region_rel (relR [Mo.is _, Mo.is _, Mo.is _, Mo.is _, Mo.is _, Mo.is _, moJ w.heap.size (joinL g.next id) e1, moJ w.heap.size (joinL g.next id) e1, moJs w.heap.size (joinL g.next id) e1, Mo.is _, moJs w.heap.size (joinL g.next id) e1, Mo.is _]) (by kernel_rfl) (by kernel_rfl) (by kernel_rfl) (relR_mono _) (StepD.all ?st23) ?q23
   case st23 =>
    refine ⟨?_, ?_, ?_, ?_, ?_, ?_, ?_, ?_, ?_, ?_, ?_, ?_, trivial⟩
    ·intro a' w' hx hs hd
     obtain ⟨y, rfl⟩ := hx.ew
     have e0 : a'.tmps[0]?.getD undef = _ := hs 0 rfl
     simp only [aL, aS, aZ] at e0
     refine .inl ⟨rfl, ?_⟩
     clear hs hd hx
     go_simp
     exact ⟨Ext.refl _ _, rfl⟩
    ·intro a' w' hx hs hd
     obtain ⟨y, rfl⟩ := hx.ew
     have e8 : a'.tmps[8]?.getD undef = _ := hd 0 8 rfl rfl
     refine .inl ⟨rfl, ?_⟩
     clear hs hd hx
     go_simp
     exact ⟨Ext.refl _ _, rfl⟩
    ·intro a' w' hx hs hd
     obtain ⟨y, rfl⟩ := hx.ew
     have e9 : a'.tmps[9]?.getD undef = _ := hd 1 9 rfl rfl
     refine .inl ⟨rfl, ?_⟩
     clear hs hd hx
     go_simp
     exact ⟨Ext.refl _ _, rfl⟩
    ·intro a' w' hx hs hd
     obtain ⟨y, rfl⟩ := hx.ew
     have e10 : a'.tmps[10]?.getD undef = _ := hd 2 10 rfl rfl
     refine .inl ⟨rfl, ?_⟩
     clear hs hd hx
     go_simp
     exact ⟨Ext.refl _ _, rfl⟩
    ·intro a' w' hx hs hd
     obtain ⟨y, rfl⟩ := hx.ew
     have e3 : a'.tmps[3]?.getD undef = _ := hs 3 rfl
     simp only [aL, aS, aZ] at e3
     refine .inl ⟨rfl, ?_⟩
     clear hs hd hx
     go_simp
     exact ⟨Ext.refl _ _, rfl⟩
    ·intro a' w' hx hs hd
     obtain ⟨y, rfl⟩ := hx.ew
     have e12 : a'.tmps[12]?.getD undef = _ := hd 4 12 rfl rfl
     refine .inl ⟨rfl, ?_⟩
     clear hs hd hx
     go_simp
     exact ⟨Ext.refl _ _, rfl⟩
    ·intro a' w' hx hs hd
     obtain ⟨y, rfl⟩ := hx.ew
     have e11 : a'.tmps[11]?.getD undef = _ := hd 3 11 rfl rfl
     have e13 : a'.tmps[13]?.getD undef = _ := hd 5 13 rfl rfl
     refine .inl ⟨rfl, ?_⟩
     clear hs hd hx
     go_simp
     exact (ref07_Join_any a2 c2 g.next id HM.out e1 HE1.out w.heap.size _ (by have h1 := (exG0 : Ext Non w y.on).size; omega) (I2.out.extN (exG0))).mono (fun e w'' ⟨a, c, m, he, hx, hr⟩ => ⟨_, he, hx, a, c, m, rfl, hI_ hr⟩)
    ·intro a' w' hx hs hd
     obtain ⟨y, rfl⟩ := hx.ew
     obtain ⟨a3, c3, m3, e14, h3⟩ : ∃ a c m, a'.tmps[14]?.getD undef = .tuple #[.slice a m c, .int .i64 e1] ∧ Hid (e1 = 0 → m = (joinL g.next id).length ∧ Ints y.on a c (joinL g.next id) ∧ fresh w.heap.size y.on a) := hd 6 14 rfl rfl
     refine .inl ⟨rfl, ?_⟩
     clear hs hd hx
     go_simp
     exact ⟨Ext.refl _ _, a3, c3, m3, rfl, h3⟩
    ·intro a' w' hx hs hd
     obtain ⟨y, rfl⟩ := hx.ew
     obtain ⟨a4, c4, m4, e7, h4⟩ : ∃ a c m, a'.tmps[7]?.getD undef = .tuple #[.slice a m c, .int .i64 e1] ∧ Hid (e1 = 0 → m = (joinL g.next id).length ∧ Ints y.on a c (joinL g.next id) ∧ fresh w.heap.size y.on a) := hd 7 7 rfl rfl
     refine .inl ⟨rfl, ?_⟩
     clear hs hd hx
     go_simp
     exact ⟨Ext.refl _ _, a4, c4, m4, rfl, h4⟩
    ·intro a' w' hx hs hd
     obtain ⟨y, rfl⟩ := hx.ew
     obtain ⟨a4, c4, m4, e7, h4⟩ : ∃ a c m, a'.tmps[7]?.getD undef = .tuple #[.slice a m c, .int .i64 e1] ∧ Hid (e1 = 0 → m = (joinL g.next id).length ∧ Ints y.on a c (joinL g.next id) ∧ fresh w.heap.size y.on a) := hd 7 7 rfl rfl
     refine .inl ⟨rfl, ?_⟩
     clear hs hd hx
     go_simp
     exact ⟨Ext.refl _ _, rfl⟩
    ·intro a' w' hx hs hd
     obtain ⟨y, rfl⟩ := hx.ew
     obtain ⟨a5, c5, m5, e15, h5⟩ : ∃ a c m, a'.tmps[15]?.getD undef = .slice a m c ∧ Hid (e1 = 0 → m = (joinL g.next id).length ∧ Ints y.on a c (joinL g.next id) ∧ fresh w.heap.size y.on a) := hd 8 15 rfl rfl
     refine .inl ⟨rfl, ?_⟩
     clear hs hd hx
     go_simp
     exact ⟨Ext.refl _ _, a5, c5, m5, rfl, h5⟩
    ·intro a' w' hx hs hd
     obtain ⟨y, rfl⟩ := hx.ew
     have e16 : a'.tmps[16]?.getD undef = _ := hd 9 16 rfl rfl
     refine .inl ⟨rfl, ?_⟩
     clear hs hd hx
     go_simp
     exact ⟨Ext.refl _ _, rfl⟩
   case' q23 =>
    intro vs w' hx hRR
    obtain ⟨x1, rfl⟩ := hx.ew
    have q0 : vs 0 = _ := hRR 0 (by decide)
    have q1 : vs 1 = _ := hRR 1 (by decide)
    have q2 : vs 2 = _ := hRR 2 (by decide)
    have q3 : vs 3 = _ := hRR 3 (by decide)
    have q4 : vs 4 = _ := hRR 4 (by decide)
    have q5 : vs 5 = _ := hRR 5 (by decide)
    obtain ⟨a3, c3, m3, q6, h3⟩ : ∃ a c m, vs 6 = .tuple #[.slice a m c, .int .i64 e1] ∧ Hid (e1 = 0 → m = (joinL g.next id).length ∧ Ints x1.on a c (joinL g.next id) ∧ fresh w.heap.size x1.on a) := hRR 6 (by decide)
    obtain ⟨a4, c4, m4, q7, h4⟩ : ∃ a c m, vs 7 = .tuple #[.slice a m c, .int .i64 e1] ∧ Hid (e1 = 0 → m = (joinL g.next id).length ∧ Ints x1.on a c (joinL g.next id) ∧ fresh w.heap.size x1.on a) := hRR 7 (by decide)
    obtain ⟨a5, c5, m5, q8, h5⟩ : ∃ a c m, vs 8 = .slice a m c ∧ Hid (e1 = 0 → m = (joinL g.next id).length ∧ Ints x1.on a c (joinL g.next id) ∧ fresh w.heap.size x1.on a) := hRR 8 (by decide)
    have q9 : vs 9 = _ := hRR 9 (by decide)
    obtain ⟨ja, jc, jm, q10, jh⟩ : ∃ a c m, vs 10 = .slice a m c ∧ Hid (e1 = 0 → m = (joinL g.next id).length ∧ Ints x1.on a c (joinL g.next id) ∧ fresh w.heap.size x1.on a) := hRR 10 (by decide)
    have q11 : vs 11 = _ := hRR 11 (by decide)
    clear hRR hx
    simp only [putAll, List.take_succ_cons, List.take_zero, List.drop_succ_cons, List.drop_zero, Act.put, List.setIfInBounds_toArray, List.set_cons_zero, List.set_cons_succ, Nat.reduceAdd, Nat.zero_add]
    simp only [q0, q1, q2, q3, q4, q5, q6, q7, q8, q9, q10, q11]
    clear q0 q1 q2 q3 q4 q5 q6 q7 q8 q9 q10 q11 vs
   clear h3 h4 h5
   clear jh
   have BO1 := hI_ (BO.out.extN x1.ext)
   have o0 : x1.on.cell? ⟨w.heap.size, 0, none⟩ = some (.int .i64 7) := BO1.out.cell rfl
   have o3 : x1.on.cell? ⟨w.heap.size, 3, none⟩ = some (.int .i64 id) := BO1.out.cell rfl
   go_upto_region 3 with fail
   apply wp_region_rel (relR [Mo.is _, Mo.is _, Mo.is _, Mo.is _, Mo.is _, Mo.is _, moJ w.heap.size (leaveL g.next id) 9, moJ w.heap.size (leaveL g.next id) 9, moJs w.heap.size (leaveL g.next id) 9, Mo.is _, moJs w.heap.size (leaveL g.next id) 9, Mo.is _]) (by kernel_rfl) (by kernel_rfl) (by kernel_rfl) (relR_mono _) (StepD.all ?st24) ?q24
   case st24 =>
    refine ⟨?_, ?_, ?_, ?_, ?_, ?_, ?_, ?_, ?_, ?_, ?_, ?_, trivial⟩
    ·intro a' w' hx hs hd
     obtain ⟨y, rfl⟩ := hx.ew
     have e0 : a'.tmps[0]?.getD undef = _ := hs 0 rfl
     simp only [aL, aS, aZ] at e0
     refine .inl ⟨rfl, ?_⟩
     clear hs hd hx
     go_simp
     exact ⟨Ext.refl _ _, rfl⟩
    ·intro a' w' hx hs hd
     obtain ⟨y, rfl⟩ := hx.ew
     have e21 : a'.tmps[21]?.getD undef = _ := hd 0 21 rfl rfl
     refine .inl ⟨rfl, ?_⟩
     clear hs hd hx
     go_simp
     exact ⟨Ext.refl _ _, rfl⟩
    ·intro a' w' hx hs hd
     obtain ⟨y, rfl⟩ := hx.ew
     have e22 : a'.tmps[22]?.getD undef = _ := hd 1 22 rfl rfl
     refine .inl ⟨rfl, ?_⟩
     clear hs hd hx
     go_simp
     exact ⟨Ext.refl _ _, rfl⟩
    ·intro a' w' hx hs hd
     obtain ⟨y, rfl⟩ := hx.ew
     have e23 : a'.tmps[23]?.getD undef = _ := hd 2 23 rfl rfl
     refine .inl ⟨rfl, ?_⟩
     clear hs hd hx
     go_simp
     exact ⟨Ext.refl _ _, rfl⟩
    ·intro a' w' hx hs hd
     obtain ⟨y, rfl⟩ := hx.ew
     have e3 : a'.tmps[3]?.getD undef = _ := hs 3 rfl
     simp only [aL, aS, aZ] at e3
     refine .inl ⟨rfl, ?_⟩
     clear hs hd hx
     go_simp
     exact ⟨Ext.refl _ _, rfl⟩
    ·intro a' w' hx hs hd
     obtain ⟨y, rfl⟩ := hx.ew
     have e25 : a'.tmps[25]?.getD undef = _ := hd 4 25 rfl rfl
     refine .inl ⟨rfl, ?_⟩
     clear hs hd hx
     go_simp
     exact ⟨Ext.refl _ _, rfl⟩
    ·intro a' w' hx hs hd
     obtain ⟨y, rfl⟩ := hx.ew
     have e24 : a'.tmps[24]?.getD undef = _ := hd 3 24 rfl rfl
     have e26 : a'.tmps[26]?.getD undef = _ := hd 5 26 rfl rfl
     refine .inl ⟨rfl, ?_⟩
     clear hs hd hx
     go_simp
     exact (ref07_Leave_any a2 c2 g.next id HM.out 9 HE.out w.heap.size _ (by have h1 := (exG0 : Ext Non w y.on).size; omega) (I2.out.extN (exG0))).mono (fun e w'' ⟨a, c, m, he, hx, hr⟩ => ⟨_, he, hx, a, c, m, rfl, hI_ hr⟩)
    ·intro a' w' hx hs hd
     obtain ⟨y, rfl⟩ := hx.ew
     obtain ⟨a3, c3, m3, e27, h3⟩ : ∃ a c m, a'.tmps[27]?.getD undef = .tuple #[.slice a m c, .int .i64 9] ∧ Hid (9 = 0 → m = (leaveL g.next id).length ∧ Ints y.on a c (leaveL g.next id) ∧ fresh w.heap.size y.on a) := hd 6 27 rfl rfl
     refine .inl ⟨rfl, ?_⟩
     clear hs hd hx
     go_simp
     exact ⟨Ext.refl _ _, a3, c3, m3, rfl, h3⟩
    ·intro a' w' hx hs hd
     obtain ⟨y, rfl⟩ := hx.ew
     obtain ⟨a4, c4, m4, e20, h4⟩ : ∃ a c m, a'.tmps[20]?.getD undef = .tuple #[.slice a m c, .int .i64 9] ∧ Hid (9 = 0 → m = (leaveL g.next id).length ∧ Ints y.on a c (leaveL g.next id) ∧ fresh w.heap.size y.on a) := hd 7 20 rfl rfl
     refine .inl ⟨rfl, ?_⟩
     clear hs hd hx
     go_simp
     exact ⟨Ext.refl _ _, a4, c4, m4, rfl, h4⟩
    ·intro a' w' hx hs hd
     obtain ⟨y, rfl⟩ := hx.ew
     obtain ⟨a4, c4, m4, e20, h4⟩ : ∃ a c m, a'.tmps[20]?.getD undef = .tuple #[.slice a m c, .int .i64 9] ∧ Hid (9 = 0 → m = (leaveL g.next id).length ∧ Ints y.on a c (leaveL g.next id) ∧ fresh w.heap.size y.on a) := hd 7 20 rfl rfl
     refine .inl ⟨rfl, ?_⟩
     clear hs hd hx
     go_simp
     exact ⟨Ext.refl _ _, rfl⟩
    ·intro a' w' hx hs hd
     obtain ⟨y, rfl⟩ := hx.ew
     obtain ⟨a5, c5, m5, e28, h5⟩ : ∃ a c m, a'.tmps[28]?.getD undef = .slice a m c ∧ Hid (9 = 0 → m = (leaveL g.next id).length ∧ Ints y.on a c (leaveL g.next id) ∧ fresh w.heap.size y.on a) := hd 8 28 rfl rfl
     refine .inl ⟨rfl, ?_⟩
     clear hs hd hx
     go_simp
     exact ⟨Ext.refl _ _, a5, c5, m5, rfl, h5⟩
    ·intro a' w' hx hs hd
     obtain ⟨y, rfl⟩ := hx.ew
     have e29 : a'.tmps[29]?.getD undef = _ := hd 9 29 rfl rfl
     refine .inl ⟨rfl, ?_⟩
     clear hs hd hx
     go_simp
     exact ⟨Ext.refl _ _, rfl⟩
   case' q24 =>
    intro vs w' hx hRR
    obtain ⟨x2, rfl⟩ := hx.ew
    have q0 : vs 0 = _ := hRR 0 (by decide)
    have q1 : vs 1 = _ := hRR 1 (by decide)
    have q2 : vs 2 = _ := hRR 2 (by decide)
    have q3 : vs 3 = _ := hRR 3 (by decide)
    have q4 : vs 4 = _ := hRR 4 (by decide)
    have q5 : vs 5 = _ := hRR 5 (by decide)
    obtain ⟨a3, c3, m3, q6, h3⟩ : ∃ a c m, vs 6 = .tuple #[.slice a m c, .int .i64 9] ∧ Hid (9 = 0 → m = (leaveL g.next id).length ∧ Ints x2.on a c (leaveL g.next id) ∧ fresh w.heap.size x2.on a) := hRR 6 (by decide)
    obtain ⟨a4, c4, m4, q7, h4⟩ : ∃ a c m, vs 7 = .tuple #[.slice a m c, .int .i64 9] ∧ Hid (9 = 0 → m = (leaveL g.next id).length ∧ Ints x2.on a c (leaveL g.next id) ∧ fresh w.heap.size x2.on a) := hRR 7 (by decide)
    obtain ⟨a5, c5, m5, q8, h5⟩ : ∃ a c m, vs 8 = .slice a m c ∧ Hid (9 = 0 → m = (leaveL g.next id).length ∧ Ints x2.on a c (leaveL g.next id) ∧ fresh w.heap.size x2.on a) := hRR 8 (by decide)
    have q9 : vs 9 = _ := hRR 9 (by decide)
    obtain ⟨ka, kc, km, q10, kh⟩ : ∃ a c m, vs 10 = .slice a m c ∧ Hid (9 = 0 → m = (leaveL g.next id).length ∧ Ints x2.on a c (leaveL g.next id) ∧ fresh w.heap.size x2.on a) := hRR 10 (by decide)
    have q11 : vs 11 = _ := hRR 11 (by decide)
    clear hRR hx
    simp only [putAll, List.take_succ_cons, List.take_zero, List.drop_succ_cons, List.drop_zero, Act.put, List.setIfInBounds_toArray, List.set_cons_zero, List.set_cons_succ, Nat.reduceAdd, Nat.zero_add]
    simp only [q0, q1, q2, q3, q4, q5, q6, q7, q8, q9, q10, q11]
    clear q0 q1 q2 q3 q4 q5 q6 q7 q8 q9 q10 q11 vs
   clear h3 h4 h5 o0 o3
   have XZ : Ext Non w x2.on := exG0
   have BR1 := hI_ ((BR.out.extN x1.ext).extN x2.ext)
   have HZ := hI_ (HH.out.extN XZ)
   have HXZ := hI_ XZ
   have HQ := kh
   clear XZ
   generalize x2.on = w2 at *
   have u0 : w2.cell? ⟨w.heap.size + 1, 0, none⟩ = some (.int .i64 0) := BR1.out.cell rfl
   have u1 : w2.cell? ⟨w.heap.size + 1, 1, none⟩ = some (.float .f64 0) := BR1.out.cell rfl
   have f0 : w2.frozen? ⟨w.heap.size + 1, 0, none⟩ = false := froz_of_heap BR1.out.h
   have f1 : w2.frozen? ⟨w.heap.size + 1, 1, none⟩ = false := froz_of_heap BR1.out.h
   clear HQ q2 fz
   go_wp2
   obtain ⟨E1, E2, r0, r1⟩ := keyed_end (v0 := .int .i64 5) (v1 := .float .f64 0) BR1.out (by omega : w.heap.size ≤ w.heap.size + 1) HLT.out.1 HLT.out.2.1 HXZ.out.ofNon HZ.out
   generalize (w2.setCell ⟨w.heap.size + 1, 0, none⟩ (.int .i64 5)).setCell ⟨w.heap.size + 1, 1, none⟩ (.float .f64 0) = w6 at *
   refine bodyPost_ret (v := .agg #[.int .i64 5, .float .f64 0]) (by simp [results, Tryz.results61, go_sem, r0, r1]) rfl ?_
   exact ⟨by rw [HG.out.2], E1, by rw [HG.out.1]; exact E2⟩
  ·have HG : Hid (applyL g ⟨7, key, x, id⟩ = setNext g (leaveL g.next id) ∧ applyR g ⟨7, key, x, id⟩ = ⟨0, 0⟩) := hI_ (by unfold applyL applyR moveL moveC; simp [he])
   have HE := hI_ he
   clear he I
   have BO := hI_ ((Bx.newAt w [.int .i64 7, .string key, .float .f64 x, .int .i64 id] 52 _ rfl).alloc (.cells #[.int .i64 0, .float .f64 0] 48))
   have BR := hI_ (Bx.newAt (w.alloc (.cells [Value.int .i64 7, .string key, .float .f64 x, .int .i64 id].toArray 52)) [.int .i64 0, .float .f64 0] 48 (w.heap.size + 1) (by simp))
   go_enter Tryz.func61, Tryz.ntmps61
   go_upto_region 1 with fail
   apply wp_region_rel (relR [Mo.is _, Mo.is _, Mo.is _, Mo.is _, Mo.is _, Mo.is _, moJ w.heap.size (joinL g.next id) e1, moJ w.heap.size (joinL g.next id) e1, moJs w.heap.size (joinL g.next id) e1, Mo.is _, moJs w.heap.size (joinL g.next id) e1, Mo.is _]) (by kernel_rfl) (by kernel_rfl) (by kernel_rfl) (relR_mono _) (StepD.all ?st25) ?q25
   case st25 =>
    refine ⟨?_, ?_, ?_, ?_, ?_, ?_, ?_, ?_, ?_, ?_, ?_, ?_, trivial⟩
    ·intro a' w' hx hs hd
     obtain ⟨y, rfl⟩ := hx.ew
     have e0 : a'.tmps[0]?.getD undef = _ := hs 0 rfl
     simp only [aL, aS, aZ] at e0
     refine .inl ⟨rfl, ?_⟩
     clear hs hd hx
     go_simp
     exact ⟨Ext.refl _ _, rfl⟩
    ·intro a' w' hx hs hd
     obtain ⟨y, rfl⟩ := hx.ew
     have e8 : a'.tmps[8]?.getD undef = _ := hd 0 8 rfl rfl
     refine .inl ⟨rfl, ?_⟩
     clear hs hd hx
     go_simp
     exact ⟨Ext.refl _ _, rfl⟩
    ·intro a' w' hx hs hd
     obtain ⟨y, rfl⟩ := hx.ew
     have e9 : a'.tmps[9]?.getD undef = _ := hd 1 9 rfl rfl
     refine .inl ⟨rfl, ?_⟩
     clear hs hd hx
     go_simp
     exact ⟨Ext.refl _ _, rfl⟩
    ·intro a' w' hx hs hd
     obtain ⟨y, rfl⟩ := hx.ew
     have e10 : a'.tmps[10]?.getD undef = _ := hd 2 10 rfl rfl
     refine .inl ⟨rfl, ?_⟩
     clear hs hd hx
     go_simp
     exact ⟨Ext.refl _ _, rfl⟩
    ·intro a' w' hx hs hd
     obtain ⟨y, rfl⟩ := hx.ew
     have e3 : a'.tmps[3]?.getD undef = _ := hs 3 rfl
     simp only [aL, aS, aZ] at e3
     refine .inl ⟨rfl, ?_⟩
     clear hs hd hx
     go_simp
     exact ⟨Ext.refl _ _, rfl⟩
    ·intro a' w' hx hs hd
     obtain ⟨y, rfl⟩ := hx.ew
     have e12 : a'.tmps[12]?.getD undef = _ := hd 4 12 rfl rfl
     refine .inl ⟨rfl, ?_⟩
     clear hs hd hx
     go_simp
     exact ⟨Ext.refl _ _, rfl⟩
    ·intro a' w' hx hs hd
     obtain ⟨y, rfl⟩ := hx.ew
     have e11 : a'.tmps[11]?.getD undef = _ := hd 3 11 rfl rfl
     have e13 : a'.tmps[13]?.getD undef = _ := hd 5 13 rfl rfl
     refine .inl ⟨rfl, ?_⟩
     clear hs hd hx
     go_simp
     exact (ref07_Join_any a2 c2 g.next id HM.out e1 HE1.out w.heap.size _ (by have h1 := (exG0 : Ext Non w y.on).size; omega) (I2.out.extN (exG0))).mono (fun e w'' ⟨a, c, m, he, hx, hr⟩ => ⟨_, he, hx, a, c, m, rfl, hI_ hr⟩)
    ·intro a' w' hx hs hd
     obtain ⟨y, rfl⟩ := hx.ew
     obtain ⟨a3, c3, m3, e14, h3⟩ : ∃ a c m, a'.tmps[14]?.getD undef = .tuple #[.slice a m c, .int .i64 e1] ∧ Hid (e1 = 0 → m = (joinL g.next id).length ∧ Ints y.on a c (joinL g.next id) ∧ fresh w.heap.size y.on a) := hd 6 14 rfl rfl
     refine .inl ⟨rfl, ?_⟩
     clear hs hd hx
     go_simp
     exact ⟨Ext.refl _ _, a3, c3, m3, rfl, h3⟩
    ·intro a' w' hx hs hd
     obtain ⟨y, rfl⟩ := hx.ew
     obtain ⟨a4, c4, m4, e7, h4⟩ : ∃ a c m, a'.tmps[7]?.getD undef = .tuple #[.slice a m c, .int .i64 e1] ∧ Hid (e1 = 0 → m = (joinL g.next id).length ∧ Ints y.on a c (joinL g.next id) ∧ fresh w.heap.size y.on a) := hd 7 7 rfl rfl
     refine .inl ⟨rfl, ?_⟩
     clear hs hd hx
     go_simp
     exact ⟨Ext.refl _ _, a4, c4, m4, rfl, h4⟩
    ·intro a' w' hx hs hd
     obtain ⟨y, rfl⟩ := hx.ew
     obtain ⟨a4, c4, m4, e7, h4⟩ : ∃ a c m, a'.tmps[7]?.getD undef = .tuple #[.slice a m c, .int .i64 e1] ∧ Hid (e1 = 0 → m = (joinL g.next id).length ∧ Ints y.on a c (joinL g.next id) ∧ fresh w.heap.size y.on a) := hd 7 7 rfl rfl
     refine .inl ⟨rfl, ?_⟩
     clear hs hd hx
     go_simp
     exact ⟨Ext.refl _ _, rfl⟩
    ·intro a' w' hx hs hd
     obtain ⟨y, rfl⟩ := hx.ew
     obtain ⟨a5, c5, m5, e15, h5⟩ : ∃ a c m, a'.tmps[15]?.getD undef = .slice a m c ∧ Hid (e1 = 0 → m = (joinL g.next id).length ∧ Ints y.on a c (joinL g.next id) ∧ fresh w.heap.size y.on a) := hd 8 15 rfl rfl
     refine .inl ⟨rfl, ?_⟩
     clear hs hd hx
     go_simp
     exact ⟨Ext.refl _ _, a5, c5, m5, rfl, h5⟩
    ·intro a' w' hx hs hd
     obtain ⟨y, rfl⟩ := hx.ew
     have e16 : a'.tmps[16]?.getD undef = _ := hd 9 16 rfl rfl
     refine .inl ⟨rfl, ?_⟩
     clear hs hd hx
     go_simp
     exact ⟨Ext.refl _ _, rfl⟩
   case' q25 =>
    intro vs w' hx hRR
    obtain ⟨x1, rfl⟩ := hx.ew
    have q0 : vs 0 = _ := hRR 0 (by decide)
    have q1 : vs 1 = _ := hRR 1 (by decide)
    have q2 : vs 2 = _ := hRR 2 (by decide)
    have q3 : vs 3 = _ := hRR 3 (by decide)
    have q4 : vs 4 = _ := hRR 4 (by decide)
    have q5 : vs 5 = _ := hRR 5 (by decide)
    obtain ⟨a3, c3, m3, q6, h3⟩ : ∃ a c m, vs 6 = .tuple #[.slice a m c, .int .i64 e1] ∧ Hid (e1 = 0 → m = (joinL g.next id).length ∧ Ints x1.on a c (joinL g.next id) ∧ fresh w.heap.size x1.on a) := hRR 6 (by decide)
    obtain ⟨a4, c4, m4, q7, h4⟩ : ∃ a c m, vs 7 = .tuple #[.slice a m c, .int .i64 e1] ∧ Hid (e1 = 0 → m = (joinL g.next id).length ∧ Ints x1.on a c (joinL g.next id) ∧ fresh w.heap.size x1.on a) := hRR 7 (by decide)
    obtain ⟨a5, c5, m5, q8, h5⟩ : ∃ a c m, vs 8 = .slice a m c ∧ Hid (e1 = 0 → m = (joinL g.next id).length ∧ Ints x1.on a c (joinL g.next id) ∧ fresh w.heap.size x1.on a) := hRR 8 (by decide)
    have q9 : vs 9 = _ := hRR 9 (by decide)
    obtain ⟨ja, jc, jm, q10, jh⟩ : ∃ a c m, vs 10 = .slice a m c ∧ Hid (e1 = 0 → m = (joinL g.next id).length ∧ Ints x1.on a c (joinL g.next id) ∧ fresh w.heap.size x1.on a) := hRR 10 (by decide)
    have q11 : vs 11 = _ := hRR 11 (by decide)
    clear hRR hx
    simp only [putAll, List.take_succ_cons, List.take_zero, List.drop_succ_cons, List.drop_zero, Act.put, List.setIfInBounds_toArray, List.set_cons_zero, List.set_cons_succ, Nat.reduceAdd, Nat.zero_add]
    simp only [q0, q1, q2, q3, q4, q5, q6, q7, q8, q9, q10, q11]
    clear q0 q1 q2 q3 q4 q5 q6 q7 q8 q9 q10 q11 vs
   clear h3 h4 h5
   clear jh
   have BO1 := hI_ (BO.out.extN x1.ext)
   have o0 : x1.on.cell? ⟨w.heap.size, 0, none⟩ = some (.int .i64 7) := BO1.out.cell rfl
   have o3 : x1.on.cell? ⟨w.heap.size, 3, none⟩ = some (.int .i64 id) := BO1.out.cell rfl
   go_upto_region 3 with fail
   apply wp_region_rel (relR [Mo.is _, Mo.is _, Mo.is _, Mo.is _, Mo.is _, Mo.is _, moJ w.heap.size (leaveL g.next id) 0, moJ w.heap.size (leaveL g.next id) 0, moJs w.heap.size (leaveL g.next id) 0, Mo.is _, moJs w.heap.size (leaveL g.next id) 0, Mo.is _]) (by kernel_rfl) (by kernel_rfl) (by kernel_rfl) (relR_mono _) (StepD.all ?st26) ?q26
   case st26 =>
    refine ⟨?_, ?_, ?_, ?_, ?_, ?_, ?_, ?_, ?_, ?_, ?_, ?_, trivial⟩
    ·intro a' w' hx hs hd
     obtain ⟨y, rfl⟩ := hx.ew
     have e0 : a'.tmps[0]?.getD undef = _ := hs 0 rfl
     simp only [aL, aS, aZ] at e0
     refine .inl ⟨rfl, ?_⟩
     clear hs hd hx
     go_simp
     exact ⟨Ext.refl _ _, rfl⟩
    ·intro a' w' hx hs hd
     obtain ⟨y, rfl⟩ := hx.ew
     have e21 : a'.tmps[21]?.getD undef = _ := hd 0 21 rfl rfl
     refine .inl ⟨rfl, ?_⟩
     clear hs hd hx
     go_simp
     exact ⟨Ext.refl _ _, rfl⟩
    ·intro a' w' hx hs hd
     obtain ⟨y, rfl⟩ := hx.ew
     have e22 : a'.tmps[22]?.getD undef = _ := hd 1 22 rfl rfl
     refine .inl ⟨rfl, ?_⟩
     clear hs hd hx
     go_simp
     exact ⟨Ext.refl _ _, rfl⟩
    ·intro a' w' hx hs hd
     obtain ⟨y, rfl⟩ := hx.ew
     have e23 : a'.tmps[23]?.getD undef = _ := hd 2 23 rfl rfl
     refine .inl ⟨rfl, ?_⟩
     clear hs hd hx
     go_simp
     exact ⟨Ext.refl _ _, rfl⟩
    ·intro a' w' hx hs hd
     obtain ⟨y, rfl⟩ := hx.ew
     have e3 : a'.tmps[3]?.getD undef = _ := hs 3 rfl
     simp only [aL, aS, aZ] at e3
     refine .inl ⟨rfl, ?_⟩
     clear hs hd hx
     go_simp
     exact ⟨Ext.refl _ _, rfl⟩
    ·intro a' w' hx hs hd
     obtain ⟨y, rfl⟩ := hx.ew
     have e25 : a'.tmps[25]?.getD undef = _ := hd 4 25 rfl rfl
     refine .inl ⟨rfl, ?_⟩
     clear hs hd hx
     go_simp
     exact ⟨Ext.refl _ _, rfl⟩
    ·intro a' w' hx hs hd
     obtain ⟨y, rfl⟩ := hx.ew
     have e24 : a'.tmps[24]?.getD undef = _ := hd 3 24 rfl rfl
     have e26 : a'.tmps[26]?.getD undef = _ := hd 5 26 rfl rfl
     refine .inl ⟨rfl, ?_⟩
     clear hs hd hx
     go_simp
     exact (ref07_Leave_any a2 c2 g.next id HM.out 0 HE.out w.heap.size _ (by have h1 := (exG0 : Ext Non w y.on).size; omega) (I2.out.extN (exG0))).mono (fun e w'' ⟨a, c, m, he, hx, hr⟩ => ⟨_, he, hx, a, c, m, rfl, hI_ hr⟩)
    ·intro a' w' hx hs hd
     obtain ⟨y, rfl⟩ := hx.ew
     obtain ⟨a3, c3, m3, e27, h3⟩ : ∃ a c m, a'.tmps[27]?.getD undef = .tuple #[.slice a m c, .int .i64 0] ∧ Hid (0 = 0 → m = (leaveL g.next id).length ∧ Ints y.on a c (leaveL g.next id) ∧ fresh w.heap.size y.on a) := hd 6 27 rfl rfl
     refine .inl ⟨rfl, ?_⟩
     clear hs hd hx
     go_simp
     exact ⟨Ext.refl _ _, a3, c3, m3, rfl, h3⟩
    ·intro a' w' hx hs hd
     obtain ⟨y, rfl⟩ := hx.ew
     obtain ⟨a4, c4, m4, e20, h4⟩ : ∃ a c m, a'.tmps[20]?.getD undef = .tuple #[.slice a m c, .int .i64 0] ∧ Hid (0 = 0 → m = (leaveL g.next id).length ∧ Ints y.on a c (leaveL g.next id) ∧ fresh w.heap.size y.on a) := hd 7 20 rfl rfl
     refine .inl ⟨rfl, ?_⟩
     clear hs hd hx
     go_simp
     exact ⟨Ext.refl _ _, a4, c4, m4, rfl, h4⟩
    ·intro a' w' hx hs hd
     obtain ⟨y, rfl⟩ := hx.ew
     obtain ⟨a4, c4, m4, e20, h4⟩ : ∃ a c m, a'.tmps[20]?.getD undef = .tuple #[.slice a m c, .int .i64 0] ∧ Hid (0 = 0 → m = (leaveL g.next id).length ∧ Ints y.on a c (leaveL g.next id) ∧ fresh w.heap.size y.on a) := hd 7 20 rfl rfl
     refine .inl ⟨rfl, ?_⟩
     clear hs hd hx
     go_simp
     exact ⟨Ext.refl _ _, rfl⟩
    ·intro a' w' hx hs hd
     obtain ⟨y, rfl⟩ := hx.ew
     obtain ⟨a5, c5, m5, e28, h5⟩ : ∃ a c m, a'.tmps[28]?.getD undef = .slice a m c ∧ Hid (0 = 0 → m = (leaveL g.next id).length ∧ Ints y.on a c (leaveL g.next id) ∧ fresh w.heap.size y.on a) := hd 8 28 rfl rfl
     refine .inl ⟨rfl, ?_⟩
     clear hs hd hx
     go_simp
     exact ⟨Ext.refl _ _, a5, c5, m5, rfl, h5⟩
    ·intro a' w' hx hs hd
     obtain ⟨y, rfl⟩ := hx.ew
     have e29 : a'.tmps[29]?.getD undef = _ := hd 9 29 rfl rfl
     refine .inl ⟨rfl, ?_⟩
     clear hs hd hx
     go_simp
     exact ⟨Ext.refl _ _, rfl⟩
   case' q26 =>
    intro vs w' hx hRR
    obtain ⟨x2, rfl⟩ := hx.ew
    have q0 : vs 0 = _ := hRR 0 (by decide)
    have q1 : vs 1 = _ := hRR 1 (by decide)
    have q2 : vs 2 = _ := hRR 2 (by decide)
    have q3 : vs 3 = _ := hRR 3 (by decide)
    have q4 : vs 4 = _ := hRR 4 (by decide)
    have q5 : vs 5 = _ := hRR 5 (by decide)
    obtain ⟨a3, c3, m3, q6, h3⟩ : ∃ a c m, vs 6 = .tuple #[.slice a m c, .int .i64 0] ∧ Hid (0 = 0 → m = (leaveL g.next id).length ∧ Ints x2.on a c (leaveL g.next id) ∧ fresh w.heap.size x2.on a) := hRR 6 (by decide)
    obtain ⟨a4, c4, m4, q7, h4⟩ : ∃ a c m, vs 7 = .tuple #[.slice a m c, .int .i64 0] ∧ Hid (0 = 0 → m = (leaveL g.next id).length ∧ Ints x2.on a c (leaveL g.next id) ∧ fresh w.heap.size x2.on a) := hRR 7 (by decide)
    obtain ⟨a5, c5, m5, q8, h5⟩ : ∃ a c m, vs 8 = .slice a m c ∧ Hid (0 = 0 → m = (leaveL g.next id).length ∧ Ints x2.on a c (leaveL g.next id) ∧ fresh w.heap.size x2.on a) := hRR 8 (by decide)
    have q9 : vs 9 = _ := hRR 9 (by decide)
    obtain ⟨ka, kc, km, q10, kh⟩ : ∃ a c m, vs 10 = .slice a m c ∧ Hid (0 = 0 → m = (leaveL g.next id).length ∧ Ints x2.on a c (leaveL g.next id) ∧ fresh w.heap.size x2.on a) := hRR 10 (by decide)
    have q11 : vs 11 = _ := hRR 11 (by decide)
    clear hRR hx
    simp only [putAll, List.take_succ_cons, List.take_zero, List.drop_succ_cons, List.drop_zero, Act.put, List.setIfInBounds_toArray, List.set_cons_zero, List.set_cons_succ, Nat.reduceAdd, Nat.zero_add]
    simp only [q0, q1, q2, q3, q4, q5, q6, q7, q8, q9, q10, q11]
    clear q0 q1 q2 q3 q4 q5 q6 q7 q8 q9 q10 q11 vs
   clear h3 h4 h5 o0 o3
   have XZ : Ext Non w x2.on := exG0
   have BR1 := hI_ ((BR.out.extN x1.ext).extN x2.ext)
   have HZ := hI_ (HH.out.extN XZ)
   have HXZ := hI_ XZ
   have HQ := kh
   clear XZ
   generalize x2.on = w2 at *
   have u0 : w2.cell? ⟨w.heap.size + 1, 0, none⟩ = some (.int .i64 0) := BR1.out.cell rfl
   have u1 : w2.cell? ⟨w.heap.size + 1, 1, none⟩ = some (.float .f64 0) := BR1.out.cell rfl
   have f0 : w2.frozen? ⟨w.heap.size + 1, 0, none⟩ = false := froz_of_heap BR1.out.h
   have f1 : w2.frozen? ⟨w.heap.size + 1, 1, none⟩ = false := froz_of_heap BR1.out.h
   have q2' : w2.cell? ⟨b, 2, none⟩ = some (.slice a2 g.next.length c2) := (HB.out.extN HXZ.out).cell rfl
   have fz' : w2.frozen? ⟨b, 2, none⟩ = false := froz_of_heap (HB.out.extN HXZ.out).h
   clear q2 fz
   obtain ⟨hmm, hI5, hF5⟩ := HQ.out rfl
   subst hmm
   have HI5 := hI_ hI5; have HF5 := hI_ hF5
   clear hI5 hF5 HQ
   have X3 : Ext (One b) w2 (w2.setCell ⟨b, 2, none⟩ (.slice ka (leaveL g.next id).length kc)) := (Ext.refl _ _).set1 _
   have HR3 : Hid (RL (w2.setCell ⟨b, 2, none⟩ (.slice ka (leaveL g.next id).length kc)) b sb rb (setNext g (leaveL g.next id))) := hI_ (by
    have hb2 := HB.out.extN HXZ.out
    exact HZ.out.upd X3 (g' := setNext g (leaveL g.next id)) (hb2.set (j := 2) (.slice ka (leaveL g.next id).length kc)) (I1.out.extN HXZ.out) HI5.out (T1.out.extN HXZ.out) (HF5.out.av HLT.out.2.2) (ownR_ext (ownR_extN HV.out HXZ.out) X3 (row_not (ownR_extN HV.out HXZ.out) hb2 (by decide))) rfl HH.out.nd)
   have BR3 := hI_ (BR1.out.ext X3 (fun q => by have := HLT.out.1; have : w.heap.size + 1 = b := q; omega))
   have HX3 := hI_ (HXZ.out.ofNon.trans X3)
   clear X3
   go_upto_region 14 with fail
   clear q2' fz' u0 u1 f0 f1
   generalize w2.setCell ⟨b, 2, none⟩ (.slice ka (leaveL g.next id).length kc) = w3 at *
   have u0 : w3.cell? ⟨w.heap.size + 1, 0, none⟩ = some (.int .i64 0) := BR3.out.cell rfl
   have u1 : w3.cell? ⟨w.heap.size + 1, 1, none⟩ = some (.float .f64 0) := BR3.out.cell rfl
   have f0 : w3.frozen? ⟨w.heap.size + 1, 0, none⟩ = false := froz_of_heap BR3.out.h
   have f1 : w3.frozen? ⟨w.heap.size + 1, 1, none⟩ = false := froz_of_heap BR3.out.h
   go_wp2
   obtain ⟨E1, E2, r0, r1⟩ := keyed_end (v0 := .int .i64 0) (v1 := .float .f64 0) BR3.out (by omega : w.heap.size ≤ w.heap.size + 1) HLT.out.1 HLT.out.2.1 HX3.out HR3.out
   generalize (w3.setCell ⟨w.heap.size + 1, 0, none⟩ (.int .i64 0)).setCell ⟨w.heap.size + 1, 1, none⟩ (.float .f64 0) = w6 at *
   refine bodyPost_ret (v := .agg #[.int .i64 0, .float .f64 0]) (by simp [results, Tryz.results61, go_sem, r0, r1]) rfl ?_
   exact ⟨by rw [HG.out.2], E1, by rw [HG.out.1]; exact E2⟩
end Go.Proofs.YtfefeepljbfcdaaGreat
