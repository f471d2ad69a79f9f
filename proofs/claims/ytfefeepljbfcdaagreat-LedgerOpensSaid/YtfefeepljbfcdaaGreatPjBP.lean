/- Joined texts: ScanD, ResG, OpenL. What each proves stands at its head; no conditions beside those in its theorems. -/
import Derived.Deep.MidRow
import Derived.Deep.WholeRow
import Derived.Shelf.SlMaps.Clone
import Derived.Test.YtfefeepljbfcdaaGreatPjBO
/- Layer 1 (pack): Scan of the shape "bq", of a text that ends too early. -/
namespace Go.Proofs.YtfefeepljbfcdaaGreat
open Go.RowKit Go.Lib F64
set_option linter.unusedSimpArgs false
set_option linter.unusedVariables false
attribute [local go_sem] run_store_float
attribute [local go_sem low] EW.cellN EW.frozN alloc_cell_or alloc_froz_or EW.cellF EW.frozF EW.cell1 EW.froz1
attribute [local go_sem] relAt relUpon relAtT relUponT
attribute [local go_sem low] EW.cellO EW.frozO
set_option maxHeartbeats 2000000 in
set_option maxRecDepth 100000 in
theorem scan_bad (t : List UInt8) (hs : t.length ≤ 4611686018427387904) (hnb : (xR2 t).bad = true) (w : World) : Calls Tryz.prog 120 #[.string ⟨#[98, 113]⟩, .string (sB t)] w fun e w' =>
  e = .returned (.tuple #[.slice none 0 0, .int .i64 2]) ∧ Ext Non w w' := by
 have hmf : ∀ (fn : Fn) (first cap : Array Value) (w : World), (Instr.makeFunc fn first cap).run Tryz.prog w = .ok (.func fn first cap) w := fun _ _ _ _ => rfl
 have HS := hI_ hs
 clear hs
 obtain ⟨n, hn⟩ : ∃ n : Nat, n = numV 1 ⟨t, false⟩ := ⟨_, rfl⟩
 obtain ⟨x, hx⟩ : ∃ x : Nat, x = numV 8 (numR 1 ⟨t, false⟩) := ⟨_, rfl⟩
 obtain ⟨r1, hr1⟩ : ∃ r, r = numR 1 ⟨t, false⟩ := ⟨_, rfl⟩
 obtain ⟨r2, hr2⟩ : ∃ r, r = numR 8 (numR 1 ⟨t, false⟩) := ⟨_, rfl⟩
 have CB : Hid (∀ rb w', RdG w' rb ⟨t, false⟩ → Calls Tryz.prog 137 #[.pointer (some ⟨rb, 0, none⟩), .int .u8 98] w' fun e w'' => (r1.bad = false → e = .returned (.agg #[.int .i64 (n : Int), .int .u64 0, .string ⟨#[]⟩])) ∧ (r1.bad = true → e = .panicked [{ v := stopV, recovered := false }]) ∧ Ext (One rb) w' w'' ∧ RdG w'' rb r1) := hI_ (fun rb w' h => by rw [hr1, hn]; exact value_b rb _ w' h)
 have CQ : Hid (∀ rb w', RdG w' rb r1 → Calls Tryz.prog 137 #[.pointer (some ⟨rb, 0, none⟩), .int .u8 113] w' fun e w'' => (r2.bad = false → e = .returned (.agg #[.int .i64 0, .int .u64 (x : Int), .string ⟨#[]⟩])) ∧ (r2.bad = true → e = .panicked [{ v := stopV, recovered := false }]) ∧ Ext (One rb) w' w'' ∧ RdG w'' rb r2) := hI_ (fun rb w' h => by rw [hr2, hx, ← hr1]; exact value_q rb _ w' h)
 have NBE : Hid (r2.bad = true) := hI_ (by rw [hr2]; exact hnb)
 clear hn hx hr1 hr2 hnb
 generalize htt : sB t = tt
 have HTT := hI_ htt
 clear htt
 go_enter_defers Tryz.func120, Tryz.ntmps120
 go_upto_region 2 with fail
 have B4 := hI_ ((Bx.newAt w [.slice none 0 0] 152 _ rfl).alloc (.cells #[.int .i64 0] 28))
 have B5 := hI_ (Bx.newAt (w.alloc (.cells #[.slice none 0 0] 152)) [.int .i64 0] 28 (w.heap.size + 1) (by simp))
 have XA := hI_ (((Ext.refl Non w).alloc (.cells #[.slice none 0 0] 152)).alloc (.cells #[.int .i64 0] 28))
 generalize (w.alloc (.cells #[.slice none 0 0] 152)).alloc (.cells #[.int .i64 0] 28) = w1 at *
 obtain ⟨c1, w2, hcv, hx, hby⟩ := bytes_run w1 bqS
 replace hcv : (convert 9 120 (.string ⟨#[98, 113]⟩)).run Tryz.prog w1 = .ok (.slice (some ⟨w1.heap.size, 0, none⟩) 2 c1) w2 := hcv
 have k0 : w2.cell? ⟨w1.heap.size, 0, none⟩ = some (.int .u8 98) := hby.2 0 (by decide)
 have k1 : w2.cell? ⟨w1.heap.size, 1, none⟩ = some (.int .u8 113) := hby.2 1 (by decide)
 have C4 := hI_ (B4.out.extN hx); have C5 := hI_ (B5.out.extN hx); have XB := hI_ (XA.out.trans hx)
 clear hby hx B4 B5 XA
 go_wp2_with fail
 refine wp_loop_rounds 3 ?_
 rw [rounds_succ]
 go_wp2_with fail
 refine (letter_ok 98 (.inl rfl) _).mono ?_
 rintro e _ ⟨rfl, rfl⟩
 go_wp2_with fail
 rw [rounds_succ]
 go_wp2_with fail
 refine (letter_ok 113 (.inr rfl) _).mono ?_
 rintro e _ ⟨rfl, rfl⟩
 go_wp2_with fail
 rw [rounds_succ]
 go_wp2_with fail
 have KR : Hid (∀ w, Calls Tryz.prog 34 #[.string tt] w fun e w' => ∃ b, e = .returned (.pointer (some ⟨b, 0, none⟩)) ∧ Ext Non w w' ∧ RdG w' b ⟨t, false⟩ ∧ w.heap.size ≤ b) := hI_ (fun w => by rw [← HTT.out]; exact rdg_Read t HS.out w)
 refine (KR.out w2).mono ?_
 rintro e w3 ⟨rb, rfl, hx, hR, hrb⟩
 clear hcv k0 k1
 have hb2 : w.heap.size + 1 < w2.heap.size := C5.out.lt
 obtain ⟨c2, w4, hcv, hx2, hby⟩ := bytes_run w3 bqS
 replace hcv : (convert 9 120 (.string ⟨#[98, 113]⟩)).run Tryz.prog w3 = .ok (.slice (some ⟨w3.heap.size, 0, none⟩) 2 c2) w4 := hcv
 have hbl := hR.lt
 obtain ⟨kk, hkk⟩ : ∃ kk, kk = w3.heap.size := ⟨_, rfl⟩
 rw [← hkk] at hcv hby hbl
 have hkl : kk < w4.heap.size := hby.1
 have HBY := hI_ hby
 have D4 := hI_ (C4.out.extN (hx.trans hx2)); have D5 := hI_ (C5.out.extN (hx.trans hx2)); have XC := hI_ (XB.out.trans (hx.trans hx2)); have R4 := hI_ (hR.extN hx2)
 have HKK := hI_ hkk
 clear hx hx2 hby hR C4 C5 XB hkk
 go_wp2_with fail
 clear hcv
 have nb : w.heap.size ≠ rb ∧ w.heap.size + 1 ≠ rb ∧ kk ≠ rb ∧ w.heap.size ≠ kk ∧ w.heap.size + 1 ≠ kk ∧ rb < w4.heap.size := by omega
 have NB := hI_ nb
 have HRB : Hid (w.heap.size + 1 < rb ∧ w.heap.size ≤ w4.heap.size) := hI_ (by omega)
 clear nb hb2 hrb hbl
 obtain ⟨B', hB'⟩ : ∃ B', B' = w4.heap.size := ⟨_, rfl⟩
 have k0 : w4.cell? ⟨kk, 0, none⟩ = some (.int .u8 98) := HBY.out.2 0 (by decide)
 refine wp_loop_rounds 3 ?_
 rw [rounds_succ]
 go_upto_region 12 with fail
 have d4 : w4.cell? ⟨w.heap.size, 0, none⟩ = some (.slice none 0 0) := D4.out.cell rfl
 by_cases hb1 : r1.bad = true
 ·have CB1 : Hid (∀ w', RdG w' rb ⟨t, false⟩ → Calls Tryz.prog 137 #[.pointer (some ⟨rb, 0, none⟩), .int .u8 98] w' fun e w'' => e = .panicked [{ v := stopV, recovered := false }] ∧ Ext (One rb) w' w'' ∧ RdG w'' rb r1) := hI_ (fun w' h => (CB.out rb w' h).mono fun e w'' ⟨_, h1, h3, h4⟩ => ⟨h1 hb1, h3, h4⟩)
  apply wp_region_die 3 (R := relR [Mo.is _, Mo.is _, Mo.is _]) _ rfl (by kernel_rfl) (by kernel_rfl) (by kernel_rfl) (by kernel_rfl) (by kernel_rfl) (relR_mono _) (StepD.all ?st) ?die
  case st =>
   refine ⟨?_, ?_, ?_, trivial⟩
   ·intro a' w' hx hs hd
    obtain ⟨y, rfl⟩ := hx.ew
    have e4 : a'.tmps[4]?.getD undef = _ := hs 4 rfl
    simp only [aL, aS, aZ] at e4
    refine .inl ⟨rfl, ?_⟩
    clear hs hd hx
    go_simp
    exact ⟨Ext.refl _ _, rfl⟩
   ·intro a' w' hx hs hd
    obtain ⟨y, rfl⟩ := hx.ew
    have e4 : a'.tmps[8]?.getD undef = _ := hs 8 rfl
    simp only [aL, aS, aZ] at e4
    refine .inl ⟨rfl, ?_⟩
    clear hs hd hx
    go_simp
    exact ⟨Ext.refl _ _, rfl⟩
   ·intro a' w' hx hs hd
    obtain ⟨y, rfl⟩ := hx.ew
    have e4 : a'.tmps[10]?.getD undef = _ := hs 10 rfl
    simp only [aL, aS, aZ] at e4
    refine .inl ⟨rfl, ?_⟩
    clear hs hd hx
    go_simp
    exact ⟨Ext.refl _ _, rfl⟩
  case die =>
   intro a' w' hx hdf hs hd
   obtain ⟨y, rfl⟩ := hx.ew
   have e34 : a'.tmps[34]?.getD undef = _ := hd 1 34 rfl rfl
   have e35 : a'.tmps[35]?.getD undef = _ := hd 2 35 rfl rfl
   refine ⟨rfl, 137, #[.pointer (some ⟨rb, 0, none⟩), .int .u8 98], ?_, ?_⟩
   ·go_simp
   refine (CB1.out _ (R4.out.extN y.ext)).mono ?_
   rintro e w9 ⟨rfl, x9, h9⟩
   refine ⟨_, rfl, ?_⟩
   go_simp
   dsimp (zetaDelta := true) only [Exit.inBlock, Exit.then, bodyPostD]
   rw [hdf]
   have t4 : a'.tmps[4]?.getD undef = _ := hs 4 rfl
   have t5 : a'.tmps[5]?.getD undef = _ := hs 5 rfl
   simp only [aL, aS, aZ] at t4 t5
   have t4' : a'.tmps.getD 4 undef = Value.pointer (some ⟨w.heap.size, 0, none⟩) := by rw [Array.getD_eq_getD_getElem?]; exact t4
   have t5' : a'.tmps.getD 5 undef = Value.pointer (some ⟨w.heap.size + 1, 0, none⟩) := by rw [Array.getD_eq_getD_getElem?]; exact t5
   clear hd hs hdf
   have G4 := (D4.out.extN y.ext).ext x9 (fun q => NB.out.1 q)
   have G5 := (D5.out.extN y.ext).ext x9 (fun q => NB.out.2.1 q)
   have XG := (XC.out.trans y.ext).step x9 (fun j hj q => by have q : j = rb := q; have := HRB.out; omega)
   have q4 := G4.cell (j := 0) rfl
   have f4 : w9.frozen? ⟨w.heap.size, 0, none⟩ = false := froz_of_heap G4.h
   have q5 := G5.cell (j := 0) rfl
   have f5 : w9.frozen? ⟨w.heap.size + 1, 0, none⟩ = false := froz_of_heap G5.h
   have Y1 : Ext (One w.heap.size) w9 (w9.setCell ⟨w.heap.size, 0, none⟩ (.slice none 0 0)) := (Ext.refl _ _).set1 _
   have A4 := G4.set (j := 0) (.slice none 0 0)
   have A5 := G5.ext Y1 (fun q => by have q : w.heap.size + 1 = w.heap.size := q; omega)
   have Y2 : Ext (One (w.heap.size + 1)) (w9.setCell ⟨w.heap.size, 0, none⟩ (.slice none 0 0)) ((w9.setCell ⟨w.heap.size, 0, none⟩ (.slice none 0 0)).setCell ⟨w.heap.size + 1, 0, none⟩ (.int .i64 2)) := (Ext.refl _ _).set1 _
   have y4 := (A4.ext Y2 (fun q => by have q : w.heap.size = w.heap.size + 1 := q; omega)).cell (j := 0) rfl
   have y5 := (A5.set (j := 0) (.int .i64 2)).cell (j := 0) rfl
   have XF : Ext Non w ((w9.setCell ⟨w.heap.size, 0, none⟩ (.slice none 0 0)).setCell ⟨w.heap.size + 1, 0, none⟩ (.int .i64 2)) := (XG.setCell (.inr (Nat.le_refl _)) _).setCell (.inr (Nat.le_succ _)) _
   dsimp only
   refine leaves_cons (f := 135) (args := #[.pointer (some ⟨w.heap.size, 0, none⟩), .pointer (some ⟨w.heap.size + 1, 0, none⟩)]) (by simp) (by simp [go_sem]) ?_
   refine (scan_catch w.heap.size (w.heap.size + 1) (by omega) _ _ w9 q4 f4 q5 f5 []).mono ?_
   rintro e u' w'' ⟨rfl, rfl, rfl⟩
   generalize (w9.setCell ⟨w.heap.size, 0, none⟩ (.slice none 0 0)).setCell ⟨w.heap.size + 1, 0, none⟩ (.int .i64 2) = w14 at *
   simp [Leaves, settle, results, Tryz.results120, go_sem, t4', t5', t4, t5, y4, y5]
   exact XF
 ·have hb1 : r1.bad = false := by simpa using hb1
  have CB1 : Hid (∀ w', RdG w' rb ⟨t, false⟩ → Calls Tryz.prog 137 #[.pointer (some ⟨rb, 0, none⟩), .int .u8 98] w' fun e w'' => e = .returned (.agg #[.int .i64 (n : Int), .int .u64 0, .string ⟨#[]⟩]) ∧ Ext (One rb) w' w'' ∧ RdG w'' rb r1) := hI_ (fun w' h => (CB.out rb w' h).mono fun e w'' ⟨h1, _, h3, h4⟩ => ⟨h1 hb1, h3, h4⟩)
  have hr1' : ∀ k, One rb k → k < w4.heap.size := fun k q => by have q : k = rb := q; have := NB.out; omega
  have hr2' : ∀ k, Row (.slice none 0 0) k → k < w4.heap.size := fun k q => by cases q
  have hr3' : ∀ k, One rb k → ¬ Row (.slice none 0 0) k := fun k _ r => by cases r
  have HR1 := hI_ hr1'; have HR2 := hI_ hr2'; have HR3 := hI_ hr3'
  clear hr1' hr2' hr3'
  have ROW0 := hI_ (World.ownsRow_nil w4 B' 156 3)
  have n1 : One rb w.heap.size = False := by have := NB.out.1; unfold One; simp; omega
  have n2 : Row (.slice none 0 0) w.heap.size = False := by simp [Row, Value.ownBlock]
  have hbw : B' ≤ w4.heap.size := by omega
  have HB' := hI_ hB'
  clear hB'
  apply wp_region_wr 6 [Mo.is _, Mo.is _, Mo.is _, moSt (.agg #[.int .i64 (n : Int), .int .u64 0, .string ⟨#[]⟩]) (fun w' => RdG w' rb r1) (fun _ _ x h => RdG.extN h x), moOne w4.heap.size [.int .i64 (n : Int), .int .u64 0, .string ⟨#[]⟩] 156, moRow (.slice none 0 0) w4.heap.size B' 156 3 1 [.int .i64 (n : Int), .int .u64 0, .string ⟨#[]⟩]] (One rb) 3 (fun w' => RdG w' rb ⟨t, false⟩) (Row (.slice none 0 0)) 5 (fun w' => w'.ownsRow B' 156 3 (.slice none 0 0) 0 []) (by kernel_rfl) (by kernel_rfl) (by kernel_rfl) (by kernel_rfl) (by kernel_rfl) (by decide) (by kernel_rfl) (by decide) ?ta1 ?tb1 ?ha1 ?hb1 ?hc1 ?hd1 ?ma1 ?mb1 ?st1 ?q1
  case ta1 => exact R4.out
  case tb1 => exact ROW0.out
  case ha1 => exact fun _ _ x h => RdG.extN h x
  case hb1 => exact fun _ _ x h => RdG.ext h x (fun q => by cases q)
  case hc1 => exact fun _ _ x h => ownR_extN h x
  case hd1 => exact fun _ _ x h => ownR_ext h x (fun k hk hs => by cases hk)
  case st1 =>
   refine ⟨?_, ?_, ?_, ?_, ?_, ?_, trivial⟩
   ·refine .inl ⟨by decide, by decide, ?_⟩
    intro a' w' hx hs hd
    obtain ⟨y, rfl⟩ := hx.ew
    have e4 : a'.tmps[4]?.getD undef = _ := hs 4 rfl
    simp only [aL, aS, aZ] at e4
    refine .inl ⟨rfl, ?_⟩
    clear hs hd hx
    go_simp
    exact ⟨Ext.refl _ _, rfl⟩
   ·refine .inl ⟨by decide, by decide, ?_⟩
    intro a' w' hx hs hd
    obtain ⟨y, rfl⟩ := hx.ew
    have e8 : a'.tmps[8]?.getD undef = _ := hs 8 rfl
    simp only [aL, aS, aZ] at e8
    refine .inl ⟨rfl, ?_⟩
    clear hs hd hx
    go_simp
    exact ⟨Ext.refl _ _, rfl⟩
   ·refine .inl ⟨by decide, by decide, ?_⟩
    intro a' w' hx hs hd
    obtain ⟨y, rfl⟩ := hx.ew
    have e10 : a'.tmps[10]?.getD undef = _ := hs 10 rfl
    simp only [aL, aS, aZ] at e10
    refine .inl ⟨rfl, ?_⟩
    clear hs hd hx
    go_simp
    exact ⟨Ext.refl _ _, rfl⟩
   ·refine .inr (.inl ⟨rfl, ?_⟩)
    intro a' w' hx hst hs hd
    obtain ⟨y, rfl⟩ := hx.ew
    have e34 : a'.tmps[34]?.getD undef = _ := hd 1 34 rfl rfl
    have e35 : a'.tmps[35]?.getD undef = _ := hd 2 35 rfl rfl
    refine ⟨rfl, ?_⟩
    clear hs hd hx
    go_simp
    exact (CB1.out _ hst).mono (fun e w'' ⟨he, hx, hr⟩ => ⟨_, he, hx, rfl, hr⟩)
   ·refine .inl ⟨by decide, by decide, ?_⟩
    intro a' w' hx hs hd
    obtain ⟨y, rfl⟩ := hx.ew
    obtain ⟨e36, hR3⟩ : a'.tmps[36]?.getD undef = .agg #[.int .i64 (n : Int), .int .u64 0, .string ⟨#[]⟩] ∧ RdG y.on rb r1 := hd 3 36 rfl rfl
    refine .inl ⟨rfl, ?_⟩
    clear hs hd hx
    go_simp
    exact ⟨(Ext.refl _ _).alloc _, _, rfl, y.ext.size, Bx.newAt _ _ _ _ rfl⟩
   ·refine .inr (.inr ⟨rfl, ?_⟩)
    intro a' w' hx hst hs hd
    obtain ⟨y, rfl⟩ := hx.ew
    have e33 : a'.tmps[33]?.getD undef = _ := hd 0 33 rfl rfl
    obtain ⟨k4, e37, hk4, hB4⟩ : ∃ k, a'.tmps[37]?.getD undef = .slice (some ⟨k, 0, none⟩) 1 1 ∧ w4.heap.size ≤ k ∧ Bx y.on k [.int .i64 (n : Int), .int .u64 0, .string ⟨#[]⟩] 156 := hd 4 37 rfl rfl
    refine ⟨rfl, ?_⟩
    clear hs hd hx
    exact rel_append_row _ _ 152 rfl B' 156 3 32 _ Tryz.underlying152 info_val (by rfl) (by omega) (by omega) (.slice none 0 0) 0 [] ((eval_tmp _ _).trans e33) hst k4 _ _ ((eval_tmp _ _).trans e37) hB4 rfl (by intro u hu; simp at hu; rcases hu with rfl | rfl | rfl <;> rfl) (by omega) (by have := y.ext.size; omega) (fun v' w' x o r => ⟨v', rfl, o, fun k hk => (r k hk).imp id (fun z => Nat.le_trans y.ext.size z)⟩)
  case ma1 => exact ⟨.inr (Mo.is_still _ _), .inr (Mo.is_still _ _), .inr (Mo.is_still _ _), .inl rfl, .inr (moOne_still HR1.out), .inr (moRow_still HR1.out HR3.out), trivial⟩
  case mb1 => exact ⟨.inr (Mo.is_still _ _), .inr (Mo.is_still _ _), .inr (Mo.is_still _ _), .inr (moSt_still (fun _ _ x h => RdG.ext h x (fun q => by cases q))), .inr (moOne_still HR2.out), .inl rfl, trivial⟩
  case' q1 =>
   intro vs w' hx hRR
   obtain ⟨x9, rfl⟩ := hx.ew
   have q0 : vs 0 = _ := hRR 0 (by decide)
   have q1 : vs 1 = _ := hRR 1 (by decide)
   have q2 : vs 2 = _ := hRR 2 (by decide)
   obtain ⟨q3, hR3⟩ : vs 3 = .agg #[.int .i64 (n : Int), .int .u64 0, .string ⟨#[]⟩] ∧ RdG x9.on rb r1 := hRR 3 (by decide)
   obtain ⟨k4, q4, hk4, hB4⟩ : ∃ k, vs 4 = .slice (some ⟨k, 0, none⟩) 1 1 ∧ w4.heap.size ≤ k ∧ Bx x9.on k [.int .i64 (n : Int), .int .u64 0, .string ⟨#[]⟩] 156 := hRR 4 (by decide)
   obtain ⟨u5, q5, hO5, hr5⟩ : ∃ u, vs 5 = u ∧ x9.on.ownsRow B' 156 3 u 1 [.int .i64 (n : Int), .int .u64 0, .string ⟨#[]⟩] ∧ ∀ k, Row u k → Row (.slice none 0 0) k ∨ w4.heap.size ≤ k := hRR 5 (by decide)
   clear hRR hx
   simp only [putAll, List.take_succ_cons, List.take_zero, List.drop_succ_cons, List.drop_zero, Act.put, List.setIfInBounds_toArray, List.set_cons_zero, List.set_cons_succ, Nat.reduceAdd, Nat.zero_add]
   simp only [q0, q1, q2, q3, q4, q5]
   clear q0 q1 q2 q3 q4 q5 vs
  obtain ⟨ua, uc, rfl⟩ := row_slice hO5
  have nofoot : ∀ j, j ≠ rb → ¬ Or2 (One rb) (Row (.slice none 0 0)) j := fun j hj q => by rcases q with q | q; exact hj q; cases q
  have E4 := hI_ (D4.out.ext x9.ext (nofoot _ NB.out.1))
  have E5 := hI_ (D5.out.ext x9.ext (nofoot _ NB.out.2.1))
  have BY9 := hI_ (HBY.out.ext x9.ext (nofoot _ NB.out.2.2.1))
  have R9 := hI_ hR3
  have O9 := hI_ hO5
  have XD := hI_ (XC.out.step x9.ext (fun j hj q => by rcases q with q | q; have q : j = rb := q; have := HRB.out; omega; cases q))
  have hsz9 := x9.ext.size
  have HRU : Hid (∀ k, Row (.slice ua 1 uc) k → w4.heap.size ≤ k) := hI_ (fun k q => by rcases hr5 k q with z | z; cases z; exact z)
  have HK9 : Hid (kk < w4.heap.size ∧ w.heap.size < w4.heap.size ∧ w.heap.size + 1 < w4.heap.size ∧ w4.heap.size ≤ x9.on.heap.size) := hI_ ⟨HBY.out.1, D4.out.lt, D5.out.lt, hsz9⟩
  clear hR3 hO5 hk4 hB4 hr5 n1 n2 d4 HBY D4 D5 R4 XC ROW0 HR1 HR2 HR3 CB1 nofoot hsz9 k0
  generalize x9.on = w9 at *
  have d4 : w9.cell? ⟨w.heap.size, 0, none⟩ = some (.slice none 0 0) := E4.out.cell rfl
  have z4 : w9.frozen? ⟨w.heap.size, 0, none⟩ = false := froz_of_heap E4.out.h
  go_upto_region 13 with fail
  have Y : Ext (One w.heap.size) w9 (w9.setCell ⟨w.heap.size, 0, none⟩ (.slice ua 1 uc)) := (Ext.refl _ _).set1 _
  have F4 := hI_ (E4.out.set (j := 0) (.slice ua 1 uc))
  have F5 := hI_ (E5.out.ext Y (fun q => by have q : w.heap.size + 1 = w.heap.size := q; omega))
  have BY10 := hI_ (BY9.out.ext Y (fun q => NB.out.2.2.2.1 q.symm))
  have R10 := hI_ (R9.out.ext Y (fun q => NB.out.1 q.symm))
  have O10 := hI_ (ownR_ext O9.out Y (fun k hk q => by have q : k = w.heap.size := q; have := HRU.out k hk; have := HK9.out; omega))
  have XE := hI_ (XD.out.step Y (fun j hj q => by have q : j = w.heap.size := q; omega))
  have HS10 : Hid (w4.heap.size ≤ (w9.setCell ⟨w.heap.size, 0, none⟩ (.slice ua 1 uc)).heap.size) := hI_ (by have := Y.size; have := HK9.out; omega)
  clear d4 z4 Y E4 E5 BY9 R9 O9 XD x9
  generalize w9.setCell ⟨w.heap.size, 0, none⟩ (.slice ua 1 uc) = w10 at *
  have HK10 : Hid (kk < w4.heap.size ∧ w.heap.size < w4.heap.size ∧ w.heap.size + 1 < w4.heap.size) := hI_ ⟨HK9.out.1, HK9.out.2.1, HK9.out.2.2.1⟩
  clear HK9
  have k1 : w10.cell? ⟨kk, 1, none⟩ = some (.int .u8 113) := BY10.out.2 1 (by decide)
  go_wp2_with fail
  rw [rounds_succ]
  go_upto_region 12 with fail
  have d4 : w10.cell? ⟨w.heap.size, 0, none⟩ = some (.slice ua 1 uc) := F4.out.cell rfl
  obtain ⟨v, hv⟩ : ∃ v, v = Value.slice ua 1 uc := ⟨_, rfl⟩
  rw [← hv] at d4 HRU F4 O10
  have HV := hI_ hv
  clear hv
  have CB1 : Hid (∀ w', RdG w' rb r1 → Calls Tryz.prog 137 #[.pointer (some ⟨rb, 0, none⟩), .int .u8 113] w' fun e w'' => e = .panicked [{ v := stopV, recovered := false }] ∧ Ext (One rb) w' w'' ∧ RdG w'' rb r2) := hI_ (fun w' h => (CQ.out rb w' h).mono fun e w'' ⟨_, h1, h3, h4⟩ => ⟨h1 NBE.out, h3, h4⟩)
  apply wp_region_die 3 (R := relR [Mo.is _, Mo.is _, Mo.is _]) _ rfl (by kernel_rfl) (by kernel_rfl) (by kernel_rfl) (by kernel_rfl) (by kernel_rfl) (relR_mono _) (StepD.all ?st2) ?die2
  case st2 =>
   refine ⟨?_, ?_, ?_, trivial⟩
   ·intro a' w' hx hs hd
    obtain ⟨y, rfl⟩ := hx.ew
    have e4 : a'.tmps[4]?.getD undef = _ := hs 4 rfl
    simp only [aL, aS, aZ] at e4
    refine .inl ⟨rfl, ?_⟩
    clear hs hd hx
    go_simp
    exact ⟨Ext.refl _ _, rfl⟩
   ·intro a' w' hx hs hd
    obtain ⟨y, rfl⟩ := hx.ew
    have e4 : a'.tmps[8]?.getD undef = _ := hs 8 rfl
    simp only [aL, aS, aZ] at e4
    refine .inl ⟨rfl, ?_⟩
    clear hs hd hx
    go_simp
    exact ⟨Ext.refl _ _, rfl⟩
   ·intro a' w' hx hs hd
    obtain ⟨y, rfl⟩ := hx.ew
    have e4 : a'.tmps[10]?.getD undef = _ := hs 10 rfl
    simp only [aL, aS, aZ] at e4
    refine .inl ⟨rfl, ?_⟩
    clear hs hd hx
    go_simp
    exact ⟨Ext.refl _ _, rfl⟩
  case die2 =>
   intro a' w' hx hdf hs hd
   obtain ⟨y, rfl⟩ := hx.ew
   have e34 : a'.tmps[34]?.getD undef = _ := hd 1 34 rfl rfl
   have e35 : a'.tmps[35]?.getD undef = _ := hd 2 35 rfl rfl
   refine ⟨rfl, 137, #[.pointer (some ⟨rb, 0, none⟩), .int .u8 113], ?_, ?_⟩
   ·go_simp
   refine (CB1.out _ (R10.out.extN y.ext)).mono ?_
   rintro e w9 ⟨rfl, x9, h9⟩
   refine ⟨_, rfl, ?_⟩
   go_simp
   dsimp (zetaDelta := true) only [Exit.inBlock, Exit.then, bodyPostD]
   rw [hdf]
   have t4 : a'.tmps[4]?.getD undef = _ := hs 4 rfl
   have t5 : a'.tmps[5]?.getD undef = _ := hs 5 rfl
   simp only [aL, aS, aZ] at t4 t5
   have t4' : a'.tmps.getD 4 undef = Value.pointer (some ⟨w.heap.size, 0, none⟩) := by rw [Array.getD_eq_getD_getElem?]; exact t4
   have t5' : a'.tmps.getD 5 undef = Value.pointer (some ⟨w.heap.size + 1, 0, none⟩) := by rw [Array.getD_eq_getD_getElem?]; exact t5
   clear hd hs hdf
   have G4 := (F4.out.extN y.ext).ext x9 (fun q => NB.out.1 q)
   have G5 := (F5.out.extN y.ext).ext x9 (fun q => NB.out.2.1 q)
   have XG := (XE.out.trans y.ext).step x9 (fun j hj q => by have q : j = rb := q; have := HRB.out; omega)
   have q4 := G4.cell (j := 0) rfl
   have f4 : w9.frozen? ⟨w.heap.size, 0, none⟩ = false := froz_of_heap G4.h
   have q5 := G5.cell (j := 0) rfl
   have f5 : w9.frozen? ⟨w.heap.size + 1, 0, none⟩ = false := froz_of_heap G5.h
   have Y1 : Ext (One w.heap.size) w9 (w9.setCell ⟨w.heap.size, 0, none⟩ (.slice none 0 0)) := (Ext.refl _ _).set1 _
   have A4 := G4.set (j := 0) (.slice none 0 0)
   have A5 := G5.ext Y1 (fun q => by have q : w.heap.size + 1 = w.heap.size := q; omega)
   have Y2 : Ext (One (w.heap.size + 1)) (w9.setCell ⟨w.heap.size, 0, none⟩ (.slice none 0 0)) ((w9.setCell ⟨w.heap.size, 0, none⟩ (.slice none 0 0)).setCell ⟨w.heap.size + 1, 0, none⟩ (.int .i64 2)) := (Ext.refl _ _).set1 _
   have y4 := (A4.ext Y2 (fun q => by have q : w.heap.size = w.heap.size + 1 := q; omega)).cell (j := 0) rfl
   have y5 := (A5.set (j := 0) (.int .i64 2)).cell (j := 0) rfl
   have XF : Ext Non w ((w9.setCell ⟨w.heap.size, 0, none⟩ (.slice none 0 0)).setCell ⟨w.heap.size + 1, 0, none⟩ (.int .i64 2)) := (XG.setCell (.inr (Nat.le_refl _)) _).setCell (.inr (Nat.le_succ _)) _
   dsimp only
   refine leaves_cons (f := 135) (args := #[.pointer (some ⟨w.heap.size, 0, none⟩), .pointer (some ⟨w.heap.size + 1, 0, none⟩)]) (by simp) (by simp [go_sem]) ?_
   refine (scan_catch w.heap.size (w.heap.size + 1) (by omega) _ _ w9 q4 f4 q5 f5 []).mono ?_
   rintro e u' w'' ⟨rfl, rfl, rfl⟩
   generalize (w9.setCell ⟨w.heap.size, 0, none⟩ (.slice none 0 0)).setCell ⟨w.heap.size + 1, 0, none⟩ (.int .i64 2) = w14 at *
   simp [Leaves, settle, results, Tryz.results120, go_sem, t4', t5', t4, t5, y4, y5]
   exact XF
end Go.Proofs.YtfefeepljbfcdaaGreat

/- Layer 11: the program reads a result, of any bytes. -/
namespace Go.Proofs.YtfefeepljbfcdaaGreat
open Go.RowKit Go.Lib F64
set_option linter.unusedSimpArgs false
set_option linter.unusedVariables false
attribute [local go_sem] run_store_float
attribute [local go_sem low] EW.cellN EW.frozN alloc_cell_or alloc_froz_or EW.cellF EW.frozF EW.cell1 EW.froz1
attribute [local go_sem] relAt relUpon relAtT relUponT
attribute [local go_sem low] EW.cellO EW.frozO
theorem endE_bad {r : Rd} (h : r.bad = true) : endE r = 2 := by unfold endE; rw [if_pos h]
set_option maxHeartbeats 1000000 in
set_option maxRecDepth 100000 in
theorem deeds_ReadResult_no (t : List UInt8) (hs : t.length ≤ 4611686018427387904) (hb : readXB t = false) (w : World) : Calls Tryz.prog 109 #[.string (sB t)] w fun e w' =>
  e = .returned (.tuple #[.agg #[.int .i64 0, .float .f64 0], .int .i64 5]) ∧ Ext Non w w' := by
 by_cases hen : endE (xR2 t) = 0
 ·have hnb : (xR2 t).bad = false := by
   cases h : (xR2 t).bad
   ·rfl
   ·rw [endE_bad h] at hen; cases hen
  have KS : Hid (∀ w, Calls Tryz.prog 120 #[.string ⟨#[98, 113]⟩, .string (sB t)] w fun e w' => Ext Non w w' ∧ ∃ k cap, e = .returned (.tuple #[.slice (some ⟨k, 0, none⟩) 2 cap, .int .i64 0]) ∧ k < w'.heap.size ∧ w'.cell? ⟨k, 0, none⟩ = some (.int .i64 (xCd t)) ∧ w'.cell? ⟨k, 4, none⟩ = some (.int .u64 (xBits t))) := hI_ (fun w => (scan_bq t hs hnb w).mono fun e w' ⟨h1, h2, _⟩ => ⟨h1, h2 hen⟩)
  have hcd : 0 ≤ xCd t := by unfold xCd; omega
  have KF0 : Hid (∀ w, Calls Tryz.prog 77 #[.int .u64 (xBits t)] w fun e w' => e = .returned (.tuple #[.float .f64 (fromN (xBits t)), .bool (fromB (xBits t))]) ∧ w = w') := hI_ (fun w => reals_From (xBits t) w)
  have KW : Hid (∀ w, Calls Tryz.prog 88 #[.int .i64 (xCd t), .int .i64 0, .int .i64 8] w fun e w' => e = .returned (.bool (withinB (xCd t) 0 8)) ∧ w = w') := hI_ (fun w => deeds_within _ _ _ w)
  have hcase : withinB (xCd t) 0 8 = false ∨ withinB (xCd t) 0 8 = true ∧ fromB (xBits t) = false := by
   unfold readXB at hb
   cases h1 : withinB (xCd t) 0 8
   ·exact .inl rfl
   ·right
    refine ⟨rfl, ?_⟩
    unfold withinB at h1
    simp only [Bool.and_eq_true, decide_eq_true_eq] at h1
    cases h2 : fromB (xBits t)
    ·rfl
    ·rw [h2, hen] at hb
     simp at hb
     omega
  generalize withinB (xCd t) 0 8 = wb at *
  generalize fromB (xBits t) = fb at *
  generalize fromN (xBits t) = fx at *
  clear hs hb hen hnb hcd
  generalize xCd t = cd at *
  generalize xBits t = x at *
  generalize sB t = tt at *
  have B0 := hI_ (Bx.newAt w [.int .i64 0, .float .f64 0] 48 _ rfl)
  go_enter Tryz.func109, Tryz.ntmps109
  go_wp2_with fail
  refine (KS.out _).mono ?_
  rintro e w2 ⟨hx, k, cap, rfl, hk, c0, c4⟩
  have XA := hI_ (((Ext.refl Non w).alloc (.cells [Value.int .i64 0, .float .f64 0].toArray 48)).trans hx)
  have B2 := hI_ (B0.out.extN hx)
  have z0 : w2.cell? ⟨w.heap.size, 0, none⟩ = some (.int .i64 0) := B2.out.cell rfl
  have z1 : w2.cell? ⟨w.heap.size, 1, none⟩ = some (.float .f64 0) := B2.out.cell rfl
  have g0 : w2.frozen? ⟨w.heap.size, 0, none⟩ = false := froz_of_heap B2.out.h
  have g1 : w2.frozen? ⟨w.heap.size, 1, none⟩ = false := froz_of_heap B2.out.h
  have E2 := (B2.out.set (j := 0) (.int .i64 0)).set (j := 1) (.float .f64 0)
  have HE := hI_ (And.intro (E2.cell (j := 0) rfl) (E2.cell (j := 1) rfl))
  have XF : Hid (Ext Non w ((w2.setCell ⟨w.heap.size, 0, none⟩ (.int .i64 0)).setCell ⟨w.heap.size, 1, none⟩ (.float .f64 0))) := hI_ ((XA.out.setCell (.inr (Nat.le_refl _)) _).setCell (.inr (Nat.le_refl _)) _)
  clear hx B0 E2
  go_wp2_with fail
  rcases hcase with rfl | ⟨rfl, rfl⟩
  ·refine (KW.out _).mono ?_
   rintro e _ ⟨rfl, rfl⟩
   go_wp2
   obtain ⟨y0, y1⟩ := HE.out
   refine bodyPost_ret (v := .tuple #[.agg #[.int .i64 0, .float .f64 0], .int .i64 5]) (by simp [results, Tryz.results109, go_sem, y0, y1]) rfl ?_
   exact ⟨rfl, XF.out⟩
  ·refine (KW.out _).mono ?_
   rintro e _ ⟨rfl, rfl⟩
   go_wp2_with fail
   refine (KF0.out _).mono ?_
   rintro e _ ⟨rfl, rfl⟩
   go_wp2
   obtain ⟨y0, y1⟩ := HE.out
   refine bodyPost_ret (v := .tuple #[.agg #[.int .i64 0, .float .f64 0], .int .i64 5]) (by simp [results, Tryz.results109, go_sem, y0, y1]) rfl ?_
   exact ⟨rfl, XF.out⟩
 ·have KS : Hid (∀ w, Calls Tryz.prog 120 #[.string ⟨#[98, 113]⟩, .string (sB t)] w fun e w' => e = .returned (.tuple #[.slice none 0 0, .int .i64 (endE (xR2 t))]) ∧ Ext Non w w') := hI_ (fun w => by
   cases h : (xR2 t).bad
   ·exact (scan_bq t hs h w).mono fun e w' ⟨h1, _, h2⟩ => ⟨h2 hen, h1⟩
   ·rw [endE_bad h]; exact scan_bad t hs h w)
  have hne : (endE (xR2 t) != 0) = true := by simpa using hen
  clear hs hb hen
  generalize endE (xR2 t) = en at *
  generalize sB t = tt at *
  have B0 := hI_ (Bx.newAt w [.int .i64 0, .float .f64 0] 48 _ rfl)
  go_enter Tryz.func109, Tryz.ntmps109
  go_wp2_with fail
  refine (KS.out _).mono ?_
  rintro e w2 ⟨rfl, hx⟩
  have XA := hI_ (((Ext.refl Non w).alloc (.cells [Value.int .i64 0, .float .f64 0].toArray 48)).trans hx)
  have B2 := hI_ (B0.out.extN hx)
  have z0 : w2.cell? ⟨w.heap.size, 0, none⟩ = some (.int .i64 0) := B2.out.cell rfl
  have z1 : w2.cell? ⟨w.heap.size, 1, none⟩ = some (.float .f64 0) := B2.out.cell rfl
  have g0 : w2.frozen? ⟨w.heap.size, 0, none⟩ = false := froz_of_heap B2.out.h
  have g1 : w2.frozen? ⟨w.heap.size, 1, none⟩ = false := froz_of_heap B2.out.h
  have E2 := (B2.out.set (j := 0) (.int .i64 0)).set (j := 1) (.float .f64 0)
  have HE := hI_ (And.intro (E2.cell (j := 0) rfl) (E2.cell (j := 1) rfl))
  have XF : Hid (Ext Non w ((w2.setCell ⟨w.heap.size, 0, none⟩ (.int .i64 0)).setCell ⟨w.heap.size, 1, none⟩ (.float .f64 0))) := hI_ ((XA.out.setCell (.inr (Nat.le_refl _)) _).setCell (.inr (Nat.le_refl _)) _)
  clear hx B0 E2
  go_wp2
  obtain ⟨y0, y1⟩ := HE.out
  refine bodyPost_ret (v := .tuple #[.agg #[.int .i64 0, .float .f64 0], .int .i64 5]) (by simp [results, Tryz.results109, go_sem, y0, y1]) rfl ?_
  exact ⟨rfl, XF.out⟩
theorem deeds_ReadResult (t : List UInt8) (hs : t.length ≤ 4611686018427387904) (w : World) : Calls Tryz.prog 109 #[.string (sB t)] w fun e w' =>
  e = .returned (.tuple #[.agg #[.int .i64 (readXcd t), .float .f64 (readXre t)], .int .i64 (readXE t)]) ∧ Ext Non w w' := by
 unfold readXcd readXre readXE
 cases h : readXB t
 ·exact deeds_ReadResult_no t hs h w
 ·exact deeds_ReadResult_ok t hs h w
end Go.Proofs.YtfefeepljbfcdaaGreat

/- Layer 12: the program opens a ledger's bytes. -/
namespace Go.Proofs.YtfefeepljbfcdaaGreat
open Go.RowKit Go.Lib F64
set_option linter.unusedSimpArgs false
set_option linter.unusedVariables false
attribute [local go_sem] run_store_float
attribute [local go_sem low] EW.cellN EW.frozN alloc_cell_or alloc_froz_or EW.cellF EW.frozF EW.cell1 EW.froz1
theorem ledg_small {g : Lg} (I : Inv g) : (ledgT g).length ≤ 4611686018427387904 := by
 obtain ⟨p1, p2, p3, p4⟩ := ledgT_parts I
 have hc := confT_len g.epoch g.mem
 have : (ledgT g).length ≤ 1000 := by
  unfold ledgT textB
  simp only [List.length_append, big1_len, big2_len, big4_len, flat_one]
  omega
 omega
set_option maxHeartbeats 1000000 in
set_option maxRecDepth 100000 in
theorem ledger_Open_ok (g : Lg) (I : Inv g) (nd : NdK g.keys) (w : World) : Calls Tryz.prog 10 #[.string (sB (ledgT g))] w fun e w' =>
  ∃ b m, e = .returned (.tuple #[.pointer (some ⟨b, 0, none⟩), .int .i64 0]) ∧ Ext Non w w' ∧ LD w' b m (srtL g) ∧ w.heap.size ≤ b ∧ w.heap.size ≤ m := by
 have hmm := @run_makeMap Tryz.prog
 have hl := ledg_small I
 have KR : Hid (∀ w, Calls Tryz.prog 34 #[.string (sB (ledgT g))] w fun e w' => ∃ b, e = .returned (.pointer (some ⟨b, 0, none⟩)) ∧ Ext Non w w' ∧ RdG w' b ⟨ledgT g, false⟩ ∧ w.heap.size ≤ b) := hI_ (fun w => rdg_Read _ hl w)
 have KT : Hid (∀ b m w, LD w b m (srtL g) → Calls Tryz.prog 12 #[.pointer (some ⟨b, 0, none⟩)] w fun e w' => e = .returned (.string (sB (ledgT g))) ∧ Ext Non w w') := hI_ (fun b m w h => by
  have := ledger_Text b m (srtL g) (srt_inv I) w h
  rw [ledgS_of (srt_inv I) (srt_nd nd), srt_text nd] at this
  exact this)
 have KD := hI_ (fun b m rb h1 h2 h3 w h4 h5 h6 => read_ok b m rb g I nd h1 h2 h3 w h4 h5 h6)
 clear hl
 obtain ⟨tt, htt⟩ : ∃ tt, tt = sB (ledgT g) := ⟨_, rfl⟩
 rw [← htt] at KR KT ⊢
 clear htt
 go_enter Tryz.func10, Tryz.ntmps10
 go_wp2_with fail
 have XA0 : Ext Non w (w.alloc (.map #[] 0)) := (Ext.refl _ _).alloc _
 have hM0 : (w.alloc (.map #[] 0)).heap[w.heap.size]? = some (.map #[] 0) := heap_alloc_new w _
 have hB0 := Bx.newAt (w.alloc (.map #[] 0)) (rowR 0 (.slice none 0 0) (.slice none 0 0) 0 w.heap.size) 64 (w.heap.size + 1) (by simp)
 have XB0 : Ext Non (w.alloc (.map #[] 0)) ((w.alloc (.map #[] 0)).alloc (.cells (rowR 0 (.slice none 0 0) (.slice none 0 0) 0 w.heap.size).toArray 64)) := (Ext.refl _ _).alloc _
 have HM : Hid (MapW ((w.alloc (.map #[] 0)).alloc (.cells (rowR 0 (.slice none 0 0) (.slice none 0 0) 0 w.heap.size).toArray 64)) w.heap.size []) := hI_ ⟨#[], 0, (XB0.block _ (Array.getElem?_eq_some_iff.1 hM0).1 (fun f => f)).trans hM0, Go.MapKept.stamped_empty 0, rfl⟩
 have HB := hI_ hB0
 have XA := hI_ (XA0.trans XB0)
 clear hM0 hB0 XA0 XB0
 unfold rowR clRow clO at HB HM XA
 simp only [List.range, List.range.loop, List.flatMap_cons, List.flatMap_nil, List.cons_append, List.nil_append] at HB HM XA
 generalize (w.alloc (.map #[] 0)).alloc _ = w2 at *
 refine (KR.out _).mono ?_
 rintro e w3 ⟨rb, rfl, x3, hR, hrb⟩
 have hb2 : w.heap.size + 1 < w2.heap.size := HB.out.lt
 have HB3 : Bx w3 (w.heap.size + 1) (rowR 0 (.slice none 0 0) (.slice none 0 0) 0 w.heap.size) 64 := HB.out.extN x3
 have HM3 := HM.out.ext x3 (fun f => f)
 have KD1 := hI_ (KD.out (w.heap.size + 1) w.heap.size rb (by omega) (by omega) (by omega) w3 HB3 HM3 hR)
 have X3 := hI_ (XA.out.trans x3)
 have HRB : Hid (w.heap.size ≤ rb) := hI_ (by omega)
 clear hb2 HB3 HM3 x3 hR hrb HB HM XA KD KR
 go_wp2_with fail
 refine KD1.out.mono ?_
 rintro e w4 ⟨rfl, x4, hL⟩
 have HL : Hid (LD w4 (w.heap.size + 1) w.heap.size (srtL g)) := hI_ hL
 have X4 := hI_ (X3.out.step x4 (fun i hi q => by have := HRB.out; rcases q with q | q | q <;> omega))
 clear x4 hL
 go_wp2_with fail
 refine (KT.out _ _ _ HL.out).mono ?_
 rintro e w5 ⟨rfl, x5⟩
 go_wp2
 go_returns
 exact ⟨w.heap.size + 1, w.heap.size, rfl, X4.out.trans x5, HL.out.extN x5, Nat.le_succ _, Nat.le_refl _⟩
end Go.Proofs.YtfefeepljbfcdaaGreat
