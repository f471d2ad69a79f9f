/- Joined texts: ReadCl, ReadP. What each proves stands at its head; no conditions beside those in its theorems. -/
import Derived.Deep.MidRow
import Derived.Deep.WholeRow
import Derived.Shelf.SlMaps.Clone
import Derived.Test.YtfefeepljbfcdaaGreatPjBM
/- Layer 12: the program reads a ledger's bytes: what the clients had. -/
namespace Go.Proofs.YtfefeepljbfcdaaGreat
open Go.RowKit Go.Lib F64
set_option linter.unusedSimpArgs false
set_option linter.unusedVariables false
attribute [local go_sem] run_store_float
attribute [local go_sem low] EW.cellN EW.frozN alloc_cell_or alloc_froz_or EW.cellF EW.frozF EW.cell1 EW.froz1
attribute [local go_sem] relAt relUpon relAtT relUponT
attribute [local go_sem low] EW.cellO EW.frozO
theorem RdG.noInt {w : World} {b : Nat} {r : Rd} (h : RdG w b r) : NoInts (One b) w := by
 obtain ⟨T, a, h1, h2, h3, h4⟩ := h.box
 intro k hk vs fr e
 have hk : k = b := hk
 subst hk
 rw [h4.h] at e; injection e with e; injection e with _ e _; revert e; decide
def rsC (cl : Nat → Cl) (i : Nat) : Rd := ⟨((List.range 8).drop i).flatMap (fun i => cliT (cl i)), false⟩
def clUp (g : Lg) (cl : Nat → Cl) (i : Nat) : Lg := ⟨g.epoch, g.mem, g.next, g.done, g.keys, fun j => if j < i then cl j else g.cl j⟩
theorem clUp_step (g : Lg) (cl : Nat → Cl) (i : Nat) : setCl (clUp g cl i) i (cl i) = clUp g cl (i + 1) := by
 unfold setCl clUp
 congr 1
 funext j
 by_cases h : j = i
 ·subst h; simp
 ·by_cases h2 : j < i
  ·simp [h, h2, show j < i + 1 by omega]
  ·simp [h, h2, show ¬ j < i + 1 by omega]
theorem clUp_0 (g : Lg) (cl : Nat → Cl) : clUp g cl 0 = g := by unfold clUp; simp
def ClOk (c : Cl) : Prop := 0 ≤ c.stamp ∧ c.stamp ≤ 1048576 ∧ 0 ≤ c.code ∧ c.code ≤ 8 ∧ c.real < 18446744073709551616 ∧ canonN c.real = c.real ∧ (c.stamp = 0 → c.code = 0 ∧ c.real = 0)
theorem rsC_step (cl : Nat → Cl) (h : ∀ i, ClOk (cl i)) {i : Nat} (hi : i < 8) : ((numV 4 (rsC cl i) : Nat) : Int) = (cl i).stamp ∧ textV (numR 4 (rsC cl i)) = resT (cl i).code (cl i).real ∧ textR (numR 4 (rsC cl i)) = rsC cl (i + 1) := by
 obtain ⟨s0, s1, c0, c1, x0, x1, -⟩ := h i
 have hlt : i < (List.range 8).length := by rw [List.length_range]; omega
 have e : ((List.range 8).drop i).flatMap (fun i => cliT (cl i)) = big4 (cl i).stamp ++ (big2 (resT (cl i).code (cl i).real).length ++ resT (cl i).code (cl i).real ++ ((List.range 8).drop (i + 1)).flatMap (fun i => cliT (cl i))) := by
  rw [List.drop_eq_getElem_cons hlt, List.flatMap_cons, List.getElem_range]
  unfold cliT textB
  simp only [List.append_assoc]
 obtain ⟨a1, a2⟩ := num4_of (n := (cl i).stamp) (by omega) (big2 (resT (cl i).code (cl i).real).length ++ resT (cl i).code (cl i).real ++ ((List.range 8).drop (i + 1)).flatMap (fun i => cliT (cl i)))
 obtain ⟨b1, b2⟩ := text_of (s := resT (cl i).code (cl i).real) (by rw [resT_len]; omega) (((List.range 8).drop (i + 1)).flatMap (fun i => cliT (cl i)))
 unfold rsC
 rw [e, a1, a2, b1, b2]
 exact ⟨by omega, rfl, rfl⟩
theorem ReadResult_of {cd : Int} {x : Nat} (h : 0 ≤ cd ∧ cd ≤ 8) (hx : canonN x = x) (h64 : x < 18446744073709551616) (w : World) : Calls Tryz.prog 109 #[.string (sB (resT cd x))] w fun e w' =>
  e = .returned (.tuple #[.agg #[.int .i64 cd, .float .f64 x], .int .i64 0]) ∧ Ext Non w w' := by
 obtain ⟨y1, y2, y3⟩ := readX_of h hx h64
 have := deeds_ReadResult_ok (resT cd x) (by rw [resT_len]; omega) y1 w
 rw [y2, y3] at this
 exact this
set_option maxHeartbeats 4000000 in
set_option maxRecDepth 100000 in
theorem readClients_ok (b m rb : Nat) (g : Lg) (cl : Nat → Cl) (hcl : ∀ i, ClOk (cl i)) (hbm : b ≠ rb) (hmr : m ≠ rb) (w : World) (h : LD w b m g) (hr : RdG w rb (rsC cl 0)) : Calls Tryz.prog 79 #[.pointer (some ⟨b, 0, none⟩), .pointer (some ⟨rb, 0, none⟩)] w fun e w' =>
  e = .returned (.bool true) ∧ Ext (fun k => k = b ∨ k = rb) w w' ∧ LD w' b m (clUp g cl 8) := by
 have HH := hI_ h; have HR := hI_ hr; have HC := hI_ hcl
 have HNE := hI_ (And.intro hbm hmr)
 have KS : Hid (∀ i w', i < 8 → RdG w' rb (rsC cl i) → Calls Tryz.prog 76 #[.pointer (some ⟨rb, 0, none⟩)] w' fun e w'' => e = .returned (.int .i64 (cl i).stamp) ∧ Ext (One rb) w' w'' ∧ RdG w'' rb (numR 4 (rsC cl i))) := hI_ (fun i w' hi h => (rdg_Long rb _ w' h).mono fun e w'' ⟨h1, h2, h3⟩ => ⟨by rw [h1, (rsC_step cl hcl hi).1], h2, h3⟩)
 have KT : Hid (∀ i w', i < 8 → RdG w' rb (numR 4 (rsC cl i)) → Calls Tryz.prog 74 #[.pointer (some ⟨rb, 0, none⟩)] w' fun e w'' => e = .returned (.string (sB (resT (cl i).code (cl i).real))) ∧ Ext (One rb) w' w'' ∧ RdG w'' rb (rsC cl (i + 1))) := hI_ (fun i w' hi h => (rdg_Text rb _ w' h).mono fun e w'' ⟨h1, h2, h3⟩ => by
  obtain ⟨-, z2, z3⟩ := rsC_step cl hcl hi; rw [z2] at h1; rw [z3] at h3; exact ⟨h1, h2, h3⟩)
 have KX : Hid (∀ i w', Calls Tryz.prog 109 #[.string (sB (resT (cl i).code (cl i).real))] w' fun e w'' => e = .returned (.tuple #[.agg #[.int .i64 (cl i).code, .float .f64 (cl i).real], .int .i64 0]) ∧ Ext Non w' w'') := hI_ (fun i w' => ReadResult_of ⟨(hcl i).2.2.1, (hcl i).2.2.2.1⟩ (hcl i).2.2.2.2.2.1 (hcl i).2.2.2.2.1 w')
 have KB : Hid (∀ i w', Calls Tryz.prog 50 #[.float .f64 (cl i).real] w' fun e w'' => e = .returned (.int .u64 ((cl i).real : Nat)) ∧ w' = w'') := hI_ (fun i w' => by have := reals_Bits (cl i).real w'; rw [(hcl i).2.2.2.2.2.1] at this; exact this)
 have KE : Hid (∀ w', RdG w' rb (rsC cl 8) → Calls Tryz.prog 110 #[.pointer (some ⟨rb, 0, none⟩)] w' fun e w'' => e = .returned (.int .i64 0) ∧ ∃ n, w'' = w'.drewN n) := hI_ (fun w' h => rdg_End rb _ w' h)
 have HRL := hI_ hr.lt
 clear h hr hcl hbm hmr
 go_enter Tryz.func79, Tryz.ntmps79
 go_wp2_with fail
 go_loopg [5, 6, 7, 8, 9, 10] 8 (fun n v5 v6 v7 v8 v9 iv wr => ∃ (i : Nat), i ≤ 8 ∧ n = 8 - i ∧ iv = .int .i64 i ∧ Hid (RdG wr rb (rsC cl i)) ∧ Hid (LD wr b m (clUp g cl i)) ∧ Hid (Ext (fun k => k = b ∨ k = rb) w wr))
 case atStart =>
  exact ⟨0, by omega, rfl, rfl, HR, hI_ (by rw [clUp_0]; exact HH.out), hI_ (Ext.refl _ _)⟩
 case round =>
  obtain ⟨i, hi, hn, rfl, HWi, LDi, XZ⟩ := hrel
  have HG := hI_ hn; clear hn
  by_cases hlt : i < 8
  ·go_wp2_with fail
   refine (KS.out i _ hlt HWi.out).mono ?_
   rintro e w2 ⟨rfl, x2, hR⟩
   have L2 := hI_ (LDi.out.ext x2 (fun q => HNE.out.1 q) (fun q => HNE.out.2 q) HWi.out.noInt)
   have X2 := hI_ (XZ.out.trans (x2.mono (fun k _ q => .inr q)))
   have R2 := hI_ hR
   clear x2 hR HWi LDi XZ
   go_wp2_with fail
   refine (KT.out i _ hlt R2.out).mono ?_
   rintro e w3 ⟨rfl, x2, hR⟩
   have L3 := hI_ (L2.out.ext x2 (fun q => HNE.out.1 q) (fun q => HNE.out.2 q) R2.out.noInt)
   have X3 := hI_ (X2.out.trans (x2.mono (fun k _ q => .inr q)))
   have R3 := hI_ hR
   clear x2 hR R2 L2 X2
   go_wp2_with fail
   refine (KX.out i _).mono ?_
   rintro e w4 ⟨rfl, x2⟩
   have KBi := hI_ (KB.out i)
   have LS : Hid (∀ w', LD w' b m (clUp g cl i) → LD (clPut w' b i (cl i)) b m (clUp g cl (i + 1)) ∧ Ext (One b) w' (clPut w' b i (cl i))) := hI_ (fun w' h => by have := cl_put h hlt (cl i); rw [clUp_step] at this; exact this)
   obtain ⟨s0, s1, c0, c1, x0, x1, hz⟩ := HC.out i
   unfold clPut at LS
   generalize (cl i).stamp = st at *
   generalize (cl i).code = cd at *
   generalize (cl i).real = xr at *
   have HZ := hI_ hz
   clear hz x1
   have x4 : Ext Non w3 (w4.alloc (.cells #[.int .i64 cd, .float .f64 xr] 48)) := x2.alloc _
   have BQ := hI_ (Bx.newAt w4 [.int .i64 cd, .float .f64 xr] 48 _ rfl)
   have L4 := hI_ (L3.out.extN x4)
   have X4 := hI_ (X3.out.trans x4.ofNon)
   have R4 := hI_ (R3.out.extN x4)
   have HKB : Hid (b < w4.heap.size) := hI_ (Nat.lt_of_lt_of_le L3.out.lt x2.size)
   clear x2 x4 L3 X3 R3
   go_upto_region 6 with fail
   obtain ⟨kq, hkq⟩ : ∃ kq, kq = w4.heap.size := ⟨_, rfl⟩
   rw [← hkq] at BQ HKB ⊢
   clear hkq
   generalize w4.alloc (.cells #[.int .i64 cd, .float .f64 xr] 48) = w5 at *
   have d0 : w5.cell? ⟨kq, 0, none⟩ = some (.int .i64 cd) := BQ.out.cell rfl
   have d1 : w5.cell? ⟨kq, 1, none⟩ = some (.float .f64 xr) := BQ.out.cell rfl
   have ds : decide (1048576 < st) = false := decide_eq_false (by omega)
   obtain ⟨v0, v1, v2, z0, z1, z2⟩ := cl_cells L4.out hlt
   clear s0 s1 c0 c1 x0
   by_cases hs0 : st = 0
   ·obtain ⟨hc0, hx0⟩ := HZ.out hs0
    subst hs0
    subst hc0
    subst hx0
    go_wp2_with fail
    refine (KBi.out _).mono ?_
    rintro e _ ⟨rfl, rfl⟩
    go_upto_region 9 with fail
    apply wp_region_rel_tail 8 (relR [Mo.is _, Mo.is _, Mo.is _, Mo.is _, Mo.is _, Mo.is _, Mo.is _, Mo.is _]) (by kernel_rfl) (by kernel_rfl) (by kernel_rfl) (by kernel_rfl) (by kernel_rfl) (by decide) (by kernel_rfl) (relR_mono _) (StepD.all ?st6) ?q6
    case st6 =>
     refine ⟨?_, ?_, ?_, ?_, ?_, ?_, ?_, ?_, trivial⟩
     ·intro a' w' hx hs hd
      obtain ⟨y, rfl⟩ := hx.ew
      have e0 : a'.tmps[0]?.getD undef = _ := hs 0 rfl
      simp only [aL, aS, aZ] at e0
      refine .inl ⟨rfl, ?_⟩
      clear hs hd hx
      go_simp
      exact ⟨Ext.refl _ _, rfl⟩
     ·intro a' w' hx hs hd
      obtain ⟨y, rfl⟩ := hx.ew
      have e5 : a'.tmps[5]?.getD undef = _ := hs 5 rfl
      simp only [aL, aS, aZ] at e5
      refine .inl ⟨rfl, ?_⟩
      clear hs hd hx
      go_simp
      exact ⟨Ext.refl _ _, rfl⟩
     ·intro a' w' hx hs hd
      obtain ⟨y, rfl⟩ := hx.ew
      have e6 : a'.tmps[6]?.getD undef = _ := hs 6 rfl
      simp only [aL, aS, aZ] at e6
      refine .inl ⟨rfl, ?_⟩
      clear hs hd hx
      go_simp
      exact ⟨Ext.refl _ _, rfl⟩
     ·intro a' w' hx hs hd
      obtain ⟨y, rfl⟩ := hx.ew
      have e7 : a'.tmps[7]?.getD undef = _ := hs 7 rfl
      simp only [aL, aS, aZ] at e7
      refine .inl ⟨rfl, ?_⟩
      clear hs hd hx
      go_simp
      exact ⟨Ext.refl _ _, rfl⟩
     ·intro a' w' hx hs hd
      obtain ⟨y, rfl⟩ := hx.ew
      have e46 : a'.tmps[46]?.getD undef = _ := hd 2 46 rfl rfl
      have e47 : a'.tmps[47]?.getD undef = _ := hd 3 47 rfl rfl
      refine .inl ⟨rfl, ?_⟩
      clear hs hd hx
      go_simp
      exact ⟨Ext.refl _ _, rfl⟩
     ·intro a' w' hx hs hd
      obtain ⟨y, rfl⟩ := hx.ew
      have e44 : a'.tmps[44]?.getD undef = _ := hd 0 44 rfl rfl
      refine .inl ⟨rfl, ?_⟩
      clear hs hd hx
      go_simp
      exact ⟨Ext.refl _ _, rfl⟩
     ·intro a' w' hx hs hd
      obtain ⟨y, rfl⟩ := hx.ew
      have e49 : a'.tmps[49]?.getD undef = _ := hd 5 49 rfl rfl
      refine .inl ⟨rfl, ?_⟩
      clear hs hd hx
      go_simp
      exact ⟨Ext.refl _ _, rfl⟩
     ·intro a' w' hx hs hd
      obtain ⟨y, rfl⟩ := hx.ew
      have e50 : a'.tmps[50]?.getD undef = _ := hd 6 50 rfl rfl
      have e45 : a'.tmps[45]?.getD undef = _ := hd 1 45 rfl rfl
      refine .inl ⟨rfl, ?_⟩
      clear hs hd hx
      go_simp
      exact ⟨Ext.refl _ _, rfl⟩
    case' q6 =>
     intro vs w' hx hRR
     obtain ⟨x9, rfl⟩ := hx.ew
     have q0 : vs 0 = _ := hRR 0 (by decide)
     have q1 : vs 1 = _ := hRR 1 (by decide)
     have q2 : vs 2 = _ := hRR 2 (by decide)
     have q3 : vs 3 = _ := hRR 3 (by decide)
     have q4 : vs 4 = _ := hRR 4 (by decide)
     have q5 : vs 5 = _ := hRR 5 (by decide)
     have q6 : vs 6 = _ := hRR 6 (by decide)
     have q7 : vs 7 = _ := hRR 7 (by decide)
     clear hRR hx
     simp only [putAll, List.take_succ_cons, List.take_zero, List.drop_succ_cons, List.drop_zero, Act.put, List.setIfInBounds_toArray, List.set_cons_zero, List.set_cons_succ, Nat.reduceAdd, Nat.zero_add]
     simp only [q0, q1, q2, q3, q4, q5, q6, q7]
     clear q0 q1 q2 q3 q4 q5 q6 q7 vs
    have L9 := hI_ (LS.out _ (L4.out.extN x9.ext))
    have R9 := hI_ (R4.out.extN x9.ext)
    have X9 := hI_ (X4.out.trans x9.ext.ofNon)
    go_wp2_with fail
    go_roundg (8 - (i + 1))
    case measure => have := HG.out; omega
    case rel => exact ⟨i + 1, hlt, rfl, by go_num, hI_ (R9.out.ext L9.out.2 (fun q => HNE.out.1 q.symm)), hI_ L9.out.1, hI_ (X9.out.trans (L9.out.2.mono (fun k _ q => .inl q)))⟩
   ·have hs1 : (st == 0) = false := by simpa using hs0
    by_cases hc0 : cd = 0
    ·subst hc0
     have hx1 : ((xr : Int) == 0) = decide (xr = 0) := by by_cases h : xr = 0 <;> simp [h]
     clear hs0
     go_wp2_with fail
     refine (KBi.out _).mono ?_
     rintro e _ ⟨rfl, rfl⟩
     go_upto_region 9 with fail
     apply wp_region_rel_tail 8 (relR [Mo.is _, Mo.is _, Mo.is _, Mo.is _, Mo.is _, Mo.is _, Mo.is _, Mo.is _]) (by kernel_rfl) (by kernel_rfl) (by kernel_rfl) (by kernel_rfl) (by kernel_rfl) (by decide) (by kernel_rfl) (relR_mono _) (StepD.all ?st7) ?q7
     case st7 =>
      refine ⟨?_, ?_, ?_, ?_, ?_, ?_, ?_, ?_, trivial⟩
      ·intro a' w' hx hs hd
       obtain ⟨y, rfl⟩ := hx.ew
       have e0 : a'.tmps[0]?.getD undef = _ := hs 0 rfl
       simp only [aL, aS, aZ] at e0
       refine .inl ⟨rfl, ?_⟩
       clear hs hd hx
       go_simp
       exact ⟨Ext.refl _ _, rfl⟩
      ·intro a' w' hx hs hd
       obtain ⟨y, rfl⟩ := hx.ew
       have e5 : a'.tmps[5]?.getD undef = _ := hs 5 rfl
       simp only [aL, aS, aZ] at e5
       refine .inl ⟨rfl, ?_⟩
       clear hs hd hx
       go_simp
       exact ⟨Ext.refl _ _, rfl⟩
      ·intro a' w' hx hs hd
       obtain ⟨y, rfl⟩ := hx.ew
       have e6 : a'.tmps[6]?.getD undef = _ := hs 6 rfl
       simp only [aL, aS, aZ] at e6
       refine .inl ⟨rfl, ?_⟩
       clear hs hd hx
       go_simp
       exact ⟨Ext.refl _ _, rfl⟩
      ·intro a' w' hx hs hd
       obtain ⟨y, rfl⟩ := hx.ew
       have e7 : a'.tmps[7]?.getD undef = _ := hs 7 rfl
       simp only [aL, aS, aZ] at e7
       refine .inl ⟨rfl, ?_⟩
       clear hs hd hx
       go_simp
       exact ⟨Ext.refl _ _, rfl⟩
      ·intro a' w' hx hs hd
       obtain ⟨y, rfl⟩ := hx.ew
       have e46 : a'.tmps[46]?.getD undef = _ := hd 2 46 rfl rfl
       have e47 : a'.tmps[47]?.getD undef = _ := hd 3 47 rfl rfl
       refine .inl ⟨rfl, ?_⟩
       clear hs hd hx
       go_simp
       exact ⟨Ext.refl _ _, rfl⟩
      ·intro a' w' hx hs hd
       obtain ⟨y, rfl⟩ := hx.ew
       have e44 : a'.tmps[44]?.getD undef = _ := hd 0 44 rfl rfl
       refine .inl ⟨rfl, ?_⟩
       clear hs hd hx
       go_simp
       exact ⟨Ext.refl _ _, rfl⟩
      ·intro a' w' hx hs hd
       obtain ⟨y, rfl⟩ := hx.ew
       have e49 : a'.tmps[49]?.getD undef = _ := hd 5 49 rfl rfl
       refine .inl ⟨rfl, ?_⟩
       clear hs hd hx
       go_simp
       exact ⟨Ext.refl _ _, rfl⟩
      ·intro a' w' hx hs hd
       obtain ⟨y, rfl⟩ := hx.ew
       have e50 : a'.tmps[50]?.getD undef = _ := hd 6 50 rfl rfl
       have e45 : a'.tmps[45]?.getD undef = _ := hd 1 45 rfl rfl
       refine .inl ⟨rfl, ?_⟩
       clear hs hd hx
       go_simp
       exact ⟨Ext.refl _ _, rfl⟩
     case' q7 =>
      intro vs w' hx hRR
      obtain ⟨x9, rfl⟩ := hx.ew
      have q0 : vs 0 = _ := hRR 0 (by decide)
      have q1 : vs 1 = _ := hRR 1 (by decide)
      have q2 : vs 2 = _ := hRR 2 (by decide)
      have q3 : vs 3 = _ := hRR 3 (by decide)
      have q4 : vs 4 = _ := hRR 4 (by decide)
      have q5 : vs 5 = _ := hRR 5 (by decide)
      have q6 : vs 6 = _ := hRR 6 (by decide)
      have q7 : vs 7 = _ := hRR 7 (by decide)
      clear hRR hx
      simp only [putAll, List.take_succ_cons, List.take_zero, List.drop_succ_cons, List.drop_zero, Act.put, List.setIfInBounds_toArray, List.set_cons_zero, List.set_cons_succ, Nat.reduceAdd, Nat.zero_add]
      simp only [q0, q1, q2, q3, q4, q5, q6, q7]
      clear q0 q1 q2 q3 q4 q5 q6 q7 vs
     have L9 := hI_ (LS.out _ (L4.out.extN x9.ext))
     have R9 := hI_ (R4.out.extN x9.ext)
     have X9 := hI_ (X4.out.trans x9.ext.ofNon)
     go_wp2_with fail
     go_roundg (8 - (i + 1))
     case measure => have := HG.out; omega
     case rel => exact ⟨i + 1, hlt, rfl, by go_num, hI_ (R9.out.ext L9.out.2 (fun q => HNE.out.1 q.symm)), hI_ L9.out.1, hI_ (X9.out.trans (L9.out.2.mono (fun k _ q => .inl q)))⟩
    ·have hc1 : (cd == 0) = false := by simpa using hc0
     clear hs0 hc0
     go_upto_region 9 with fail
     apply wp_region_rel_tail 8 (relR [Mo.is _, Mo.is _, Mo.is _, Mo.is _, Mo.is _, Mo.is _, Mo.is _, Mo.is _]) (by kernel_rfl) (by kernel_rfl) (by kernel_rfl) (by kernel_rfl) (by kernel_rfl) (by decide) (by kernel_rfl) (relR_mono _) (StepD.all ?st8) ?q8
     case st8 =>
      refine ⟨?_, ?_, ?_, ?_, ?_, ?_, ?_, ?_, trivial⟩
      ·intro a' w' hx hs hd
       obtain ⟨y, rfl⟩ := hx.ew
       have e0 : a'.tmps[0]?.getD undef = _ := hs 0 rfl
       simp only [aL, aS, aZ] at e0
       refine .inl ⟨rfl, ?_⟩
       clear hs hd hx
       go_simp
       exact ⟨Ext.refl _ _, rfl⟩
      ·intro a' w' hx hs hd
       obtain ⟨y, rfl⟩ := hx.ew
       have e5 : a'.tmps[5]?.getD undef = _ := hs 5 rfl
       simp only [aL, aS, aZ] at e5
       refine .inl ⟨rfl, ?_⟩
       clear hs hd hx
       go_simp
       exact ⟨Ext.refl _ _, rfl⟩
      ·intro a' w' hx hs hd
       obtain ⟨y, rfl⟩ := hx.ew
       have e6 : a'.tmps[6]?.getD undef = _ := hs 6 rfl
       simp only [aL, aS, aZ] at e6
       refine .inl ⟨rfl, ?_⟩
       clear hs hd hx
       go_simp
       exact ⟨Ext.refl _ _, rfl⟩
      ·intro a' w' hx hs hd
       obtain ⟨y, rfl⟩ := hx.ew
       have e7 : a'.tmps[7]?.getD undef = _ := hs 7 rfl
       simp only [aL, aS, aZ] at e7
       refine .inl ⟨rfl, ?_⟩
       clear hs hd hx
       go_simp
       exact ⟨Ext.refl _ _, rfl⟩
      ·intro a' w' hx hs hd
       obtain ⟨y, rfl⟩ := hx.ew
       have e46 : a'.tmps[46]?.getD undef = _ := hd 2 46 rfl rfl
       have e47 : a'.tmps[47]?.getD undef = _ := hd 3 47 rfl rfl
       refine .inl ⟨rfl, ?_⟩
       clear hs hd hx
       go_simp
       exact ⟨Ext.refl _ _, rfl⟩
      ·intro a' w' hx hs hd
       obtain ⟨y, rfl⟩ := hx.ew
       have e44 : a'.tmps[44]?.getD undef = _ := hd 0 44 rfl rfl
       refine .inl ⟨rfl, ?_⟩
       clear hs hd hx
       go_simp
       exact ⟨Ext.refl _ _, rfl⟩
      ·intro a' w' hx hs hd
       obtain ⟨y, rfl⟩ := hx.ew
       have e49 : a'.tmps[49]?.getD undef = _ := hd 5 49 rfl rfl
       refine .inl ⟨rfl, ?_⟩
       clear hs hd hx
       go_simp
       exact ⟨Ext.refl _ _, rfl⟩
      ·intro a' w' hx hs hd
       obtain ⟨y, rfl⟩ := hx.ew
       have e50 : a'.tmps[50]?.getD undef = _ := hd 6 50 rfl rfl
       have e45 : a'.tmps[45]?.getD undef = _ := hd 1 45 rfl rfl
       refine .inl ⟨rfl, ?_⟩
       clear hs hd hx
       go_simp
       exact ⟨Ext.refl _ _, rfl⟩
     case' q8 =>
      intro vs w' hx hRR
      obtain ⟨x9, rfl⟩ := hx.ew
      have q0 : vs 0 = _ := hRR 0 (by decide)
      have q1 : vs 1 = _ := hRR 1 (by decide)
      have q2 : vs 2 = _ := hRR 2 (by decide)
      have q3 : vs 3 = _ := hRR 3 (by decide)
      have q4 : vs 4 = _ := hRR 4 (by decide)
      have q5 : vs 5 = _ := hRR 5 (by decide)
      have q6 : vs 6 = _ := hRR 6 (by decide)
      have q7 : vs 7 = _ := hRR 7 (by decide)
      clear hRR hx
      simp only [putAll, List.take_succ_cons, List.take_zero, List.drop_succ_cons, List.drop_zero, Act.put, List.setIfInBounds_toArray, List.set_cons_zero, List.set_cons_succ, Nat.reduceAdd, Nat.zero_add]
      simp only [q0, q1, q2, q3, q4, q5, q6, q7]
      clear q0 q1 q2 q3 q4 q5 q6 q7 vs
     have L9 := hI_ (LS.out _ (L4.out.extN x9.ext))
     have R9 := hI_ (R4.out.extN x9.ext)
     have X9 := hI_ (X4.out.trans x9.ext.ofNon)
     go_wp2_with fail
     go_roundg (8 - (i + 1))
     case measure => have := HG.out; omega
     case rel => exact ⟨i + 1, hlt, rfl, by go_num, hI_ (R9.out.ext L9.out.2 (fun q => HNE.out.1 q.symm)), hI_ L9.out.1, hI_ (X9.out.trans (L9.out.2.mono (fun k _ q => .inl q)))⟩
  ·obtain rfl : i = 8 := by omega
   go_wp2_with fail
   refine (KE.out _ HWi.out).mono ?_
   rintro e _ ⟨rfl, nd, rfl⟩
   go_wp2
   go_returns
   exact ⟨rfl, XZ.out.drewN nd, LDi.out.extN ((Ext.refl _ _).drewN nd)⟩
end Go.Proofs.YtfefeepljbfcdaaGreat

/- Layer 12: what is left of a ledger's bytes, step by step, in plain words. No program in sight. -/
namespace Go.Proofs.YtfefeepljbfcdaaGreat
open F64
set_option linter.unusedVariables false
set_option linter.unusedSimpArgs false
def rsK (l : Ks) (C : List UInt8) (i : Nat) : Rd := ⟨(l.drop i).flatMap itemT ++ C, false⟩
def rrK (l : Ks) (C : List UInt8) (i : Nat) : Rd := textR (rsK l C i)
theorem rsK_step {l : Ks} (C : List UInt8) (h : ∀ p ∈ l, p.1.size ≤ 65535 ∧ p.2 < 18446744073709551616) {i : Nat} (hi : i < l.length) : sB (textV (rsK l C i)) = (l[i]).1 ∧ numV 8 (rrK l C i) = (l[i]).2 ∧ numR 8 (rrK l C i) = rsK l C (i + 1) := by
 have hx := h _ (List.getElem_mem hi)
 have e : (l.drop i).flatMap itemT ++ C = big2 (kl l[i]).length ++ kl l[i] ++ (big8 (l[i]).2 ++ ((l.drop (i + 1)).flatMap itemT ++ C)) := by
  rw [List.drop_eq_getElem_cons hi, List.flatMap_cons]
  unfold itemT textB
  simp only [List.append_assoc]
 have hs : (kl l[i]).length = (l[i]).1.size := size_data _
 obtain ⟨n1, n2⟩ := text_of (s := kl l[i]) (by omega) (big8 (l[i]).2 ++ ((l.drop (i + 1)).flatMap itemT ++ C))
 obtain ⟨m1, m2⟩ := num8_of (n := (l[i]).2) (by omega) ((l.drop (i + 1)).flatMap itemT ++ C)
 unfold rrK rsK
 rw [e, n1, n2, m1, m2]
 exact ⟨sB_of _, by omega, rfl⟩
theorem led_chain {g : Lg} (I : Inv g) : ∃ (q1 q2 q5 : Rd) (T4 : List UInt8), numV 1 ⟨ledgT g, false⟩ = 76 ∧ numR 1 ⟨ledgT g, false⟩ = q1 ∧ textV q1 = confT g.epoch g.mem ∧ textR q1 = q2 ∧ ((numV 1 q2 : Nat) : Int) = (g.next.length : Int) ∧ numR 1 q2 = rsN g.next T4 0
  ∧ ((numV 4 (rsN g.next T4 g.next.length) : Nat) : Int) = g.done ∧ numR 4 (rsN g.next T4 g.next.length) = q5 ∧ ((numV 1 q5 : Nat) : Int) = ((sortK g.keys).length : Int) ∧ numR 1 q5 = rsK (sortK g.keys) ((List.range 8).flatMap (fun i => cliT (g.cl i))) 0 ∧ 1 ≤ T4.length ∧ T4.length ≤ 100000 := by
 obtain ⟨n1, -, -, n10⟩ := members_facts I.mn
 obtain ⟨-, -, -, m10⟩ := members_facts I.mm
 have hk : (sortK g.keys).length = g.keys.length := sortK_len g.keys
 have hkl := I.kl; have hdn := I.dn; have hep := I.ep
 obtain ⟨p1, p2, p3, p4⟩ := ledgT_parts I
 obtain ⟨C, hC⟩ : ∃ C, C = (List.range 8).flatMap (fun i => cliT (g.cl i)) := ⟨_, rfl⟩
 obtain ⟨T6, h6⟩ : ∃ T, T = (sortK g.keys).flatMap itemT ++ C := ⟨_, rfl⟩
 obtain ⟨T5, h5⟩ : ∃ T, T = big1 g.keys.length ++ T6 := ⟨_, rfl⟩
 obtain ⟨T4, h4⟩ : ∃ T, T = big4 g.done ++ T5 := ⟨_, rfl⟩
 obtain ⟨T3, h3⟩ : ∃ T, T = g.next.flatMap big1 ++ T4 := ⟨_, rfl⟩
 obtain ⟨T2, h2⟩ : ∃ T, T = big1 g.next.length ++ T3 := ⟨_, rfl⟩
 obtain ⟨T1, h1⟩ : ∃ T, T = big2 (confT g.epoch g.mem).length ++ confT g.epoch g.mem ++ T2 := ⟨_, rfl⟩
 have e : ledgT g = big1 76 ++ T1 := by
  unfold ledgT textB
  rw [h1, h2, h3, h4, h5, h6, hC]
  simp only [List.append_assoc]
 have a1 := num1_of (n := 76) (by omega) T1
 have a2 := text_of (s := confT g.epoch g.mem) (by rw [confT_len]; omega) T2
 rw [← h1] at a2
 have a3 := num1_of (n := g.next.length) (by omega) T3
 rw [← h2] at a3
 have a5 := num4_of (n := g.done) (by omega) T5
 rw [← h4] at a5
 have a6 := num1_of (n := g.keys.length) (by omega) T6
 rw [← h5] at a6
 have r0 : rsN g.next T4 0 = ⟨T3, false⟩ := by unfold rsN; rw [h3]; rfl
 have rN : rsN g.next T4 g.next.length = ⟨T4, false⟩ := by unfold rsN; rw [List.drop_length]; rfl
 refine ⟨⟨T1, false⟩, ⟨T2, false⟩, ⟨T5, false⟩, T4, ?_, ?_, a2.1, a2.2, ?_, ?_, ?_, ?_, ?_, ?_, ?_, ?_⟩
 ·rw [e, a1.1]; rfl
 ·rw [e, a1.2]
 ·rw [a3.1]; omega
 ·rw [a3.2, r0]
 ·rw [rN, a5.1]; omega
 ·rw [rN, a5.2]
 ·rw [a6.1, hk]; omega
 ·rw [a6.2, h6, hC]; rfl
 ·rw [h4, List.length_append, big4_len]; omega
 ·rw [h4, h5, h6]
  simp only [List.length_append, big4_len, big1_len]
  rw [hC]
  omega
end Go.Proofs.YtfefeepljbfcdaaGreat
