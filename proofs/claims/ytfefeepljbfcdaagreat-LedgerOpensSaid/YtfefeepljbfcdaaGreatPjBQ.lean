/- Joined texts: ReadClG. What each proves stands at its head; no conditions beside those in its theorems. -/
import Derived.Deep.MidRow
import Derived.Deep.WholeRow
import Derived.Shelf.SlMaps.Clone
import Derived.Test.YtfefeepljbfcdaaGreatPjBP
/- Layer 12: the program reads what the clients had, of any bytes. -/
namespace Go.Proofs.YtfefeepljbfcdaaGreat
open Go.RowKit Go.Lib F64
set_option linter.unusedSimpArgs false
set_option linter.unusedVariables false
attribute [local go_sem] run_store_float
attribute [local go_sem low] EW.cellN EW.frozN alloc_cell_or alloc_froz_or EW.cellF EW.frozF EW.cell1 EW.froz1
attribute [local go_sem] relAt relUpon relAtT relUponT
attribute [local go_sem low] EW.cellO EW.frozO
theorem canon_fromB {x : Nat} (h : fromB x = true) : canonN x = x := by
 unfold fromB at h
 unfold canonN
 by_cases hw : wild x = true
 ·rw [hw] at h
  simp at h
  rw [if_pos hw, h]
 ·rw [if_neg hw]
theorem readX_ok (t : List UInt8) : 0 ≤ readXcd t ∧ readXcd t ≤ 8 ∧ readXre t < 18446744073709551616 ∧ canonN (readXre t) = readXre t := by
 unfold readXcd readXre
 split
 ·rename_i h
  unfold readXB at h
  simp only [Bool.and_eq_true, decide_eq_true_eq] at h
  refine ⟨by unfold xCd; omega, h.2, ?_, canon_fromB h.1.1⟩
  have := numV_lt 8 (xR1 t)
  unfold xBits
  omega
 ·exact ⟨by omega, by omega, by omega, canon0⟩
def withCl (g : Lg) (cl : Nat → Cl) : Lg := ⟨g.epoch, g.mem, g.next, g.done, g.keys, cl⟩
def RClP (b m rb : Nat) (g : Lg) (w : World) (e : Ending) (w' : World) : Prop := ∃ v cl, e = .returned (.bool v) ∧ Ext (fun k => k = b ∨ k = rb) w w' ∧ LD w' b m (withCl g cl) ∧ ∀ i, ClOk (cl i)
set_option maxHeartbeats 8000000 in
set_option maxRecDepth 100000 in
theorem readClients_any (b m rb : Nat) (g : Lg) (cl0 : Nat → Cl) (hcl : ∀ i, ClOk (cl0 i)) (r0 : Rd) (hbm : b ≠ rb) (hmr : m ≠ rb) (w : World) (h : LD w b m (withCl g cl0)) (hr : RdG w rb r0) : Calls Tryz.prog 79 #[.pointer (some ⟨b, 0, none⟩), .pointer (some ⟨rb, 0, none⟩)] w fun e w' => RClP b m rb g w e w' := by
 have HH := hI_ h; have HR := hI_ hr; have HC := hI_ hcl
 have HNE := hI_ (And.intro hbm hmr)
 have KX : Hid (∀ t : List UInt8, t.length ≤ 4611686018427387904 → ∀ w', Calls Tryz.prog 109 #[.string (sB t)] w' fun e w'' => e = .returned (.tuple #[.agg #[.int .i64 (readXcd t), .float .f64 (readXre t)], .int .i64 (readXE t)]) ∧ Ext Non w' w'') := hI_ (fun t ht w' => deeds_ReadResult t ht w')
 have KE : Hid (∀ r w', RdG w' rb r → Calls Tryz.prog 110 #[.pointer (some ⟨rb, 0, none⟩)] w' fun e w'' => e = .returned (.int .i64 (endE r)) ∧ ∃ n, w'' = w'.drewN n) := hI_ (fun r w' h => rdg_End rb r w' h)
 have HRL := hI_ hr.lt
 clear h hr hcl hbm hmr
 go_enter Tryz.func79, Tryz.ntmps79
 go_wp2_with fail
 go_loopg [5, 6, 7, 8, 9, 10] 8 (fun n v5 v6 v7 v8 v9 iv wr => ∃ (i : Nat) (cl : Nat → Cl) (r : Rd), i ≤ 8 ∧ n = 8 - i ∧ iv = .int .i64 i ∧ Hid (RdG wr rb r) ∧ Hid (LD wr b m (withCl g cl)) ∧ Hid (∀ i, ClOk (cl i)) ∧ Hid (Ext (fun k => k = b ∨ k = rb) w wr))
 case atStart =>
  exact ⟨0, cl0, r0, by omega, rfl, rfl, HR, HH, HC, hI_ (Ext.refl _ _)⟩
 case round =>
  obtain ⟨i, cl, r, hi, hn, rfl, HWi, LDi, HCi, XZ⟩ := hrel
  have HG := hI_ hn; clear hn HR HH HC
  by_cases hlt : i < 8
  ·have KS : Hid (Calls Tryz.prog 76 #[.pointer (some ⟨rb, 0, none⟩)] wr fun e w'' => e = .returned (.int .i64 ((numV 4 r : Nat) : Int)) ∧ Ext (One rb) wr w'' ∧ RdG w'' rb (numR 4 r)) := hI_ (rdg_Long rb r wr HWi.out)
   have hst : 0 ≤ ((numV 4 r : Nat) : Int) := by omega
   generalize ((numV 4 r : Nat) : Int) = st at *
   generalize numR 4 r = r2 at *
   go_wp2_with fail
   refine KS.out.mono ?_
   rintro e w2 ⟨rfl, x2, hR⟩
   have L2 := hI_ (LDi.out.ext x2 (fun q => HNE.out.1 q) (fun q => HNE.out.2 q) HWi.out.noInt)
   have X2 := hI_ (XZ.out.trans (x2.mono (fun k _ q => .inr q)))
   have R2 := hI_ hR
   clear x2 hR HWi LDi XZ KS
   have KT : Hid (Calls Tryz.prog 74 #[.pointer (some ⟨rb, 0, none⟩)] w2 fun e w'' => e = .returned (.string (sB (textV r2))) ∧ Ext (One rb) w2 w'' ∧ RdG w'' rb (textR r2)) := hI_ (rdg_Text rb r2 w2 R2.out)
   have htl : (textV r2).length ≤ 4611686018427387904 := by have h1 := (textV_len r2).1; have h2 := R2.out.small; omega
   have KX1 := hI_ (KX.out (textV r2) htl)
   obtain ⟨c0, c1, x0, x1⟩ := readX_ok (textV r2)
   have hE : readXE (textV r2) = 0 ∨ readXE (textV r2) = 5 ∧ readXcd (textV r2) = 0 ∧ readXre (textV r2) = 0 := by
    unfold readXE readXcd readXre
    split
    ·exact .inl rfl
    ·exact .inr ⟨rfl, rfl, rfl⟩
   clear htl
   generalize readXE (textV r2) = er at *
   generalize readXcd (textV r2) = cd at *
   generalize readXre (textV r2) = xr at *
   generalize sB (textV r2) = tx at *
   generalize textR r2 = r3 at *
   go_wp2_with fail
   refine KT.out.mono ?_
   rintro e w3 ⟨rfl, x2, hR⟩
   have L3 := hI_ (L2.out.ext x2 (fun q => HNE.out.1 q) (fun q => HNE.out.2 q) R2.out.noInt)
   have X3 := hI_ (X2.out.trans (x2.mono (fun k _ q => .inr q)))
   have R3 := hI_ hR
   clear x2 hR R2 L2 X2 KT
   go_wp2_with fail
   refine (KX1.out _).mono ?_
   rintro e w4 ⟨rfl, x2⟩
   have KB : Hid (∀ w', Calls Tryz.prog 50 #[.float .f64 xr] w' fun e w'' => e = .returned (.int .u64 (xr : Nat)) ∧ w' = w'') := hI_ (fun w' => by have := reals_Bits xr w'; rw [x1] at this; exact this)
   have LS : Hid (∀ w', LD w' b m (withCl g cl) → LD (clPut w' b i ⟨st, cd, xr⟩) b m (setCl (withCl g cl) i ⟨st, cd, xr⟩) ∧ Ext (One b) w' (clPut w' b i ⟨st, cd, xr⟩)) := hI_ (fun w' h => cl_put h hlt ⟨st, cd, xr⟩)
   have HOK : Hid (st ≤ 1048576 → (st = 0 → cd = 0 ∧ xr = 0) → ∀ j, ClOk ((setCl (withCl g cl) i ⟨st, cd, xr⟩).cl j)) := hI_ (fun h1 h2 j => by
    show ClOk (if j = i then ⟨st, cd, xr⟩ else cl j)
    split
    ·exact ⟨hst, h1, c0, c1, x0, x1, h2⟩
    ·exact HCi.out j)
   have HST := hI_ hst
   unfold clPut at LS
   simp only at LS
   have x4 : Ext Non w3 (w4.alloc (.cells #[.int .i64 cd, .float .f64 xr] 48)) := x2.alloc _
   have BQ := hI_ (Bx.newAt w4 [.int .i64 cd, .float .f64 xr] 48 _ rfl)
   have L4 := hI_ (L3.out.extN x4)
   have X4 := hI_ (X3.out.trans x4.ofNon)
   have R4 := hI_ (R3.out.extN x4)
   clear x2 x4 L3 X3 R3 KX1 x1 x0 c0 c1 hst
   go_upto_region 6 with fail
   obtain ⟨kq, hkq⟩ : ∃ kq, kq = w4.heap.size := ⟨_, rfl⟩
   rw [← hkq] at BQ ⊢
   clear hkq
   generalize w4.alloc (.cells #[.int .i64 cd, .float .f64 xr] 48) = w5 at *
   have d0 : w5.cell? ⟨kq, 0, none⟩ = some (.int .i64 cd) := BQ.out.cell rfl
   have d1 : w5.cell? ⟨kq, 1, none⟩ = some (.float .f64 xr) := BQ.out.cell rfl
   obtain ⟨v0, v1, v2, z0, z1, z2⟩ := cl_cells L4.out hlt
   have CS : Hid ((er != 0) = true ∨ (er != 0) = false ∧ decide (1048576 < st) = true ∨ (er != 0) = false ∧ decide (1048576 < st) = false ∧ st ≠ 0 ∨ (er != 0) = false ∧ st = 0) := hI_ (by
    by_cases h1 : er = 0
    ·have h1' : (er != 0) = false := by simpa using h1
     by_cases h2 : 1048576 < st
     ·exact .inr (.inl ⟨h1', decide_eq_true h2⟩)
     ·by_cases h3 : st = 0
      ·exact .inr (.inr (.inr ⟨h1', h3⟩))
      ·exact .inr (.inr (.inl ⟨h1', decide_eq_false h2, h3⟩))
    ·left; simpa using h1)
   by_cases hc0 : cd = 0
   ·subst hc0
    go_wp2_with fail
    refine (KB.out _).mono ?_
    rintro e _ ⟨rfl, rfl⟩
    by_cases hx0 : xr = 0
    ·subst hx0
     rcases CS.out with k1 | ⟨k1, k2⟩ | ⟨k1, k2, k3⟩ | ⟨k1, k3⟩
     ·go_wp2
      go_returns
      exact ⟨false, cl, rfl, X4.out, L4.out, HCi.out⟩
     ·go_wp2
      go_returns
      exact ⟨false, cl, rfl, X4.out, L4.out, HCi.out⟩
     ·have k4 : (st == 0) = false := by simpa using k3
      go_upto_region 9 with fail
      apply wp_region_rel_tail 8 (relR [Mo.is _, Mo.is _, Mo.is _, Mo.is _, Mo.is _, Mo.is _, Mo.is _, Mo.is _]) (by kernel_rfl) (by kernel_rfl) (by kernel_rfl) (by kernel_rfl) (by kernel_rfl) (by decide) (by kernel_rfl) (relR_mono _) (StepD.all ?st2) ?q2
      case st2 =>
       refine ⟨?_, ?_, ?_, ?_, ?_, ?_, ?_, ?_, trivial⟩
       ·intro a' w' hx hs hd
        obtain ⟨y, rfl⟩ := hx.ew
        have e0 : a'.tmps[0]?.getD undef = _ := hs 0 rfl
        simp only [aL, aS, aZ] at e0
        refine .inl ⟨rfl, ?_⟩
        clear hs hd hx
        go_simp
        exact ⟨Ext.refl _ _, rfl⟩
       ·intro a' w' hx hs hd
        obtain ⟨y, rfl⟩ := hx.ew
        have e5 : a'.tmps[5]?.getD undef = _ := hs 5 rfl
        simp only [aL, aS, aZ] at e5
        refine .inl ⟨rfl, ?_⟩
        clear hs hd hx
        go_simp
        exact ⟨Ext.refl _ _, rfl⟩
       ·intro a' w' hx hs hd
        obtain ⟨y, rfl⟩ := hx.ew
        have e6 : a'.tmps[6]?.getD undef = _ := hs 6 rfl
        simp only [aL, aS, aZ] at e6
        refine .inl ⟨rfl, ?_⟩
        clear hs hd hx
        go_simp
        exact ⟨Ext.refl _ _, rfl⟩
       ·intro a' w' hx hs hd
        obtain ⟨y, rfl⟩ := hx.ew
        have e7 : a'.tmps[7]?.getD undef = _ := hs 7 rfl
        simp only [aL, aS, aZ] at e7
        refine .inl ⟨rfl, ?_⟩
        clear hs hd hx
        go_simp
        exact ⟨Ext.refl _ _, rfl⟩
       ·intro a' w' hx hs hd
        obtain ⟨y, rfl⟩ := hx.ew
        have e46 : a'.tmps[46]?.getD undef = _ := hd 2 46 rfl rfl
        have e47 : a'.tmps[47]?.getD undef = _ := hd 3 47 rfl rfl
        refine .inl ⟨rfl, ?_⟩
        clear hs hd hx
        go_simp
        exact ⟨Ext.refl _ _, rfl⟩
       ·intro a' w' hx hs hd
        obtain ⟨y, rfl⟩ := hx.ew
        have e44 : a'.tmps[44]?.getD undef = _ := hd 0 44 rfl rfl
        refine .inl ⟨rfl, ?_⟩
        clear hs hd hx
        go_simp
        exact ⟨Ext.refl _ _, rfl⟩
       ·intro a' w' hx hs hd
        obtain ⟨y, rfl⟩ := hx.ew
        have e49 : a'.tmps[49]?.getD undef = _ := hd 5 49 rfl rfl
        refine .inl ⟨rfl, ?_⟩
        clear hs hd hx
        go_simp
        exact ⟨Ext.refl _ _, rfl⟩
       ·intro a' w' hx hs hd
        obtain ⟨y, rfl⟩ := hx.ew
        have e50 : a'.tmps[50]?.getD undef = _ := hd 6 50 rfl rfl
        have e45 : a'.tmps[45]?.getD undef = _ := hd 1 45 rfl rfl
        refine .inl ⟨rfl, ?_⟩
        clear hs hd hx
        go_simp
        exact ⟨Ext.refl _ _, rfl⟩
      case' q2 =>
       intro vs w' hx hRR
       obtain ⟨x9, rfl⟩ := hx.ew
       have q0 : vs 0 = _ := hRR 0 (by decide)
       have q1 : vs 1 = _ := hRR 1 (by decide)
       have q2 : vs 2 = _ := hRR 2 (by decide)
       have q3 : vs 3 = _ := hRR 3 (by decide)
       have q4 : vs 4 = _ := hRR 4 (by decide)
       have q5 : vs 5 = _ := hRR 5 (by decide)
       have q6 : vs 6 = _ := hRR 6 (by decide)
       have q7 : vs 7 = _ := hRR 7 (by decide)
       clear hRR hx
       simp only [putAll, List.take_succ_cons, List.take_zero, List.drop_succ_cons, List.drop_zero, Act.put, List.setIfInBounds_toArray, List.set_cons_zero, List.set_cons_succ, Nat.reduceAdd, Nat.zero_add]
       simp only [q0, q1, q2, q3, q4, q5, q6, q7]
       clear q0 q1 q2 q3 q4 q5 q6 q7 vs
      have L9 := hI_ (LS.out _ (L4.out.extN x9.ext))
      have R9 := hI_ (R4.out.extN x9.ext)
      have X9 := hI_ (X4.out.trans x9.ext.ofNon)
      go_wp2_with fail
      go_roundg (8 - (i + 1))
      case measure => have := HG.out; omega
      case rel => exact ⟨i + 1, _, r3, hlt, rfl, by go_num, hI_ (R9.out.ext L9.out.2 (fun q => HNE.out.1 q.symm)), hI_ L9.out.1, hI_ (HOK.out (by simp only [decide_eq_false_iff_not] at *; omega) (fun h => by first | exact absurd h k3 | exact ⟨rfl, rfl⟩ | simp)), hI_ (X9.out.trans (L9.out.2.mono (fun k _ q => .inl q)))⟩
     ·subst k3
      go_upto_region 9 with fail
      apply wp_region_rel_tail 8 (relR [Mo.is _, Mo.is _, Mo.is _, Mo.is _, Mo.is _, Mo.is _, Mo.is _, Mo.is _]) (by kernel_rfl) (by kernel_rfl) (by kernel_rfl) (by kernel_rfl) (by kernel_rfl) (by decide) (by kernel_rfl) (relR_mono _) (StepD.all ?st3) ?q3
      case st3 =>
       refine ⟨?_, ?_, ?_, ?_, ?_, ?_, ?_, ?_, trivial⟩
       ·intro a' w' hx hs hd
        obtain ⟨y, rfl⟩ := hx.ew
        have e0 : a'.tmps[0]?.getD undef = _ := hs 0 rfl
        simp only [aL, aS, aZ] at e0
        refine .inl ⟨rfl, ?_⟩
        clear hs hd hx
        go_simp
        exact ⟨Ext.refl _ _, rfl⟩
       ·intro a' w' hx hs hd
        obtain ⟨y, rfl⟩ := hx.ew
        have e5 : a'.tmps[5]?.getD undef = _ := hs 5 rfl
        simp only [aL, aS, aZ] at e5
        refine .inl ⟨rfl, ?_⟩
        clear hs hd hx
        go_simp
        exact ⟨Ext.refl _ _, rfl⟩
       ·intro a' w' hx hs hd
        obtain ⟨y, rfl⟩ := hx.ew
        have e6 : a'.tmps[6]?.getD undef = _ := hs 6 rfl
        simp only [aL, aS, aZ] at e6
        refine .inl ⟨rfl, ?_⟩
        clear hs hd hx
        go_simp
        exact ⟨Ext.refl _ _, rfl⟩
       ·intro a' w' hx hs hd
        obtain ⟨y, rfl⟩ := hx.ew
        have e7 : a'.tmps[7]?.getD undef = _ := hs 7 rfl
        simp only [aL, aS, aZ] at e7
        refine .inl ⟨rfl, ?_⟩
        clear hs hd hx
        go_simp
        exact ⟨Ext.refl _ _, rfl⟩
       ·intro a' w' hx hs hd
        obtain ⟨y, rfl⟩ := hx.ew
        have e46 : a'.tmps[46]?.getD undef = _ := hd 2 46 rfl rfl
        have e47 : a'.tmps[47]?.getD undef = _ := hd 3 47 rfl rfl
        refine .inl ⟨rfl, ?_⟩
        clear hs hd hx
        go_simp
        exact ⟨Ext.refl _ _, rfl⟩
       ·intro a' w' hx hs hd
        obtain ⟨y, rfl⟩ := hx.ew
        have e44 : a'.tmps[44]?.getD undef = _ := hd 0 44 rfl rfl
        refine .inl ⟨rfl, ?_⟩
        clear hs hd hx
        go_simp
        exact ⟨Ext.refl _ _, rfl⟩
       ·intro a' w' hx hs hd
        obtain ⟨y, rfl⟩ := hx.ew
        have e49 : a'.tmps[49]?.getD undef = _ := hd 5 49 rfl rfl
        refine .inl ⟨rfl, ?_⟩
        clear hs hd hx
        go_simp
        exact ⟨Ext.refl _ _, rfl⟩
       ·intro a' w' hx hs hd
        obtain ⟨y, rfl⟩ := hx.ew
        have e50 : a'.tmps[50]?.getD undef = _ := hd 6 50 rfl rfl
        have e45 : a'.tmps[45]?.getD undef = _ := hd 1 45 rfl rfl
        refine .inl ⟨rfl, ?_⟩
        clear hs hd hx
        go_simp
        exact ⟨Ext.refl _ _, rfl⟩
      case' q3 =>
       intro vs w' hx hRR
       obtain ⟨x9, rfl⟩ := hx.ew
       have q0 : vs 0 = _ := hRR 0 (by decide)
       have q1 : vs 1 = _ := hRR 1 (by decide)
       have q2 : vs 2 = _ := hRR 2 (by decide)
       have q3 : vs 3 = _ := hRR 3 (by decide)
       have q4 : vs 4 = _ := hRR 4 (by decide)
       have q5 : vs 5 = _ := hRR 5 (by decide)
       have q6 : vs 6 = _ := hRR 6 (by decide)
       have q7 : vs 7 = _ := hRR 7 (by decide)
       clear hRR hx
       simp only [putAll, List.take_succ_cons, List.take_zero, List.drop_succ_cons, List.drop_zero, Act.put, List.setIfInBounds_toArray, List.set_cons_zero, List.set_cons_succ, Nat.reduceAdd, Nat.zero_add]
       simp only [q0, q1, q2, q3, q4, q5, q6, q7]
       clear q0 q1 q2 q3 q4 q5 q6 q7 vs
      have L9 := hI_ (LS.out _ (L4.out.extN x9.ext))
      have R9 := hI_ (R4.out.extN x9.ext)
      have X9 := hI_ (X4.out.trans x9.ext.ofNon)
      go_wp2_with fail
      go_roundg (8 - (i + 1))
      case measure => have := HG.out; omega
      case rel => exact ⟨i + 1, _, r3, hlt, rfl, by go_num, hI_ (R9.out.ext L9.out.2 (fun q => HNE.out.1 q.symm)), hI_ L9.out.1, hI_ (HOK.out (by simp only [decide_eq_false_iff_not] at *; omega) (fun h => by first | exact absurd h k3 | exact ⟨rfl, rfl⟩ | simp)), hI_ (X9.out.trans (L9.out.2.mono (fun k _ q => .inl q)))⟩
    ·have hx1 : ((xr : Int) == 0) = false := by simpa using hx0
     rcases CS.out with k1 | ⟨k1, k2⟩ | ⟨k1, k2, k3⟩ | ⟨k1, k3⟩
     ·go_wp2
      go_returns
      exact ⟨false, cl, rfl, X4.out, L4.out, HCi.out⟩
     ·go_wp2
      go_returns
      exact ⟨false, cl, rfl, X4.out, L4.out, HCi.out⟩
     ·have k4 : (st == 0) = false := by simpa using k3
      go_upto_region 9 with fail
      apply wp_region_rel_tail 8 (relR [Mo.is _, Mo.is _, Mo.is _, Mo.is _, Mo.is _, Mo.is _, Mo.is _, Mo.is _]) (by kernel_rfl) (by kernel_rfl) (by kernel_rfl) (by kernel_rfl) (by kernel_rfl) (by decide) (by kernel_rfl) (relR_mono _) (StepD.all ?st4) ?q4
      case st4 =>
       refine ⟨?_, ?_, ?_, ?_, ?_, ?_, ?_, ?_, trivial⟩
       ·intro a' w' hx hs hd
        obtain ⟨y, rfl⟩ := hx.ew
        have e0 : a'.tmps[0]?.getD undef = _ := hs 0 rfl
        simp only [aL, aS, aZ] at e0
        refine .inl ⟨rfl, ?_⟩
        clear hs hd hx
        go_simp
        exact ⟨Ext.refl _ _, rfl⟩
       ·intro a' w' hx hs hd
        obtain ⟨y, rfl⟩ := hx.ew
        have e5 : a'.tmps[5]?.getD undef = _ := hs 5 rfl
        simp only [aL, aS, aZ] at e5
        refine .inl ⟨rfl, ?_⟩
        clear hs hd hx
        go_simp
        exact ⟨Ext.refl _ _, rfl⟩
       ·intro a' w' hx hs hd
        obtain ⟨y, rfl⟩ := hx.ew
        have e6 : a'.tmps[6]?.getD undef = _ := hs 6 rfl
        simp only [aL, aS, aZ] at e6
        refine .inl ⟨rfl, ?_⟩
        clear hs hd hx
        go_simp
        exact ⟨Ext.refl _ _, rfl⟩
       ·intro a' w' hx hs hd
        obtain ⟨y, rfl⟩ := hx.ew
        have e7 : a'.tmps[7]?.getD undef = _ := hs 7 rfl
        simp only [aL, aS, aZ] at e7
        refine .inl ⟨rfl, ?_⟩
        clear hs hd hx
        go_simp
        exact ⟨Ext.refl _ _, rfl⟩
       ·intro a' w' hx hs hd
        obtain ⟨y, rfl⟩ := hx.ew
        have e46 : a'.tmps[46]?.getD undef = _ := hd 2 46 rfl rfl
        have e47 : a'.tmps[47]?.getD undef = _ := hd 3 47 rfl rfl
        refine .inl ⟨rfl, ?_⟩
        clear hs hd hx
        go_simp
        exact ⟨Ext.refl _ _, rfl⟩
       ·intro a' w' hx hs hd
        obtain ⟨y, rfl⟩ := hx.ew
        have e44 : a'.tmps[44]?.getD undef = _ := hd 0 44 rfl rfl
        refine .inl ⟨rfl, ?_⟩
        clear hs hd hx
        go_simp
        exact ⟨Ext.refl _ _, rfl⟩
       ·intro a' w' hx hs hd
        obtain ⟨y, rfl⟩ := hx.ew
        have e49 : a'.tmps[49]?.getD undef = _ := hd 5 49 rfl rfl
        refine .inl ⟨rfl, ?_⟩
        clear hs hd hx
        go_simp
        exact ⟨Ext.refl _ _, rfl⟩
       ·intro a' w' hx hs hd
        obtain ⟨y, rfl⟩ := hx.ew
        have e50 : a'.tmps[50]?.getD undef = _ := hd 6 50 rfl rfl
        have e45 : a'.tmps[45]?.getD undef = _ := hd 1 45 rfl rfl
        refine .inl ⟨rfl, ?_⟩
        clear hs hd hx
        go_simp
        exact ⟨Ext.refl _ _, rfl⟩
      case' q4 =>
       intro vs w' hx hRR
       obtain ⟨x9, rfl⟩ := hx.ew
       have q0 : vs 0 = _ := hRR 0 (by decide)
       have q1 : vs 1 = _ := hRR 1 (by decide)
       have q2 : vs 2 = _ := hRR 2 (by decide)
       have q3 : vs 3 = _ := hRR 3 (by decide)
       have q4 : vs 4 = _ := hRR 4 (by decide)
       have q5 : vs 5 = _ := hRR 5 (by decide)
       have q6 : vs 6 = _ := hRR 6 (by decide)
       have q7 : vs 7 = _ := hRR 7 (by decide)
       clear hRR hx
       simp only [putAll, List.take_succ_cons, List.take_zero, List.drop_succ_cons, List.drop_zero, Act.put, List.setIfInBounds_toArray, List.set_cons_zero, List.set_cons_succ, Nat.reduceAdd, Nat.zero_add]
       simp only [q0, q1, q2, q3, q4, q5, q6, q7]
       clear q0 q1 q2 q3 q4 q5 q6 q7 vs
      have L9 := hI_ (LS.out _ (L4.out.extN x9.ext))
      have R9 := hI_ (R4.out.extN x9.ext)
      have X9 := hI_ (X4.out.trans x9.ext.ofNon)
      go_wp2_with fail
      go_roundg (8 - (i + 1))
      case measure => have := HG.out; omega
      case rel => exact ⟨i + 1, _, r3, hlt, rfl, by go_num, hI_ (R9.out.ext L9.out.2 (fun q => HNE.out.1 q.symm)), hI_ L9.out.1, hI_ (HOK.out (by simp only [decide_eq_false_iff_not] at *; omega) (fun h => by first | exact absurd h k3 | exact ⟨rfl, rfl⟩ | simp)), hI_ (X9.out.trans (L9.out.2.mono (fun k _ q => .inl q)))⟩
     ·subst k3
      go_wp2
      go_returns
      exact ⟨false, cl, rfl, X4.out, L4.out, HCi.out⟩
   ·have hc1 : (cd == 0) = false := by simpa using hc0
    rcases CS.out with k1 | ⟨k1, k2⟩ | ⟨k1, k2, k3⟩ | ⟨k1, k3⟩
    ·go_wp2
     go_returns
     exact ⟨false, cl, rfl, X4.out, L4.out, HCi.out⟩
    ·go_wp2
     go_returns
     exact ⟨false, cl, rfl, X4.out, L4.out, HCi.out⟩
    ·have k4 : (st == 0) = false := by simpa using k3
     go_upto_region 9 with fail
     apply wp_region_rel_tail 8 (relR [Mo.is _, Mo.is _, Mo.is _, Mo.is _, Mo.is _, Mo.is _, Mo.is _, Mo.is _]) (by kernel_rfl) (by kernel_rfl) (by kernel_rfl) (by kernel_rfl) (by kernel_rfl) (by decide) (by kernel_rfl) (relR_mono _) (StepD.all ?st5) ?q5
     case st5 =>
      refine ⟨?_, ?_, ?_, ?_, ?_, ?_, ?_, ?_, trivial⟩
      ·intro a' w' hx hs hd
       obtain ⟨y, rfl⟩ := hx.ew
       have e0 : a'.tmps[0]?.getD undef = _ := hs 0 rfl
       simp only [aL, aS, aZ] at e0
       refine .inl ⟨rfl, ?_⟩
       clear hs hd hx
       go_simp
       exact ⟨Ext.refl _ _, rfl⟩
      ·intro a' w' hx hs hd
       obtain ⟨y, rfl⟩ := hx.ew
       have e5 : a'.tmps[5]?.getD undef = _ := hs 5 rfl
       simp only [aL, aS, aZ] at e5
       refine .inl ⟨rfl, ?_⟩
       clear hs hd hx
       go_simp
       exact ⟨Ext.refl _ _, rfl⟩
      ·intro a' w' hx hs hd
       obtain ⟨y, rfl⟩ := hx.ew
       have e6 : a'.tmps[6]?.getD undef = _ := hs 6 rfl
       simp only [aL, aS, aZ] at e6
       refine .inl ⟨rfl, ?_⟩
       clear hs hd hx
       go_simp
       exact ⟨Ext.refl _ _, rfl⟩
      ·intro a' w' hx hs hd
       obtain ⟨y, rfl⟩ := hx.ew
       have e7 : a'.tmps[7]?.getD undef = _ := hs 7 rfl
       simp only [aL, aS, aZ] at e7
       refine .inl ⟨rfl, ?_⟩
       clear hs hd hx
       go_simp
       exact ⟨Ext.refl _ _, rfl⟩
      ·intro a' w' hx hs hd
       obtain ⟨y, rfl⟩ := hx.ew
       have e46 : a'.tmps[46]?.getD undef = _ := hd 2 46 rfl rfl
       have e47 : a'.tmps[47]?.getD undef = _ := hd 3 47 rfl rfl
       refine .inl ⟨rfl, ?_⟩
       clear hs hd hx
       go_simp
       exact ⟨Ext.refl _ _, rfl⟩
      ·intro a' w' hx hs hd
       obtain ⟨y, rfl⟩ := hx.ew
       have e44 : a'.tmps[44]?.getD undef = _ := hd 0 44 rfl rfl
       refine .inl ⟨rfl, ?_⟩
       clear hs hd hx
       go_simp
       exact ⟨Ext.refl _ _, rfl⟩
      ·intro a' w' hx hs hd
       obtain ⟨y, rfl⟩ := hx.ew
       have e49 : a'.tmps[49]?.getD undef = _ := hd 5 49 rfl rfl
       refine .inl ⟨rfl, ?_⟩
       clear hs hd hx
       go_simp
       exact ⟨Ext.refl _ _, rfl⟩
      ·intro a' w' hx hs hd
       obtain ⟨y, rfl⟩ := hx.ew
       have e50 : a'.tmps[50]?.getD undef = _ := hd 6 50 rfl rfl
       have e45 : a'.tmps[45]?.getD undef = _ := hd 1 45 rfl rfl
       refine .inl ⟨rfl, ?_⟩
       clear hs hd hx
       go_simp
       exact ⟨Ext.refl _ _, rfl⟩
     case' q5 =>
      intro vs w' hx hRR
      obtain ⟨x9, rfl⟩ := hx.ew
      have q0 : vs 0 = _ := hRR 0 (by decide)
      have q1 : vs 1 = _ := hRR 1 (by decide)
      have q2 : vs 2 = _ := hRR 2 (by decide)
      have q3 : vs 3 = _ := hRR 3 (by decide)
      have q4 : vs 4 = _ := hRR 4 (by decide)
      have q5 : vs 5 = _ := hRR 5 (by decide)
      have q6 : vs 6 = _ := hRR 6 (by decide)
      have q7 : vs 7 = _ := hRR 7 (by decide)
      clear hRR hx
      simp only [putAll, List.take_succ_cons, List.take_zero, List.drop_succ_cons, List.drop_zero, Act.put, List.setIfInBounds_toArray, List.set_cons_zero, List.set_cons_succ, Nat.reduceAdd, Nat.zero_add]
      simp only [q0, q1, q2, q3, q4, q5, q6, q7]
      clear q0 q1 q2 q3 q4 q5 q6 q7 vs
     have L9 := hI_ (LS.out _ (L4.out.extN x9.ext))
     have R9 := hI_ (R4.out.extN x9.ext)
     have X9 := hI_ (X4.out.trans x9.ext.ofNon)
     go_wp2_with fail
     go_roundg (8 - (i + 1))
     case measure => have := HG.out; omega
     case rel => exact ⟨i + 1, _, r3, hlt, rfl, by go_num, hI_ (R9.out.ext L9.out.2 (fun q => HNE.out.1 q.symm)), hI_ L9.out.1, hI_ (HOK.out (by simp only [decide_eq_false_iff_not] at *; omega) (fun h => by first | exact absurd h k3 | exact ⟨rfl, rfl⟩ | simp)), hI_ (X9.out.trans (L9.out.2.mono (fun k _ q => .inl q)))⟩
    ·subst k3
     go_wp2
     go_returns
     exact ⟨false, cl, rfl, X4.out, L4.out, HCi.out⟩
  ·obtain rfl : i = 8 := by omega
   go_wp2_with fail
   refine (KE.out r _ HWi.out).mono ?_
   rintro e _ ⟨rfl, nd, rfl⟩
   go_wp2
   go_returns
   exact ⟨_, cl, rfl, XZ.out.drewN nd, LDi.out.extN ((Ext.refl _ _).drewN nd), HCi.out⟩
end Go.Proofs.YtfefeepljbfcdaaGreat
