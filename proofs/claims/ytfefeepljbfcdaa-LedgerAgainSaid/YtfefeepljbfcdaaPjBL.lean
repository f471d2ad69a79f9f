/- Joined texts: ReadCl. What each proves stands at its head; no conditions beside those in its theorems. -/
import Derived.Test.YtfefeepljbfcdaaPjAA
import Derived.Test.YtfefeepljbfcdaaPjAB
import Derived.Test.YtfefeepljbfcdaaPjAC
import Derived.Test.YtfefeepljbfcdaaPjAE
import Derived.Test.YtfefeepljbfcdaaPjAI
import Derived.Test.YtfefeepljbfcdaaPjAM
import Derived.Test.YtfefeepljbfcdaaPjAF
import Derived.Test.YtfefeepljbfcdaaPjAJ
import Derived.Test.YtfefeepljbfcdaaPjAK
import Derived.Test.YtfefeepljbfcdaaPjAN
import Derived.Test.YtfefeepljbfcdaaPjAR
import Derived.Test.YtfefeepljbfcdaaPjAS
import Derived.Test.YtfefeepljbfcdaaPjAG
import Derived.Test.YtfefeepljbfcdaaPjAL
import Derived.Test.YtfefeepljbfcdaaPjAO
import Derived.Test.YtfefeepljbfcdaaPjBC
import Derived.Test.YtfefeepljbfcdaaPjBD
import Derived.Test.YtfefeepljbfcdaaPjAD
import Derived.Test.YtfefeepljbfcdaaPjAP
import Derived.Test.YtfefeepljbfcdaaPjAT
import Derived.Test.YtfefeepljbfcdaaPjAU
import Derived.Test.YtfefeepljbfcdaaPjAV
import Derived.Test.YtfefeepljbfcdaaPjAW
import Derived.Test.YtfefeepljbfcdaaPjAX
import Derived.Test.YtfefeepljbfcdaaPjAY
import Derived.Test.YtfefeepljbfcdaaPjAZ
import Derived.Test.YtfefeepljbfcdaaPjBA
import Derived.Test.YtfefeepljbfcdaaPjBF
import Derived.Test.YtfefeepljbfcdaaPjBG
import Derived.Test.YtfefeepljbfcdaaPjAH
import Derived.Test.YtfefeepljbfcdaaPjBI
import Derived.Test.YtfefeepljbfcdaaPjBJ
import Derived.Test.YtfefeepljbfcdaaPjBK
/- Layer 12: the program reads a ledger's bytes: what the clients had. -/
namespace Go.Proofs.Ytfefeepljbfcdaa
open Go.RowKit Go.Lib F64
set_option linter.unusedSimpArgs false
set_option linter.unusedVariables false
attribute [local go_sem] run_store_float
attribute [local go_sem low] EW.cellN EW.frozN alloc_cell_or alloc_froz_or EW.cellF EW.frozF EW.cell1 EW.froz1
attribute [local go_sem] relAt relUpon relAtT relUponT
attribute [local go_sem low] EW.cellO EW.frozO
theorem RdG.noInt {w : World} {b : Nat} {r : Rd} (h : RdG w b r) : NoInts (One b) w := by
  obtain ⟨T, a, h1, h2, h3, h4⟩ := h.box
  intro k hk vs fr e
  have hk : k = b := hk
  subst hk
  rw [h4.h] at e; injection e with e; injection e with _ e _; revert e; decide
/-- What is left of the clients' bytes. -/
def rsC (cl : Nat → Cl) (i : Nat) : Rd := ⟨((List.range 8).drop i).flatMap (fun i => cliT (cl i)), false⟩
def clUp (g : Lg) (cl : Nat → Cl) (i : Nat) : Lg := ⟨g.epoch, g.mem, g.next, g.done, g.keys, fun j => if j < i then cl j else g.cl j⟩
theorem clUp_step (g : Lg) (cl : Nat → Cl) (i : Nat) : setCl (clUp g cl i) i (cl i) = clUp g cl (i + 1) := by
  unfold setCl clUp
  congr 1
  funext j
  by_cases h : j = i
  · subst h; simp
  · by_cases h2 : j < i
    · simp [h, h2, show j < i + 1 by omega]
    · simp [h, h2, show ¬ j < i + 1 by omega]
theorem clUp_0 (g : Lg) (cl : Nat → Cl) : clUp g cl 0 = g := by unfold clUp; simp
/-- A client that a ledger may have. -/
def ClOk (c : Cl) : Prop := 0 ≤ c.stamp ∧ c.stamp ≤ 1048576 ∧ 0 ≤ c.code ∧ c.code ≤ 8 ∧ c.real < 18446744073709551616 ∧ canonN c.real = c.real ∧ (c.stamp = 0 → c.code = 0 ∧ c.real = 0)
theorem rsC_step (cl : Nat → Cl) (h : ∀ i, ClOk (cl i)) {i : Nat} (hi : i < 8) : ((numV 4 (rsC cl i) : Nat) : Int) = (cl i).stamp ∧ textV (numR 4 (rsC cl i)) = resT (cl i).code (cl i).real ∧ textR (numR 4 (rsC cl i)) = rsC cl (i + 1) := by
  obtain ⟨s0, s1, c0, c1, x0, x1, -⟩ := h i
  have hlt : i < (List.range 8).length := by rw [List.length_range]; omega
  have e : ((List.range 8).drop i).flatMap (fun i => cliT (cl i)) = big4 (cl i).stamp ++ (big2 (resT (cl i).code (cl i).real).length ++ resT (cl i).code (cl i).real ++ ((List.range 8).drop (i + 1)).flatMap (fun i => cliT (cl i))) := by
    rw [List.drop_eq_getElem_cons hlt, List.flatMap_cons, List.getElem_range]
    unfold cliT textB
    simp only [List.append_assoc]
  obtain ⟨a1, a2⟩ := num4_of (n := (cl i).stamp) (by omega) (big2 (resT (cl i).code (cl i).real).length ++ resT (cl i).code (cl i).real ++ ((List.range 8).drop (i + 1)).flatMap (fun i => cliT (cl i)))
  obtain ⟨b1, b2⟩ := text_of (s := resT (cl i).code (cl i).real) (by rw [resT_len]; omega) (((List.range 8).drop (i + 1)).flatMap (fun i => cliT (cl i)))
  unfold rsC
  rw [e, a1, a2, b1, b2]
  exact ⟨by omega, rfl, rfl⟩
theorem ReadResult_of {cd : Int} {x : Nat} (h : 0 ≤ cd ∧ cd ≤ 8) (hx : canonN x = x) (h64 : x < 18446744073709551616) (w : World) : Calls Try.prog 96 #[.string (sB (resT cd x))] w fun e w' =>
    e = .returned (.tuple #[.agg #[.int .i64 cd, .float .f64 x], .int .i64 0]) ∧ Ext Non w w' := by
  obtain ⟨y1, y2, y3⟩ := readX_of h hx h64
  have := deeds_ReadResult_ok (resT cd x) (by rw [resT_len]; omega) y1 w
  rw [y2, y3] at this
  exact this
set_option maxHeartbeats 4000000 in
set_option maxRecDepth 100000 in
theorem readClients_ok (b m rb : Nat) (g : Lg) (cl : Nat → Cl) (hcl : ∀ i, ClOk (cl i)) (hbm : b ≠ rb) (hmr : m ≠ rb) (w : World) (h : LD w b m g) (hr : RdG w rb (rsC cl 0)) : Calls Try.prog 87 #[.pointer (some ⟨b, 0, none⟩), .pointer (some ⟨rb, 0, none⟩)] w fun e w' =>
    e = .returned (.bool true) ∧ Ext (fun k => k = b ∨ k = rb) w w' ∧ LD w' b m (clUp g cl 8) := by
  have HH := Go.Lib.hid h; have HR := Go.Lib.hid hr; have HC := Go.Lib.hid hcl
  have HNE := Go.Lib.hid (And.intro hbm hmr)
  have KS : Hid (∀ i w', i < 8 → RdG w' rb (rsC cl i) → Calls Try.prog 84 #[.pointer (some ⟨rb, 0, none⟩)] w' fun e w'' => e = .returned (.int .i64 (cl i).stamp) ∧ Ext (One rb) w' w'' ∧ RdG w'' rb (numR 4 (rsC cl i))) := Go.Lib.hid (fun i w' hi h => (rdg_Long rb _ w' h).mono fun e w'' ⟨h1, h2, h3⟩ => ⟨by rw [h1, (rsC_step cl hcl hi).1], h2, h3⟩)
  have KT : Hid (∀ i w', i < 8 → RdG w' rb (numR 4 (rsC cl i)) → Calls Try.prog 82 #[.pointer (some ⟨rb, 0, none⟩)] w' fun e w'' => e = .returned (.string (sB (resT (cl i).code (cl i).real))) ∧ Ext (One rb) w' w'' ∧ RdG w'' rb (rsC cl (i + 1))) := Go.Lib.hid (fun i w' hi h => (rdg_Text rb _ w' h).mono fun e w'' ⟨h1, h2, h3⟩ => by
    obtain ⟨-, z2, z3⟩ := rsC_step cl hcl hi; rw [z2] at h1; rw [z3] at h3; exact ⟨h1, h2, h3⟩)
  have KX : Hid (∀ i w', Calls Try.prog 96 #[.string (sB (resT (cl i).code (cl i).real))] w' fun e w'' => e = .returned (.tuple #[.agg #[.int .i64 (cl i).code, .float .f64 (cl i).real], .int .i64 0]) ∧ Ext Non w' w'') := Go.Lib.hid (fun i w' => ReadResult_of ⟨(hcl i).2.2.1, (hcl i).2.2.2.1⟩ (hcl i).2.2.2.2.2.1 (hcl i).2.2.2.2.1 w')
  have KB : Hid (∀ i w', Calls Try.prog 48 #[.float .f64 (cl i).real] w' fun e w'' => e = .returned (.int .u64 ((cl i).real : Nat)) ∧ w' = w'') := Go.Lib.hid (fun i w' => by have := reals_Bits (cl i).real w'; rw [(hcl i).2.2.2.2.2.1] at this; exact this)
  have KE : Hid (∀ w', RdG w' rb (rsC cl 8) → Calls Try.prog 97 #[.pointer (some ⟨rb, 0, none⟩)] w' fun e w'' => e = .returned (.int .i64 0) ∧ ∃ n, w'' = w'.drewN n) := Go.Lib.hid (fun w' h => rdg_End rb _ w' h)
  have HRL := Go.Lib.hid hr.lt
  clear h hr hcl hbm hmr
  go_enter Try.func87, Try.ntmps87
  go_wp2_with fail
  go_loopg [5, 6, 7, 8, 9, 10] 8 (fun n v5 v6 v7 v8 v9 iv wr => ∃ (i : Nat), i ≤ 8 ∧ n = 8 - i ∧ iv = .int .i64 i ∧ Hid (RdG wr rb (rsC cl i)) ∧ Hid (LD wr b m (clUp g cl i)) ∧ Hid (Ext (fun k => k = b ∨ k = rb) w wr))
  case atStart =>
    exact ⟨0, by omega, rfl, rfl, HR, Go.Lib.hid (by rw [clUp_0]; exact HH.out), Go.Lib.hid (Ext.refl _ _)⟩
  case round =>
    obtain ⟨i, hi, hn, rfl, HWi, LDi, XZ⟩ := hrel
    have HG := Go.Lib.hid hn; clear hn
    by_cases hlt : i < 8
    · go_wp2_with fail
      refine (KS.out i _ hlt HWi.out).mono ?_
      rintro e w2 ⟨rfl, x2, hR⟩
      have L2 := Go.Lib.hid (LDi.out.ext x2 (fun q => HNE.out.1 q) (fun q => HNE.out.2 q) HWi.out.noInt)
      have X2 := Go.Lib.hid (XZ.out.trans (x2.mono (fun k _ q => .inr q)))
      have R2 := Go.Lib.hid hR
      clear x2 hR HWi LDi XZ
      go_wp2_with fail
      refine (KT.out i _ hlt R2.out).mono ?_
      rintro e w3 ⟨rfl, x2, hR⟩
      have L3 := Go.Lib.hid (L2.out.ext x2 (fun q => HNE.out.1 q) (fun q => HNE.out.2 q) R2.out.noInt)
      have X3 := Go.Lib.hid (X2.out.trans (x2.mono (fun k _ q => .inr q)))
      have R3 := Go.Lib.hid hR
      clear x2 hR R2 L2 X2
      go_wp2_with fail
      refine (KX.out i _).mono ?_
      rintro e w4 ⟨rfl, x2⟩
      have KBi := Go.Lib.hid (KB.out i)
      have LS : Hid (∀ w', LD w' b m (clUp g cl i) → LD (clPut w' b i (cl i)) b m (clUp g cl (i + 1)) ∧ Ext (One b) w' (clPut w' b i (cl i))) := Go.Lib.hid (fun w' h => by have := cl_put h hlt (cl i); rw [clUp_step] at this; exact this)
      obtain ⟨s0, s1, c0, c1, x0, x1, hz⟩ := HC.out i
      unfold clPut at LS
      generalize (cl i).stamp = st at *
      generalize (cl i).code = cd at *
      generalize (cl i).real = xr at *
      have HZ := Go.Lib.hid hz
      clear hz x1
      have x4 : Ext Non w3 (w4.alloc (.cells #[.int .i64 cd, .float .f64 xr] 43)) := x2.alloc _
      have BQ := Go.Lib.hid (Bx.newAt w4 [.int .i64 cd, .float .f64 xr] 43 _ rfl)
      have L4 := Go.Lib.hid (L3.out.extN x4)
      have X4 := Go.Lib.hid (X3.out.trans x4.ofNon)
      have R4 := Go.Lib.hid (R3.out.extN x4)
      have HKB : Hid (b < w4.heap.size) := Go.Lib.hid (Nat.lt_of_lt_of_le L3.out.lt x2.size)
      clear x2 x4 L3 X3 R3
      go_upto_region 6 with fail
      obtain ⟨kq, hkq⟩ : ∃ kq, kq = w4.heap.size := ⟨_, rfl⟩
      rw [← hkq] at BQ HKB ⊢
      clear hkq
      generalize w4.alloc (.cells #[.int .i64 cd, .float .f64 xr] 43) = w5 at *
      have d0 : w5.cell? ⟨kq, 0, none⟩ = some (.int .i64 cd) := BQ.out.cell rfl
      have d1 : w5.cell? ⟨kq, 1, none⟩ = some (.float .f64 xr) := BQ.out.cell rfl
      have ds : decide (1048576 < st) = false := decide_eq_false (by omega)
      obtain ⟨v0, v1, v2, z0, z1, z2⟩ := cl_cells L4.out hlt
      clear s0 s1 c0 c1 x0
      by_cases hs0 : st = 0
      · obtain ⟨hc0, hx0⟩ := HZ.out hs0
        subst hs0
        subst hc0
        subst hx0
        go_wp2_with fail
        refine (KBi.out _).mono ?_
        rintro e _ ⟨rfl, rfl⟩
        go_upto_region 9 with fail
        apply wp_region_rel_tail 8 (relR [Mo.is _, Mo.is _, Mo.is _, Mo.is _, Mo.is _, Mo.is _, Mo.is _, Mo.is _]) (by kernel_rfl) (by kernel_rfl) (by kernel_rfl) (by kernel_rfl) (by kernel_rfl) (by decide) (by kernel_rfl) (relR_mono _) (StepD.all ?st6) ?q6
        case st6 =>
          refine ⟨?_, ?_, ?_, ?_, ?_, ?_, ?_, ?_, trivial⟩
          · intro a' w' hx hs hd
            obtain ⟨y, rfl⟩ := hx.ew
            have e0 : a'.tmps[0]?.getD undef = _ := hs 0 rfl
            simp only [List.getElem?_toArray, List.getElem?_cons_succ, List.getElem?_cons_zero, Option.getD_some, Array.getElem?_eq_some_iff] at e0
            refine .inl ⟨rfl, ?_⟩
            clear hs hd hx
            go_simp
            exact ⟨Ext.refl _ _, rfl⟩
          · intro a' w' hx hs hd
            obtain ⟨y, rfl⟩ := hx.ew
            have e5 : a'.tmps[5]?.getD undef = _ := hs 5 rfl
            simp only [List.getElem?_toArray, List.getElem?_cons_succ, List.getElem?_cons_zero, Option.getD_some, Array.getElem?_eq_some_iff] at e5
            refine .inl ⟨rfl, ?_⟩
            clear hs hd hx
            go_simp
            exact ⟨Ext.refl _ _, rfl⟩
          · intro a' w' hx hs hd
            obtain ⟨y, rfl⟩ := hx.ew
            have e6 : a'.tmps[6]?.getD undef = _ := hs 6 rfl
            simp only [List.getElem?_toArray, List.getElem?_cons_succ, List.getElem?_cons_zero, Option.getD_some, Array.getElem?_eq_some_iff] at e6
            refine .inl ⟨rfl, ?_⟩
            clear hs hd hx
            go_simp
            exact ⟨Ext.refl _ _, rfl⟩
          · intro a' w' hx hs hd
            obtain ⟨y, rfl⟩ := hx.ew
            have e7 : a'.tmps[7]?.getD undef = _ := hs 7 rfl
            simp only [List.getElem?_toArray, List.getElem?_cons_succ, List.getElem?_cons_zero, Option.getD_some, Array.getElem?_eq_some_iff] at e7
            refine .inl ⟨rfl, ?_⟩
            clear hs hd hx
            go_simp
            exact ⟨Ext.refl _ _, rfl⟩
          · intro a' w' hx hs hd
            obtain ⟨y, rfl⟩ := hx.ew
            have e46 : a'.tmps[46]?.getD undef = _ := hd 2 46 rfl rfl
            have e47 : a'.tmps[47]?.getD undef = _ := hd 3 47 rfl rfl
            refine .inl ⟨rfl, ?_⟩
            clear hs hd hx
            go_simp
            exact ⟨Ext.refl _ _, rfl⟩
          · intro a' w' hx hs hd
            obtain ⟨y, rfl⟩ := hx.ew
            have e44 : a'.tmps[44]?.getD undef = _ := hd 0 44 rfl rfl
            refine .inl ⟨rfl, ?_⟩
            clear hs hd hx
            go_simp
            exact ⟨Ext.refl _ _, rfl⟩
          · intro a' w' hx hs hd
            obtain ⟨y, rfl⟩ := hx.ew
            have e49 : a'.tmps[49]?.getD undef = _ := hd 5 49 rfl rfl
            refine .inl ⟨rfl, ?_⟩
            clear hs hd hx
            go_simp
            exact ⟨Ext.refl _ _, rfl⟩
          · intro a' w' hx hs hd
            obtain ⟨y, rfl⟩ := hx.ew
            have e50 : a'.tmps[50]?.getD undef = _ := hd 6 50 rfl rfl
            have e45 : a'.tmps[45]?.getD undef = _ := hd 1 45 rfl rfl
            refine .inl ⟨rfl, ?_⟩
            clear hs hd hx
            go_simp
            exact ⟨Ext.refl _ _, rfl⟩
        case' q6 =>
          intro vs w' hx hRR
          obtain ⟨x9, rfl⟩ := hx.ew
          have q0 : vs 0 = _ := hRR 0 (by decide)
          have q1 : vs 1 = _ := hRR 1 (by decide)
          have q2 : vs 2 = _ := hRR 2 (by decide)
          have q3 : vs 3 = _ := hRR 3 (by decide)
          have q4 : vs 4 = _ := hRR 4 (by decide)
          have q5 : vs 5 = _ := hRR 5 (by decide)
          have q6 : vs 6 = _ := hRR 6 (by decide)
          have q7 : vs 7 = _ := hRR 7 (by decide)
          clear hRR hx
          simp only [putAll, List.take_succ_cons, List.take_zero, List.drop_succ_cons, List.drop_zero, Act.put, List.setIfInBounds_toArray, List.set_cons_zero, List.set_cons_succ, Nat.reduceAdd, Nat.zero_add]
          simp only [q0, q1, q2, q3, q4, q5, q6, q7]
          clear q0 q1 q2 q3 q4 q5 q6 q7 vs
        have L9 := Go.Lib.hid (LS.out _ (L4.out.extN x9.ext))
        have R9 := Go.Lib.hid (R4.out.extN x9.ext)
        have X9 := Go.Lib.hid (X4.out.trans x9.ext.ofNon)
        go_wp2_with fail
        go_roundg (8 - (i + 1))
        case measure => have := HG.out; omega
        case rel => exact ⟨i + 1, hlt, rfl, by go_num, Go.Lib.hid (R9.out.ext L9.out.2 (fun q => HNE.out.1 q.symm)), Go.Lib.hid L9.out.1, Go.Lib.hid (X9.out.trans (L9.out.2.mono (fun k _ q => .inl q)))⟩
      · have hs1 : (st == 0) = false := by simpa using hs0
        by_cases hc0 : cd = 0
        · subst hc0
          have hx1 : ((xr : Int) == 0) = decide (xr = 0) := by by_cases h : xr = 0 <;> simp [h]
          clear hs0
          go_wp2_with fail
          refine (KBi.out _).mono ?_
          rintro e _ ⟨rfl, rfl⟩
          go_upto_region 9 with fail
          apply wp_region_rel_tail 8 (relR [Mo.is _, Mo.is _, Mo.is _, Mo.is _, Mo.is _, Mo.is _, Mo.is _, Mo.is _]) (by kernel_rfl) (by kernel_rfl) (by kernel_rfl) (by kernel_rfl) (by kernel_rfl) (by decide) (by kernel_rfl) (relR_mono _) (StepD.all ?st7) ?q7
          case st7 =>
            refine ⟨?_, ?_, ?_, ?_, ?_, ?_, ?_, ?_, trivial⟩
            · intro a' w' hx hs hd
              obtain ⟨y, rfl⟩ := hx.ew
              have e0 : a'.tmps[0]?.getD undef = _ := hs 0 rfl
              simp only [List.getElem?_toArray, List.getElem?_cons_succ, List.getElem?_cons_zero, Option.getD_some, Array.getElem?_eq_some_iff] at e0
              refine .inl ⟨rfl, ?_⟩
              clear hs hd hx
              go_simp
              exact ⟨Ext.refl _ _, rfl⟩
            · intro a' w' hx hs hd
              obtain ⟨y, rfl⟩ := hx.ew
              have e5 : a'.tmps[5]?.getD undef = _ := hs 5 rfl
              simp only [List.getElem?_toArray, List.getElem?_cons_succ, List.getElem?_cons_zero, Option.getD_some, Array.getElem?_eq_some_iff] at e5
              refine .inl ⟨rfl, ?_⟩
              clear hs hd hx
              go_simp
              exact ⟨Ext.refl _ _, rfl⟩
            · intro a' w' hx hs hd
              obtain ⟨y, rfl⟩ := hx.ew
              have e6 : a'.tmps[6]?.getD undef = _ := hs 6 rfl
              simp only [List.getElem?_toArray, List.getElem?_cons_succ, List.getElem?_cons_zero, Option.getD_some, Array.getElem?_eq_some_iff] at e6
              refine .inl ⟨rfl, ?_⟩
              clear hs hd hx
              go_simp
              exact ⟨Ext.refl _ _, rfl⟩
            · intro a' w' hx hs hd
              obtain ⟨y, rfl⟩ := hx.ew
              have e7 : a'.tmps[7]?.getD undef = _ := hs 7 rfl
              simp only [List.getElem?_toArray, List.getElem?_cons_succ, List.getElem?_cons_zero, Option.getD_some, Array.getElem?_eq_some_iff] at e7
              refine .inl ⟨rfl, ?_⟩
              clear hs hd hx
              go_simp
              exact ⟨Ext.refl _ _, rfl⟩
            · intro a' w' hx hs hd
              obtain ⟨y, rfl⟩ := hx.ew
              have e46 : a'.tmps[46]?.getD undef = _ := hd 2 46 rfl rfl
              have e47 : a'.tmps[47]?.getD undef = _ := hd 3 47 rfl rfl
              refine .inl ⟨rfl, ?_⟩
              clear hs hd hx
              go_simp
              exact ⟨Ext.refl _ _, rfl⟩
            · intro a' w' hx hs hd
              obtain ⟨y, rfl⟩ := hx.ew
              have e44 : a'.tmps[44]?.getD undef = _ := hd 0 44 rfl rfl
              refine .inl ⟨rfl, ?_⟩
              clear hs hd hx
              go_simp
              exact ⟨Ext.refl _ _, rfl⟩
            · intro a' w' hx hs hd
              obtain ⟨y, rfl⟩ := hx.ew
              have e49 : a'.tmps[49]?.getD undef = _ := hd 5 49 rfl rfl
              refine .inl ⟨rfl, ?_⟩
              clear hs hd hx
              go_simp
              exact ⟨Ext.refl _ _, rfl⟩
            · intro a' w' hx hs hd
              obtain ⟨y, rfl⟩ := hx.ew
              have e50 : a'.tmps[50]?.getD undef = _ := hd 6 50 rfl rfl
              have e45 : a'.tmps[45]?.getD undef = _ := hd 1 45 rfl rfl
              refine .inl ⟨rfl, ?_⟩
              clear hs hd hx
              go_simp
              exact ⟨Ext.refl _ _, rfl⟩
          case' q7 =>
            intro vs w' hx hRR
            obtain ⟨x9, rfl⟩ := hx.ew
            have q0 : vs 0 = _ := hRR 0 (by decide)
            have q1 : vs 1 = _ := hRR 1 (by decide)
            have q2 : vs 2 = _ := hRR 2 (by decide)
            have q3 : vs 3 = _ := hRR 3 (by decide)
            have q4 : vs 4 = _ := hRR 4 (by decide)
            have q5 : vs 5 = _ := hRR 5 (by decide)
            have q6 : vs 6 = _ := hRR 6 (by decide)
            have q7 : vs 7 = _ := hRR 7 (by decide)
            clear hRR hx
            simp only [putAll, List.take_succ_cons, List.take_zero, List.drop_succ_cons, List.drop_zero, Act.put, List.setIfInBounds_toArray, List.set_cons_zero, List.set_cons_succ, Nat.reduceAdd, Nat.zero_add]
            simp only [q0, q1, q2, q3, q4, q5, q6, q7]
            clear q0 q1 q2 q3 q4 q5 q6 q7 vs
          have L9 := Go.Lib.hid (LS.out _ (L4.out.extN x9.ext))
          have R9 := Go.Lib.hid (R4.out.extN x9.ext)
          have X9 := Go.Lib.hid (X4.out.trans x9.ext.ofNon)
          go_wp2_with fail
          go_roundg (8 - (i + 1))
          case measure => have := HG.out; omega
          case rel => exact ⟨i + 1, hlt, rfl, by go_num, Go.Lib.hid (R9.out.ext L9.out.2 (fun q => HNE.out.1 q.symm)), Go.Lib.hid L9.out.1, Go.Lib.hid (X9.out.trans (L9.out.2.mono (fun k _ q => .inl q)))⟩
        · have hc1 : (cd == 0) = false := by simpa using hc0
          clear hs0 hc0
          go_upto_region 9 with fail
          apply wp_region_rel_tail 8 (relR [Mo.is _, Mo.is _, Mo.is _, Mo.is _, Mo.is _, Mo.is _, Mo.is _, Mo.is _]) (by kernel_rfl) (by kernel_rfl) (by kernel_rfl) (by kernel_rfl) (by kernel_rfl) (by decide) (by kernel_rfl) (relR_mono _) (StepD.all ?st8) ?q8
          case st8 =>
            refine ⟨?_, ?_, ?_, ?_, ?_, ?_, ?_, ?_, trivial⟩
            · intro a' w' hx hs hd
              obtain ⟨y, rfl⟩ := hx.ew
              have e0 : a'.tmps[0]?.getD undef = _ := hs 0 rfl
              simp only [List.getElem?_toArray, List.getElem?_cons_succ, List.getElem?_cons_zero, Option.getD_some, Array.getElem?_eq_some_iff] at e0
              refine .inl ⟨rfl, ?_⟩
              clear hs hd hx
              go_simp
              exact ⟨Ext.refl _ _, rfl⟩
            · intro a' w' hx hs hd
              obtain ⟨y, rfl⟩ := hx.ew
              have e5 : a'.tmps[5]?.getD undef = _ := hs 5 rfl
              simp only [List.getElem?_toArray, List.getElem?_cons_succ, List.getElem?_cons_zero, Option.getD_some, Array.getElem?_eq_some_iff] at e5
              refine .inl ⟨rfl, ?_⟩
              clear hs hd hx
              go_simp
              exact ⟨Ext.refl _ _, rfl⟩
            · intro a' w' hx hs hd
              obtain ⟨y, rfl⟩ := hx.ew
              have e6 : a'.tmps[6]?.getD undef = _ := hs 6 rfl
              simp only [List.getElem?_toArray, List.getElem?_cons_succ, List.getElem?_cons_zero, Option.getD_some, Array.getElem?_eq_some_iff] at e6
              refine .inl ⟨rfl, ?_⟩
              clear hs hd hx
              go_simp
              exact ⟨Ext.refl _ _, rfl⟩
            · intro a' w' hx hs hd
              obtain ⟨y, rfl⟩ := hx.ew
              have e7 : a'.tmps[7]?.getD undef = _ := hs 7 rfl
              simp only [List.getElem?_toArray, List.getElem?_cons_succ, List.getElem?_cons_zero, Option.getD_some, Array.getElem?_eq_some_iff] at e7
              refine .inl ⟨rfl, ?_⟩
              clear hs hd hx
              go_simp
              exact ⟨Ext.refl _ _, rfl⟩
            · intro a' w' hx hs hd
              obtain ⟨y, rfl⟩ := hx.ew
              have e46 : a'.tmps[46]?.getD undef = _ := hd 2 46 rfl rfl
              have e47 : a'.tmps[47]?.getD undef = _ := hd 3 47 rfl rfl
              refine .inl ⟨rfl, ?_⟩
              clear hs hd hx
              go_simp
              exact ⟨Ext.refl _ _, rfl⟩
            · intro a' w' hx hs hd
              obtain ⟨y, rfl⟩ := hx.ew
              have e44 : a'.tmps[44]?.getD undef = _ := hd 0 44 rfl rfl
              refine .inl ⟨rfl, ?_⟩
              clear hs hd hx
              go_simp
              exact ⟨Ext.refl _ _, rfl⟩
            · intro a' w' hx hs hd
              obtain ⟨y, rfl⟩ := hx.ew
              have e49 : a'.tmps[49]?.getD undef = _ := hd 5 49 rfl rfl
              refine .inl ⟨rfl, ?_⟩
              clear hs hd hx
              go_simp
              exact ⟨Ext.refl _ _, rfl⟩
            · intro a' w' hx hs hd
              obtain ⟨y, rfl⟩ := hx.ew
              have e50 : a'.tmps[50]?.getD undef = _ := hd 6 50 rfl rfl
              have e45 : a'.tmps[45]?.getD undef = _ := hd 1 45 rfl rfl
              refine .inl ⟨rfl, ?_⟩
              clear hs hd hx
              go_simp
              exact ⟨Ext.refl _ _, rfl⟩
          case' q8 =>
            intro vs w' hx hRR
            obtain ⟨x9, rfl⟩ := hx.ew
            have q0 : vs 0 = _ := hRR 0 (by decide)
            have q1 : vs 1 = _ := hRR 1 (by decide)
            have q2 : vs 2 = _ := hRR 2 (by decide)
            have q3 : vs 3 = _ := hRR 3 (by decide)
            have q4 : vs 4 = _ := hRR 4 (by decide)
            have q5 : vs 5 = _ := hRR 5 (by decide)
            have q6 : vs 6 = _ := hRR 6 (by decide)
            have q7 : vs 7 = _ := hRR 7 (by decide)
            clear hRR hx
            simp only [putAll, List.take_succ_cons, List.take_zero, List.drop_succ_cons, List.drop_zero, Act.put, List.setIfInBounds_toArray, List.set_cons_zero, List.set_cons_succ, Nat.reduceAdd, Nat.zero_add]
            simp only [q0, q1, q2, q3, q4, q5, q6, q7]
            clear q0 q1 q2 q3 q4 q5 q6 q7 vs
          have L9 := Go.Lib.hid (LS.out _ (L4.out.extN x9.ext))
          have R9 := Go.Lib.hid (R4.out.extN x9.ext)
          have X9 := Go.Lib.hid (X4.out.trans x9.ext.ofNon)
          go_wp2_with fail
          go_roundg (8 - (i + 1))
          case measure => have := HG.out; omega
          case rel => exact ⟨i + 1, hlt, rfl, by go_num, Go.Lib.hid (R9.out.ext L9.out.2 (fun q => HNE.out.1 q.symm)), Go.Lib.hid L9.out.1, Go.Lib.hid (X9.out.trans (L9.out.2.mono (fun k _ q => .inl q)))⟩
    · obtain rfl : i = 8 := by omega
      go_wp2_with fail
      refine (KE.out _ HWi.out).mono ?_
      rintro e _ ⟨rfl, nd, rfl⟩
      go_wp2
      go_returns
      exact ⟨rfl, XZ.out.drewN nd, LDi.out.extN ((Ext.refl _ _).drewN nd)⟩
end Go.Proofs.Ytfefeepljbfcdaa
