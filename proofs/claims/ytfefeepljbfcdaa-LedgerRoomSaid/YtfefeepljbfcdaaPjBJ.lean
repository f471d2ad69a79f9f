/- Joined texts: May12. What each proves stands at its head; no conditions beside those in its theorems. -/
import Derived.Deep.MidRow
import Derived.Deep.WholeRow
import Derived.Shelf.SlMaps.Clone
import Derived.Test.YtfefeepljbfcdaaPjAA
import Derived.Test.YtfefeepljbfcdaaPjAB
import Derived.Test.YtfefeepljbfcdaaPjAC
import Derived.Test.YtfefeepljbfcdaaPjAE
import Derived.Test.YtfefeepljbfcdaaPjAI
import Derived.Test.YtfefeepljbfcdaaPjAM
import Derived.Test.YtfefeepljbfcdaaPjAF
import Derived.Test.YtfefeepljbfcdaaPjAJ
import Derived.Test.YtfefeepljbfcdaaPjAK
import Derived.Test.YtfefeepljbfcdaaPjAN
import Derived.Test.YtfefeepljbfcdaaPjAR
import Derived.Test.YtfefeepljbfcdaaPjAS
import Derived.Test.YtfefeepljbfcdaaPjAD
import Derived.Test.YtfefeepljbfcdaaPjAT
import Derived.Test.YtfefeepljbfcdaaPjAO
import Derived.Test.YtfefeepljbfcdaaPjAP
import Derived.Test.YtfefeepljbfcdaaPjAU
import Derived.Test.YtfefeepljbfcdaaPjAV
import Derived.Test.YtfefeepljbfcdaaPjAW
import Derived.Test.YtfefeepljbfcdaaPjAX
import Derived.Test.YtfefeepljbfcdaaPjAY
import Derived.Test.YtfefeepljbfcdaaPjAZ
import Derived.Test.YtfefeepljbfcdaaPjBA
import Derived.Test.YtfefeepljbfcdaaPjBF
import Derived.Test.YtfefeepljbfcdaaPjAL
import Derived.Test.YtfefeepljbfcdaaPjBG
import Derived.Test.YtfefeepljbfcdaaPjBH
import Derived.Test.YtfefeepljbfcdaaPjAG
import Derived.Test.YtfefeepljbfcdaaPjBD
import Derived.Test.YtfefeepljbfcdaaPjAH
import Derived.Test.YtfefeepljbfcdaaPjBI
import Derived.Test.YtfefeepljbfcdaaPjAQ
import Derived.Test.YtfefeepljbfcdaaPjBC
import Derived.Test.YtfefeepljbfcdaaPjBE
/- The reference of layer 12: may there be such a ledger (of one that may be). -/
namespace Go.Proofs.Ytfefeepljbfcdaa
open Go.RowKit Go.Lib F64
set_option linter.unusedSimpArgs false
set_option linter.unusedVariables false
attribute [local go_sem] run_store_float
attribute [local go_sem low] EW.cellN EW.frozN alloc_cell_or alloc_froz_or EW.cellF EW.frozF EW.cell1 EW.froz1
attribute [local go_sem] relAt relUpon
/-- A ledger of the reference whose items stand in any order. -/
structure RLo (w : World) (b sb rb : Nat) (g : Lg) : Prop where
  ex : ∃ a1 c1 a2 c2 v, Bx w b (lrow g a1 c1 a2 c2 v sb rb) 71 ∧ Ints w a1 c1 g.mem ∧ Ints w a2 c2 g.next ∧ avT sb w a1 ∧ avT sb w a2 ∧ w.ownsRow 0 111 2 v g.keys.length (g.keys.flatMap itC)
  st : Bx w sb (stRow g.cl) 3
  rs : Bx w rb (rsRow g.cl) 43
theorem RLo.extN {w w' : World} {b sb rb : Nat} {g : Lg} (h : RLo w b sb rb g) (x : Ext Non w w') : RLo w' b sb rb g := by
  obtain ⟨a1, c1, a2, c2, v, h1, h2, h3, h4, h5, h6⟩ := h.ex
  exact ⟨⟨a1, c1, a2, c2, v, h1.extN x, h2.extN x, h3.extN x, h4.extN x, h5.extN x, ownR_extN h6 x⟩, h.st.extN x, h.rs.extN x⟩
theorem RLo.rl {w : World} {b sb rb : Nat} {g : Lg} (h : RLo w b sb rb g) (hr : RiseK g.keys) : RL w b sb rb g := by
  obtain ⟨a1, c1, a2, c2, v, h1, h2, h3, h4, h5, h6⟩ := h.ex
  exact ⟨⟨a1, c1, a2, c2, v, h1, h2, h3, h4, h5, by rw [sortK_of hr (List.Perm.refl _)]; exact h6⟩, h.st, h.rs, hr.nd⟩
theorem RLo.row {w : World} {b sb rb : Nat} {g : Lg} (h : RLo w b sb rb g) : ∃ ia ic, w.cell? ⟨b, 4, none⟩ = some (.slice ia g.keys.length ic) ∧ g.keys.length ≤ ic ∧ ic ≤ 9223372036854775807 ∧ ∀ j (hj : j < g.keys.length), ∃ gi, ia = some ⟨gi, 0, none⟩ ∧ gi < w.heap.size ∧ w.cell? ⟨gi, j * 2, none⟩ = some (.string (g.keys)[j].1) ∧ w.cell? ⟨gi, j * 2 + 1, none⟩ = some (.int .u64 (g.keys)[j].2) := by
  obtain ⟨a1, c1, a2, c2, v, hb, -, -, -, -, hv⟩ := h.ex
  obtain ⟨ia, ic, rfl, h1, h2, hc⟩ := ownA_rows g.keys itC (fun _ => rfl) hv
  refine ⟨ia, ic, hb.cell rfl, h1, h2, fun j hj => ?_⟩
  obtain ⟨gi, e, hlt, hcell⟩ := hc j hj
  exact ⟨gi, e, hlt, by simpa using hcell 0 _ rfl, by simpa using hcell 1 _ rfl⟩
theorem may_parts {g : Lg} (h : mayB g = true) : confB g.epoch g.mem = true ∧ membersB g.next = true ∧ 4 * g.epoch ≤ g.done ∧ g.done ≤ 4 * (g.epoch + 1) ∧ g.keys.length ≤ 16 ∧ (∀ i, i < g.keys.length → itemOk g.keys i = true) ∧ ∀ i, i < 8 → cliOk (g.cl i) = true := by
  unfold mayB at h
  simp only [Bool.and_eq_true, decide_eq_true_eq, List.all_eq_true, List.mem_range] at h
  obtain ⟨⟨⟨⟨⟨⟨h1, h2⟩, h3⟩, h4⟩, h5⟩, h6⟩, h7⟩ := h
  exact ⟨h1, h2, h3, h4, h5, h6, h7⟩
set_option maxHeartbeats 4000000 in
set_option maxRecDepth 100000 in
theorem ref12_may (b sb rb : Nat) (g : Lg) (hmay : mayB g = true) (w : World) (h : RLo w b sb rb g) : Calls Try.prog 57 #[.pointer (some ⟨b, 0, none⟩)] w fun e w' => e = .returned (.bool true) ∧ Ext Non w w' := by
  obtain ⟨m1, m2, m3, m4, m5, m6, m7⟩ := may_parts hmay
  obtain ⟨a1, c1, a2, c2, v, hb, i1, i2, -, -, -⟩ := h.ex
  obtain ⟨ia, ic, hv, hl1, hl2, hit⟩ := h.row
  have HIT := Go.Lib.hid hit; have M6 := Go.Lib.hid m6; have M7 := Go.Lib.hid m7
  have HST := Go.Lib.hid (fun (i : Nat) (hi : i < 8) => h.st.cell (st_get g.cl hi))
  have HRS := Go.Lib.hid (fun (i : Nat) (hi : i < 8) => And.intro (h.rs.cell (rs_get g.cl hi).1) (h.rs.cell (rs_get g.cl hi).2))
  have q0 : w.cell? ⟨b, 0, none⟩ = some (.int .i64 g.epoch) := hb.cell rfl
  have q1 : w.cell? ⟨b, 1, none⟩ = some (.slice a1 g.mem.length c1) := hb.cell rfl
  have q2 : w.cell? ⟨b, 2, none⟩ = some (.slice a2 g.next.length c2) := hb.cell rfl
  have q3 : w.cell? ⟨b, 3, none⟩ = some (.int .i64 g.done) := hb.cell rfl
  have q5 : w.cell? ⟨b, 5, none⟩ = some (.slice (some ⟨sb, 0, none⟩) 9 9) := hb.cell rfl
  have q6 : w.cell? ⟨b, 6, none⟩ = some (.slice (some ⟨rb, 0, none⟩) 9 9) := hb.cell rfl
  have KR := Go.Lib.hid (fun w' (x : Ext Non w w') => ref_Right07 g.epoch a1 c1 g.mem w' (i1.extN x))
  have KM := Go.Lib.hid (fun w' (x : Ext Non w w') => ref_Members a2 c2 g.next w' (i2.extN x))
  rw [m1] at KR
  rw [m2] at KM
  have hep : 0 ≤ g.epoch ∧ g.epoch ≤ 60 := by unfold confB at m1; simp only [Bool.and_eq_true, decide_eq_true_eq] at m1; exact m1.1
  clear hmay h hb i1 i2 hit m1 m2 m6 m7
  generalize g.epoch = ge at *
  generalize g.done = gd at *
  generalize g.mem = gm at *
  generalize g.next = gn at *
  have w1 : IntKind.i64.wrap (4 * ge) = 4 * ge := IntWalk.i64_in _ (by omega)
  have w2 : IntKind.i64.wrap (ge + 1) = ge + 1 := IntWalk.i64_in _ (by omega)
  have w3 : IntKind.i64.wrap (4 * (ge + 1)) = 4 * (ge + 1) := IntWalk.i64_in _ (by omega)
  have d1 : decide (gd < 4 * ge) = false := decide_eq_false (by omega)
  have d2 : decide (4 * (ge + 1) < gd) = false := decide_eq_false (by omega)
  have d3 : decide ((16 : Int) < (g.keys.length : Int)) = false := decide_eq_false (by omega)
  have d4 : decide (16 < g.keys.length) = false := decide_eq_false (by omega)
  obtain ⟨L, hL⟩ : ∃ L, L = g.keys.length := ⟨_, rfl⟩
  rw [← hL] at hv hl1 m5 d3 d4
  have HL := Go.Lib.hid hL
  clear hL
  go_enter Try.func57, Try.ntmps57
  go_upto_region 1 with fail
  (refine wp_region_ext_lit (by kernel_rfl) (by kernel_rfl) ?_)
  ((try simp only [Bool.not_true, Bool.not_false, Bool.or_false, Bool.or_true, Bool.false_or, Bool.true_or, Bool.and_true, Bool.true_and, Bool.and_false, Bool.false_and]); (repeat (go_big_quiet_step ((first | (go_at_call 77; exact Calls.ext_of (KR.out _ (by (repeat (first | with_reducible (first | exact Ext.refl _ _ | assumption | refine Ext.upN ?_ | refine Ext.alloc ?_ _ | refine Ext.drew ?_ | refine Ext.drewN ?_ _ | refine Ext.up1N (by first | omega | simp) ?_) | refine Ext.alloc ?_ _ | refine Ext.setCell ?_ (.inr (by first | omega | simp)) _))))) | (go_at_call 79; exact Calls.ext_of (KM.out _ (by (repeat (first | with_reducible (first | exact Ext.refl _ _ | assumption | refine Ext.upN ?_ | refine Ext.alloc ?_ _ | refine Ext.drew ?_ | refine Ext.drewN ?_ _ | refine Ext.up1N (by first | omega | simp) ?_) | refine Ext.alloc ?_ _ | refine Ext.setCell ?_ (.inr (by first | omega | simp)) _))))))))))
  (refine wpQuiet_nil ?_; intro _ hw'; obtain ⟨xq, hw''⟩ := hw'; subst hw'')
  clear w1 w2 w3 d1 d2 d3 d4 q0 q1 q2 q3
  go_wp2_with fail
  go_loopg [3, 4] L (fun n iv v4 wr => ∃ (i : Nat) (z : EW Non w), i ≤ L ∧ n = L - i ∧ iv = .int .i64 i ∧ wr = z.on)
  case atStart => exact ⟨0, ⟨_, by (repeat (first | with_reducible (first | exact Ext.refl _ _ | assumption | refine Ext.upN ?_ | refine Ext.alloc ?_ _ | refine Ext.drew ?_ | refine Ext.drewN ?_ _ | refine Ext.up1N (by first | omega | simp) ?_) | refine Ext.alloc ?_ _ | refine Ext.setCell ?_ (.inr (by first | omega | simp)) _))⟩, Nat.zero_le _, rfl, rfl, rfl⟩
  case round =>
    obtain ⟨i, z, hi, hn, rfl, rfl⟩ := hrel
    have HG := Go.Lib.hid hn; clear hn
    by_cases hlt : i < L
    · have hik : i < g.keys.length := by rw [← HL.out]; exact hlt
      obtain ⟨gi, rfl, hgi, k0, k1⟩ := HIT.out i hik
      have hok := M6.out i hik
      have hge : g.keys[i]? = some g.keys[i] := List.getElem?_eq_getElem hik
      have hprev : ∀ j, i = j + 1 → ∃ q : ByteArray × Nat, w.cell? ⟨gi, j * 2, none⟩ = some (.string q.1) ∧ kl q < kl g.keys[i] := fun j e => by
        have hj : j < g.keys.length := by omega
        obtain ⟨gj, ej, -, hj0, -⟩ := HIT.out j hj
        injection ej with ej; injection ej with ej
        subst ej
        refine ⟨g.keys[j], hj0, ?_⟩
        subst e
        unfold itemOk at hok
        rw [hge] at hok
        simp only [List.getElem?_eq_getElem hj, Bool.and_eq_true, decide_eq_true_eq] at hok
        exact hok.1.2
      have hp : 1 ≤ (g.keys[i]).1.size ∧ (g.keys[i]).1.size ≤ 16 ∧ fromB (g.keys[i]).2 = true := by
        unfold itemOk at hok
        rw [hge] at hok
        simp only [Bool.and_eq_true, decide_eq_true_eq] at hok
        exact ⟨hok.1.1.1, hok.1.1.2, hok.2⟩
      generalize g.keys[i] = p at *
      obtain ⟨pk, px⟩ := p
      obtain ⟨hp1, hp2, hpf⟩ := hp
      simp only at hp1 hp2 hpf k0 k1
      have HP := Go.Lib.hid hprev; have HF := Go.Lib.hid hpf
      have e1 : decide ((pk.size : Int) < 1) = false := decide_eq_false (by omega)
      have e2 : decide ((16 : Int) < (pk.size : Int)) = false := decide_eq_false (by omega)
      have e1' : decide (pk.size < 1) = false := decide_eq_false (by omega)
      have e2' : decide (16 < pk.size) = false := decide_eq_false (by omega)
      have KW := Go.Lib.hid (fun w' : World => ref_Wild px w')
      clear hok hge hprev hpf hp1 hp2 HIT M6
      have FINISH : Hid (wild px = false ∨ (wild px = true ∧ px = 9221120237041090560)) := Go.Lib.hid (by
        have := HF.out
        unfold fromB at this
        cases hw : wild px
        · exact .inl rfl
        · rw [hw] at this; simp at this; exact .inr ⟨rfl, this⟩)
      cases i with
      | zero =>
        have g0 : decide ((0 : Int) < ((0 : Nat) : Int)) = false := by decide
        rcases FINISH.out with hw | ⟨hw, rfl⟩
        · rw [hw] at KW
          clear hw FINISH
          go_wp2_with fail
          refine (KW.out _).mono ?_
          rintro e _ ⟨rfl, rfl⟩
          go_wp2_with fail
          go_roundg (L - 1)
          case measure => have := HG.out; omega
          case rel => exact ⟨1, ⟨_, by (repeat (first | with_reducible (first | exact Ext.refl _ _ | assumption | refine Ext.upN ?_ | refine Ext.alloc ?_ _ | refine Ext.drew ?_ | refine Ext.drewN ?_ _ | refine Ext.up1N (by first | omega | simp) ?_) | refine Ext.alloc ?_ _ | refine Ext.setCell ?_ (.inr (by first | omega | simp)) _))⟩, hlt, rfl, by go_num, rfl⟩
        · rw [hw] at KW
          clear hw FINISH
          go_wp2_with fail
          refine (KW.out _).mono ?_
          rintro e _ ⟨rfl, rfl⟩
          go_wp2_with fail
          go_roundg (L - 1)
          case measure => have := HG.out; omega
          case rel => exact ⟨1, ⟨_, by (repeat (first | with_reducible (first | exact Ext.refl _ _ | assumption | refine Ext.upN ?_ | refine Ext.alloc ?_ _ | refine Ext.drew ?_ | refine Ext.drewN ?_ _ | refine Ext.up1N (by first | omega | simp) ?_) | refine Ext.alloc ?_ _ | refine Ext.setCell ?_ (.inr (by first | omega | simp)) _))⟩, hlt, rfl, by go_num, rfl⟩
      | succ j =>
        obtain ⟨⟨qk, qx⟩, kp, hlk⟩ := HP.out j rfl
        have hbl : Op.bytesLess qk.toList pk.toList = true := by
          rw [bytesLess_eq, toList_data, toList_data]
          exact decide_eq_true hlk
        have hbl2 : Op.bytesLess pk.toList qk.toList = false := by
          rw [bytesLess_eq, toList_data, toList_data]
          exact decide_eq_false (fun q => List.lt_irrefl _ (List.lt_trans hlk q))
        have hbne : ¬ pk.toList = qk.toList := fun e => by
          rw [toList_data, toList_data] at e
          have hlk : qk.data.toList < pk.data.toList := hlk
          rw [e] at hlk
          exact List.lt_irrefl _ hlk
        have hbe : (pk.toList == qk.toList) = false := by rw [beq_eq_false_iff_ne]; exact hbne
        have g0 : decide ((0 : Int) < ((j + 1 : Nat) : Int)) = true := decide_eq_true (by omega)
        have g1 : decide (0 < j + 1) = true := decide_eq_true (by omega)
        have g2 : IntKind.i64.wrap (((j + 1 : Nat) : Int) - 1) = (j : Int) := (IntWalk.i64_in _ (by omega)).trans (by omega)
        have g3 : IntKind.i64.wrap ((j : Int) + 1 - 1) = (j : Int) := (IntWalk.i64_in _ (by omega)).trans (by omega)
        simp only at kp
        clear hlk HP
        rcases FINISH.out with hw | ⟨hw, rfl⟩
        · rw [hw] at KW
          clear hw FINISH
          go_wp2_with fail
          refine (KW.out _).mono ?_
          rintro e _ ⟨rfl, rfl⟩
          go_wp2_with fail
          go_roundg (L - (j + 1 + 1))
          case measure => have := HG.out; omega
          case rel => exact ⟨j + 1 + 1, ⟨_, by (repeat (first | with_reducible (first | exact Ext.refl _ _ | assumption | refine Ext.upN ?_ | refine Ext.alloc ?_ _ | refine Ext.drew ?_ | refine Ext.drewN ?_ _ | refine Ext.up1N (by first | omega | simp) ?_) | refine Ext.alloc ?_ _ | refine Ext.setCell ?_ (.inr (by first | omega | simp)) _))⟩, hlt, rfl, by go_num, rfl⟩
        · rw [hw] at KW
          clear hw FINISH
          go_wp2_with fail
          refine (KW.out _).mono ?_
          rintro e _ ⟨rfl, rfl⟩
          go_wp2_with fail
          go_roundg (L - (j + 1 + 1))
          case measure => have := HG.out; omega
          case rel => exact ⟨j + 1 + 1, ⟨_, by (repeat (first | with_reducible (first | exact Ext.refl _ _ | assumption | refine Ext.upN ?_ | refine Ext.alloc ?_ _ | refine Ext.drew ?_ | refine Ext.drewN ?_ _ | refine Ext.up1N (by first | omega | simp) ?_) | refine Ext.alloc ?_ _ | refine Ext.setCell ?_ (.inr (by first | omega | simp)) _))⟩, hlt, rfl, by go_num, rfl⟩
    · obtain rfl : i = L := by omega
      go_wp2_with fail
      go_loopg [5] 8 (fun n iv wr => ∃ (i : Nat) (u : EW Non w), i ≤ 8 ∧ n = 8 - i ∧ iv = .int .i64 ((i + 1 : Nat) : Int) ∧ wr = u.on)
      case atStart => exact ⟨0, ⟨_, by (repeat (first | with_reducible (first | exact Ext.refl _ _ | assumption | refine Ext.upN ?_ | refine Ext.alloc ?_ _ | refine Ext.drew ?_ | refine Ext.drewN ?_ _ | refine Ext.up1N (by first | omega | simp) ?_) | refine Ext.alloc ?_ _ | refine Ext.setCell ?_ (.inr (by first | omega | simp)) _))⟩, by omega, rfl, rfl, rfl⟩
      case round =>
        obtain ⟨j, u, hj, hn2, rfl, rfl⟩ := hrel
        have HG2 := Go.Lib.hid hn2; clear hn2
        by_cases hlt2 : j < 8
        · have sc := HST.out j hlt2
          obtain ⟨rc0, rc1⟩ := HRS.out j hlt2
          have hok := M7.out j hlt2
          generalize g.cl j = cc at *
          obtain ⟨cst, ccd, crl⟩ := cc
          have sc : w.cell? ⟨sb, j + 1, none⟩ = some (.int .i64 cst) := sc
          have rc0 : w.cell? ⟨rb, (j + 1) * 2, none⟩ = some (.int .i64 ccd) := rc0
          have rc1 : w.cell? ⟨rb, (j + 1) * 2 + 1, none⟩ = some (.float .f64 crl) := rc1
          unfold cliOk at hok
          simp only [Bool.and_eq_true, Bool.or_eq_true, decide_eq_true_eq] at hok
          obtain ⟨cn, hcn⟩ : ∃ cn, cn = j + 1 := ⟨_, rfl⟩
          have HCN := Go.Lib.hid hcn
          rw [← hcn] at sc rc0 rc1 ⊢
          have cb1 : (0 : Int) ≤ (cn : Int) := by omega
          have cb2 : (cn : Int) < 9 := by omega
          have cb3 : decide ((cn : Int) ≤ 8) = true := decide_eq_true (by omega)
          have s1 : decide ((1048576 : Int) < cst) = false := decide_eq_false (by omega)
          have hwc : IntKind.i64.wrap ((cn : Int) + 1) = ((cn + 1 : Nat) : Int) := (IntWalk.i64_in _ (by omega)).trans (by omega)
          clear hcn
          by_cases h0 : cst = 0
          · have hz := hok.2.resolve_left (fun q => q h0)
            have s2 : (cst == 0) = true := by simpa using h0
            have KSR : Hid (∀ w' : World, Calls Try.prog 23 #[.agg #[.int .i64 ccd, .float .f64 crl], .agg #[.int .i64 0, .float .f64 0]] w' fun e w'' => e = .returned (.bool true) ∧ Ext Non w' w'') := Go.Lib.hid (fun w' => (ref_SameResult ccd 0 crl 0 w').mono fun e w'' ⟨he, hx⟩ => ⟨by rw [he, decide_eq_true hz.1, decide_eq_true (show canonN crl = canonN 0 by rw [hz.2]; exact canon0.symm)]; rfl, hx⟩)
            clear hok hz h0
            go_wp2_with fail
            refine Calls.ew (KSR.out _) ?_
            rintro e x7 rfl
            go_wp2_with fail
            go_roundg (8 - (j + 1))
            case measure => have := HG2.out; omega
            case rel => exact ⟨j + 1, ⟨_, by (repeat (first | with_reducible (first | exact Ext.refl _ _ | assumption | refine Ext.upN ?_ | refine Ext.alloc ?_ _ | refine Ext.drew ?_ | refine Ext.drewN ?_ _ | refine Ext.up1N (by first | omega | simp) ?_) | refine Ext.alloc ?_ _ | refine Ext.setCell ?_ (.inr (by first | omega | simp)) _))⟩, by omega, rfl, by rw [HCN.out]; go_num, rfl⟩
          · have s2 : (cst == 0) = false := by simpa using h0
            clear hok h0
            go_wp2_with fail
            go_roundg (8 - (j + 1))
            case measure => have := HG2.out; omega
            case rel => exact ⟨j + 1, ⟨_, by (repeat (first | with_reducible (first | exact Ext.refl _ _ | assumption | refine Ext.upN ?_ | refine Ext.alloc ?_ _ | refine Ext.drew ?_ | refine Ext.drewN ?_ _ | refine Ext.up1N (by first | omega | simp) ?_) | refine Ext.alloc ?_ _ | refine Ext.setCell ?_ (.inr (by first | omega | simp)) _))⟩, by omega, rfl, by rw [HCN.out]; go_num, rfl⟩
        · have cb3 : decide (((j + 1 : Nat) : Int) ≤ 8) = false := decide_eq_false (by omega)
          have cb4 : decide ((j : Int) + 1 ≤ 8) = false := decide_eq_false (by omega)
          have cb5 : decide (j + 1 ≤ 8) = false := decide_eq_false (by omega)
          go_wp2
          go_ret
          exact ⟨rfl, by (repeat (first | with_reducible (first | exact Ext.refl _ _ | assumption | refine Ext.upN ?_ | refine Ext.alloc ?_ _ | refine Ext.drew ?_ | refine Ext.drewN ?_ _ | refine Ext.up1N (by first | omega | simp) ?_) | refine Ext.alloc ?_ _ | refine Ext.setCell ?_ (.inr (by first | omega | simp)) _))⟩
end Go.Proofs.Ytfefeepljbfcdaa
