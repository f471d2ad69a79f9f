/- Joined texts: May12G, R12h. What each proves stands at its head; no conditions beside those in its theorems. -/
import Derived.Deep.MidRow
import Derived.Deep.WholeRow
import Derived.Shelf.SlMaps.Clone
import Derived.Test.YtfefeepljbfcdaaGreatPjBU
/- The reference of layer 12: may there be such a ledger (of any). -/
namespace Go.Proofs.YtfefeepljbfcdaaGreat
open Go.RowKit Go.Lib F64
set_option linter.unusedSimpArgs false
set_option linter.unusedVariables false
attribute [local go_sem] run_store_float
attribute [local go_sem low] EW.cellN EW.frozN alloc_cell_or alloc_froz_or EW.cellF EW.frozF EW.cell1 EW.froz1
attribute [local go_sem] relAt relUpon
theorem list_lt_or : ∀ (a b : List UInt8), a < b ∨ a = b ∨ b < a := fun a b => by
 rcases Decidable.em (a < b) with h | h
 ·exact .inl h
 ·rcases Decidable.em (b < a) with h2 | h2
  ·exact .inr (.inr h2)
  ·exact .inr (.inl (List.le_antisymm (List.not_lt.1 h2) (List.not_lt.1 h)))
def prevOk (l : Ks) (p : ByteArray × Nat) : Nat → Bool
 | 0 => true
 | j + 1 => match l[j]? with | none => true | some q => decide (kl q < kl p)
theorem prevOk_some {l : Ks} {p q : ByteArray × Nat} {j : Nat} (h : l[j]? = some q) (hlt : kl q < kl p) : prevOk l p (j + 1) = true := by
 simp only [prevOk, h]; exact decide_eq_true hlt
theorem itemOk_at {l : Ks} {i : Nat} {p : ByteArray × Nat} (h : l[i]? = some p) : itemOk l i = (decide (1 ≤ p.1.size) && decide (p.1.size ≤ 16) && prevOk l p i && fromB p.2) := by
 unfold itemOk
 rw [h]
 cases i <;> rfl
theorem may_no {g : Lg} (h : mayB g = false) (m1 : confB g.epoch g.mem = true) (m2 : membersB g.next = true) (m3 : 4 * g.epoch ≤ g.done) (m4 : g.done ≤ 4 * (g.epoch + 1)) (m5 : g.keys.length ≤ 16) (m6 : ∀ i, i < g.keys.length → itemOk g.keys i = true) (m7 : ∀ i, i < 8 → cliOk (g.cl i) = true) : False := by
 have : mayB g = true := by
  unfold mayB
  simp only [Bool.and_eq_true, decide_eq_true_eq, List.all_eq_true, List.mem_range]
  exact ⟨⟨⟨⟨⟨⟨m1, m2⟩, m3⟩, m4⟩, m5⟩, m6⟩, m7⟩
 rw [h] at this
 cases this
set_option maxHeartbeats 8000000 in
set_option maxRecDepth 100000 in
theorem ref12_may_no (b sb rb : Nat) (g : Lg) (hmay : mayB g = false) (w : World) (h : RLo w b sb rb g) : Calls Tryz.prog 41 #[.pointer (some ⟨b, 0, none⟩)] w fun e w' => e = .returned (.bool false) ∧ Ext Non w w' := by
 obtain ⟨a1, c1, a2, c2, v, hb, i1, i2, -, -, -⟩ := h.ex
 obtain ⟨ia, ic, hv, hl1, hl2, hit⟩ := h.row
 have HIT := hI_ hit
 have HST := hI_ (fun (i : Nat) (hi : i < 8) => h.st.cell (st_get g.cl hi))
 have HRS := hI_ (fun (i : Nat) (hi : i < 8) => And.intro (h.rs.cell (rs_get g.cl hi).1) (h.rs.cell (rs_get g.cl hi).2))
 have q0 : w.cell? ⟨b, 0, none⟩ = some (.int .i64 g.epoch) := hb.cell rfl
 have q1 : w.cell? ⟨b, 1, none⟩ = some (.slice a1 g.mem.length c1) := hb.cell rfl
 have q2 : w.cell? ⟨b, 2, none⟩ = some (.slice a2 g.next.length c2) := hb.cell rfl
 have q3 : w.cell? ⟨b, 3, none⟩ = some (.int .i64 g.done) := hb.cell rfl
 have q5 : w.cell? ⟨b, 5, none⟩ = some (.slice (some ⟨sb, 0, none⟩) 9 9) := hb.cell rfl
 have q6 : w.cell? ⟨b, 6, none⟩ = some (.slice (some ⟨rb, 0, none⟩) 9 9) := hb.cell rfl
 have KR := hI_ (fun w' (x : Ext Non w w') => ref_Right07 g.epoch a1 c1 g.mem w' (i1.extN x))
 have KM := hI_ (fun w' (x : Ext Non w w') => ref_Members a2 c2 g.next w' (i2.extN x))
 have HMAY : Hid (Go.Proofs.YtfefeepljbfcdaaGreat.confB g.epoch g.mem = true → Go.Proofs.YtfefeepljbfcdaaGreat.membersB g.next = true → decide (g.done < 4 * g.epoch) = false → decide (4 * (g.epoch + 1) < g.done) = false → decide (16 < g.keys.length) = false → (∀ i, i < g.keys.length → itemOk g.keys i = true) → (∀ i, i < 8 → cliOk (g.cl i) = true) → False) := hI_ (fun m1 m2 m3 m4 m5 m6 m7 => may_no hmay m1 m2 (by have := of_decide_eq_false m3; omega) (by have := of_decide_eq_false m4; omega) (by have := of_decide_eq_false m5; omega) m6 m7)
 have hep : Go.Proofs.YtfefeepljbfcdaaGreat.confB g.epoch g.mem = true → 0 ≤ g.epoch ∧ g.epoch ≤ 60 := fun m1 => by unfold Go.Proofs.YtfefeepljbfcdaaGreat.confB at m1; simp only [Bool.and_eq_true, decide_eq_true_eq] at m1; exact m1.1
 clear hmay h hb i1 i2 hit
 generalize hcb : Go.Proofs.YtfefeepljbfcdaaGreat.confB g.epoch g.mem = cb at *
 generalize hmb : Go.Proofs.YtfefeepljbfcdaaGreat.membersB g.next = mb at *
 clear hcb hmb
 generalize g.epoch = ge at *
 generalize g.done = gd at *
 generalize g.mem = gm at *
 generalize g.next = gn at *
 obtain ⟨L, hL⟩ : ∃ L, L = g.keys.length := ⟨_, rfl⟩
 rw [← hL] at hv hl1 HMAY
 have HL := hI_ hL
 clear hL
 go_enter Tryz.func41, Tryz.ntmps41
 go_upto_region 1 with fail
 cases cb with
 | false =>
  (refine wp_region_ext_lit (by kernel_rfl) (by kernel_rfl) ?_)
  ((try simp only [Bool.not_true, Bool.not_false, Bool.or_false, Bool.or_true, Bool.false_or, Bool.true_or, Bool.and_true, Bool.true_and, Bool.and_false, Bool.false_and]); (repeat (go_big_quiet_step ((first | (go_at_call 18; exact Calls.ext_of (KR.out _ (exG0))) | (go_at_call 57; exact Calls.ext_of (KM.out _ (exG0))))))))
  (refine wpQuiet_nil ?_; intro _ hw'; obtain ⟨xq, hw''⟩ := hw'; subst hw'')
  go_wp2
  go_ret
  exact ⟨rfl, exG0⟩
 | true =>
  have hep2 := hep rfl
  have w1 : IntKind.i64.wrap (4 * ge) = 4 * ge := IntWalk.i64_in _ (by omega)
  have w2 : IntKind.i64.wrap (ge + 1) = ge + 1 := IntWalk.i64_in _ (by omega)
  have w3 : IntKind.i64.wrap (4 * (ge + 1)) = 4 * (ge + 1) := IntWalk.i64_in _ (by omega)
  clear hep
  cases mb with
  | false =>
   (refine wp_region_ext_lit (by kernel_rfl) (by kernel_rfl) ?_)
   ((try simp only [Bool.not_true, Bool.not_false, Bool.or_false, Bool.or_true, Bool.false_or, Bool.true_or, Bool.and_true, Bool.true_and, Bool.and_false, Bool.false_and]); (repeat (go_big_quiet_step ((first | (go_at_call 18; exact Calls.ext_of (KR.out _ (exG0))) | (go_at_call 57; exact Calls.ext_of (KM.out _ (exG0))))))))
   (refine wpQuiet_nil ?_; intro _ hw'; obtain ⟨xq, hw''⟩ := hw'; subst hw'')
   go_wp2
   go_ret
   exact ⟨rfl, exG0⟩
  | true =>
   by_cases x1 : gd < 4 * ge
   ·have d1 : decide (gd < 4 * ge) = true := decide_eq_true x1
    (refine wp_region_ext_lit (by kernel_rfl) (by kernel_rfl) ?_)
    ((try simp only [Bool.not_true, Bool.not_false, Bool.or_false, Bool.or_true, Bool.false_or, Bool.true_or, Bool.and_true, Bool.true_and, Bool.and_false, Bool.false_and]); (repeat (go_big_quiet_step ((first | (go_at_call 18; exact Calls.ext_of (KR.out _ (exG0))) | (go_at_call 57; exact Calls.ext_of (KM.out _ (exG0))))))))
    (refine wpQuiet_nil ?_; intro _ hw'; obtain ⟨xq, hw''⟩ := hw'; subst hw'')
    go_wp2
    go_ret
    exact ⟨rfl, exG0⟩
   have d1 : decide (gd < 4 * ge) = false := decide_eq_false x1
   by_cases x2 : 4 * (ge + 1) < gd
   ·have d2 : decide (4 * (ge + 1) < gd) = true := decide_eq_true x2
    (refine wp_region_ext_lit (by kernel_rfl) (by kernel_rfl) ?_)
    ((try simp only [Bool.not_true, Bool.not_false, Bool.or_false, Bool.or_true, Bool.false_or, Bool.true_or, Bool.and_true, Bool.true_and, Bool.and_false, Bool.false_and]); (repeat (go_big_quiet_step ((first | (go_at_call 18; exact Calls.ext_of (KR.out _ (exG0))) | (go_at_call 57; exact Calls.ext_of (KM.out _ (exG0))))))))
    (refine wpQuiet_nil ?_; intro _ hw'; obtain ⟨xq, hw''⟩ := hw'; subst hw'')
    go_wp2
    go_ret
    exact ⟨rfl, exG0⟩
   have d2 : decide (4 * (ge + 1) < gd) = false := decide_eq_false x2
   by_cases x3 : 16 < L
   ·have d3 : decide ((16 : Int) < (L : Int)) = true := decide_eq_true (by omega)
    have d4 : decide (16 < L) = true := decide_eq_true x3
    (refine wp_region_ext_lit (by kernel_rfl) (by kernel_rfl) ?_)
    ((try simp only [Bool.not_true, Bool.not_false, Bool.or_false, Bool.or_true, Bool.false_or, Bool.true_or, Bool.and_true, Bool.true_and, Bool.and_false, Bool.false_and]); (repeat (go_big_quiet_step ((first | (go_at_call 18; exact Calls.ext_of (KR.out _ (exG0))) | (go_at_call 57; exact Calls.ext_of (KM.out _ (exG0))))))))
    (refine wpQuiet_nil ?_; intro _ hw'; obtain ⟨xq, hw''⟩ := hw'; subst hw'')
    go_wp2
    go_ret
    exact ⟨rfl, exG0⟩
   have d3 : decide ((16 : Int) < (L : Int)) = false := decide_eq_false (by omega)
   have d4 : decide (16 < L) = false := decide_eq_false x3
   replace HMAY := hI_ (HMAY.out rfl rfl d1 d2 d4)
   (refine wp_region_ext_lit (by kernel_rfl) (by kernel_rfl) ?_)
   ((try simp only [Bool.not_true, Bool.not_false, Bool.or_false, Bool.or_true, Bool.false_or, Bool.true_or, Bool.and_true, Bool.true_and, Bool.and_false, Bool.false_and]); (repeat (go_big_quiet_step ((first | (go_at_call 18; exact Calls.ext_of (KR.out _ (exG0))) | (go_at_call 57; exact Calls.ext_of (KM.out _ (exG0))))))))
   (refine wpQuiet_nil ?_; intro _ hw'; obtain ⟨xq, hw''⟩ := hw'; subst hw'')
   have m5 : L ≤ 16 := by omega
   clear w1 w2 w3 d1 d2 d3 d4 q0 q1 q2 q3 x1 x2 x3
   go_wp2_with fail
   go_loopg [3, 4] L (fun n iv v4 wr => ∃ (i : Nat) (z : EW Non w), i ≤ L ∧ n = L - i ∧ iv = .int .i64 i ∧ wr = z.on ∧ Hid (∀ j, j < i → itemOk g.keys j = true))
   case atStart => exact ⟨0, ⟨_, exG0⟩, Nat.zero_le _, rfl, rfl, rfl, hI_ (fun j hj => absurd hj (Nat.not_lt_zero _))⟩
   case round =>
    obtain ⟨i, z, hi, hn, rfl, rfl, HIN⟩ := hrel
    have HG := hI_ hn; clear hn
    by_cases hlt : i < L
    ·have hik : i < g.keys.length := by rw [← HL.out]; exact hlt
     obtain ⟨gi, rfl, hgi, k0, k1⟩ := HIT.out i hik
     have hge : g.keys[i]? = some g.keys[i] := List.getElem?_eq_getElem hik
     have hprev : ∀ j, i = j + 1 → ∃ q : ByteArray × Nat, g.keys[j]? = some q ∧ w.cell? ⟨gi, j * 2, none⟩ = some (.string q.1) := fun j e => by
      have hj : j < g.keys.length := by omega
      obtain ⟨gj, ej, -, hj0, -⟩ := HIT.out j hj
      injection ej with ej; injection ej with ej
      subst ej
      exact ⟨g.keys[j], List.getElem?_eq_getElem hj, hj0⟩
     have HP := hI_ hprev
     have HGE : Hid (g.keys[i]? = some g.keys[i]) := hI_ hge
     generalize hpp : g.keys[i] = p at *
     obtain ⟨pk, px⟩ := p
     have OKI := hI_ (itemOk_at hge)
     have KW := hI_ (fun w' : World => ref_Wild px w')
     have NXT : Hid (itemOk g.keys i = true → ∀ j, j < i + 1 → itemOk g.keys j = true) := hI_ (fun h j hj => by
      by_cases q : j = i
      ·subst q; exact h
      ·exact HIN.out j (by omega))
     simp only at k0 k1
     clear hprev hge hpp HGE hik
     by_cases y1 : pk.size < 1
     ·have e1 : decide ((pk.size : Int) < 1) = true := decide_eq_true (by omega)
      have e1' : decide (pk.size < 1) = true := decide_eq_true y1
      go_wp2
      go_ret
      exact ⟨rfl, exG0⟩
     have e1 : decide ((pk.size : Int) < 1) = false := decide_eq_false (by omega)
     have e1' : decide (pk.size < 1) = false := decide_eq_false (by omega)
     by_cases y2 : 16 < pk.size
     ·have e2 : decide ((16 : Int) < (pk.size : Int)) = true := decide_eq_true (by omega)
      have e2' : decide (16 < pk.size) = true := decide_eq_true y2
      go_wp2
      go_ret
      exact ⟨rfl, exG0⟩
     have e2 : decide ((16 : Int) < (pk.size : Int)) = false := decide_eq_false (by omega)
     have e2' : decide (16 < pk.size) = false := decide_eq_false (by omega)
     have OK1 : Hid (decide (1 ≤ pk.size) = true ∧ decide (pk.size ≤ 16) = true) := hI_ ⟨decide_eq_true (by omega), decide_eq_true (by omega)⟩
     have FINISH : (fromB px = true ∧ wild px = false) ∨ (fromB px = true ∧ wild px = true ∧ px = 9221120237041090560) ∨ (fromB px = false ∧ wild px = true ∧ px ≠ 9221120237041090560) := by
      unfold fromB
      cases hw : wild px
      ·exact .inl ⟨by simp, rfl⟩
      ·by_cases q : px = 9221120237041090560
       ·refine .inr (.inl ⟨?_, rfl, q⟩); rw [q]; decide
       ·refine .inr (.inr ⟨?_, rfl, q⟩)
        simp only [Bool.true_and, Bool.not_eq_eq_eq_not, Bool.not_false, decide_eq_true_eq]
        exact q
     have FINISH := hI_ FINISH
     clear y1 y2
     cases i with
     | zero =>
      have g0 : decide ((0 : Int) < ((0 : Nat) : Int)) = false := by decide
      rcases FINISH.out with ⟨hfb, hw⟩ | ⟨hfb, hw, hpx⟩ | ⟨hfb, hw, hpx⟩
      ·rw [hw] at KW
       clear hw FINISH
       go_wp2_with fail
       refine (KW.out _).mono ?_
       rintro e _ ⟨rfl, rfl⟩
       go_wp2_with fail
       go_roundg (L - 1)
       case measure => have := HG.out; omega
       case rel => exact ⟨1, ⟨_, exG0⟩, hlt, rfl, by go_num, rfl, hI_ (NXT.out (by rw [OKI.out, OK1.out.1, OK1.out.2, hfb]; rfl))⟩
      ·rw [hw] at KW
       clear hw FINISH
       have HFB := hI_ hfb
       clear hfb
       subst hpx
       have hfb := HFB.out
       go_wp2_with fail
       refine (KW.out _).mono ?_
       rintro e _ ⟨rfl, rfl⟩
       go_wp2_with fail
       go_roundg (L - 1)
       case measure => have := HG.out; omega
       case rel => exact ⟨1, ⟨_, exG0⟩, hlt, rfl, by go_num, rfl, hI_ (NXT.out (by rw [OKI.out, OK1.out.1, OK1.out.2, hfb]; rfl))⟩
      ·rw [hw] at KW
       clear hw FINISH
       have hpn : ((px : Int) != 9221120237041090560) = true := by simp; omega
       go_wp2_with fail
       refine (KW.out _).mono ?_
       rintro e _ ⟨rfl, rfl⟩
       go_wp2
       go_ret
       exact ⟨rfl, exG0⟩
     | succ j =>
      obtain ⟨⟨qk, qx⟩, hq, kp⟩ := HP.out j rfl
      have HQ := hI_ hq
      clear hq
      simp only at kp
      have g0 : decide ((0 : Int) < ((j + 1 : Nat) : Int)) = true := decide_eq_true (by omega)
      have g1 : decide (0 < j + 1) = true := decide_eq_true (by omega)
      have g2 : IntKind.i64.wrap (((j + 1 : Nat) : Int) - 1) = (j : Int) := (IntWalk.i64_in _ (by omega)).trans (by omega)
      have g3 : IntKind.i64.wrap ((j : Int) + 1 - 1) = (j : Int) := (IntWalk.i64_in _ (by omega)).trans (by omega)
      by_cases hlk : kl (qk, qx) < kl (pk, px)
      ·have hbl : Op.bytesLess qk.toList pk.toList = true := by
        rw [bytesLess_eq, toList_data, toList_data]
        exact decide_eq_true hlk
       have hbl2 : Op.bytesLess pk.toList qk.toList = false := by
        rw [bytesLess_eq, toList_data, toList_data]
        exact decide_eq_false (fun q => List.lt_irrefl _ (List.lt_trans hlk q))
       have hbne : ¬ pk.toList = qk.toList := fun e => by
        rw [toList_data, toList_data] at e
        have hlk : qk.data.toList < pk.data.toList := hlk
        rw [e] at hlk
        exact List.lt_irrefl _ hlk
       have hbe : (pk.toList == qk.toList) = false := by rw [beq_eq_false_iff_ne]; exact hbne
       have HLK := hI_ hlk
       clear hlk HP
       rcases FINISH.out with ⟨hfb, hw⟩ | ⟨hfb, hw, hpx⟩ | ⟨hfb, hw, hpx⟩
       ·rw [hw] at KW
        clear hw FINISH
        go_wp2_with fail
        refine (KW.out _).mono ?_
        rintro e _ ⟨rfl, rfl⟩
        go_wp2_with fail
        go_roundg (L - (j + 1 + 1))
        case measure => have := HG.out; omega
        case rel => exact ⟨j + 1 + 1, ⟨_, exG0⟩, hlt, rfl, by go_num, rfl, hI_ (NXT.out (by rw [OKI.out, OK1.out.1, OK1.out.2, hfb]; rw [prevOk_some HQ.out HLK.out]; rfl))⟩
       ·rw [hw] at KW
        clear hw FINISH
        have HFB := hI_ hfb
        clear hfb
        subst hpx
        have hfb := HFB.out
        go_wp2_with fail
        refine (KW.out _).mono ?_
        rintro e _ ⟨rfl, rfl⟩
        go_wp2_with fail
        go_roundg (L - (j + 1 + 1))
        case measure => have := HG.out; omega
        case rel => exact ⟨j + 1 + 1, ⟨_, exG0⟩, hlt, rfl, by go_num, rfl, hI_ (NXT.out (by rw [OKI.out, OK1.out.1, OK1.out.2, hfb]; rw [prevOk_some HQ.out HLK.out]; rfl))⟩
       ·rw [hw] at KW
        clear hw FINISH
        have hpn : ((px : Int) != 9221120237041090560) = true := by simp; omega
        go_wp2_with fail
        refine (KW.out _).mono ?_
        rintro e _ ⟨rfl, rfl⟩
        go_wp2
        go_ret
        exact ⟨rfl, exG0⟩
      ·have hbl : Op.bytesLess qk.toList pk.toList = false := by
        rw [bytesLess_eq, toList_data, toList_data]
        exact decide_eq_false hlk
       clear hlk HP
       by_cases hbe : pk.toList = qk.toList
       ·have hbe2 : (pk.toList == qk.toList) = true := by simpa using hbe
        have hbl2 : Op.bytesLess pk.toList qk.toList = false := by
         rw [hbe]
         rw [bytesLess_eq]
         exact decide_eq_false (List.lt_irrefl _)
        go_wp2
        go_ret
        exact ⟨rfl, exG0⟩
       ·have hbe2 : (pk.toList == qk.toList) = false := by rw [beq_eq_false_iff_ne]; exact hbe
        have hbl2 : Op.bytesLess pk.toList qk.toList = true := by
         rw [bytesLess_eq, toList_data, toList_data] at *
         rcases Go.Proofs.YtfefeepljbfcdaaGreat.list_lt_or pk.data.toList qk.data.toList with h | h | h
         ·exact decide_eq_true h
         ·exact absurd h hbe
         ·rw [decide_eq_false_iff_not] at hbl; exact absurd h hbl
        go_wp2
        go_ret
        exact ⟨rfl, exG0⟩
    ·obtain rfl : i = L := by omega
     go_wp2_with fail
     go_loopg [5] 8 (fun n iv wr => ∃ (i : Nat) (u : EW Non w), i ≤ 8 ∧ n = 8 - i ∧ iv = .int .i64 ((i + 1 : Nat) : Int) ∧ wr = u.on ∧ Hid (∀ j, j < i → cliOk (g.cl j) = true))
     case atStart => exact ⟨0, ⟨_, exG0⟩, by omega, rfl, rfl, rfl, hI_ (fun j hj => absurd hj (Nat.not_lt_zero _))⟩
     case round =>
      obtain ⟨j, u, hj, hn2, rfl, rfl, HCN2⟩ := hrel
      have HG2 := hI_ hn2; clear hn2
      by_cases hlt2 : j < 8
      ·have sc := HST.out j hlt2
       obtain ⟨rc0, rc1⟩ := HRS.out j hlt2
       generalize hcc : g.cl j = cc at *
       obtain ⟨cst, ccd, crl⟩ := cc
       have NXT2 : Hid (cliOk ⟨cst, ccd, crl⟩ = true → ∀ k, k < j + 1 → cliOk (g.cl k) = true) := hI_ (fun h k hk => by
        by_cases q : k = j
        ·subst q; rw [hcc]; exact h
        ·exact HCN2.out k (by omega))
       clear hcc
       have sc : w.cell? ⟨sb, j + 1, none⟩ = some (.int .i64 cst) := sc
       have rc0 : w.cell? ⟨rb, (j + 1) * 2, none⟩ = some (.int .i64 ccd) := rc0
       have rc1 : w.cell? ⟨rb, (j + 1) * 2 + 1, none⟩ = some (.float .f64 crl) := rc1
       obtain ⟨cn, hcn⟩ : ∃ cn, cn = j + 1 := ⟨_, rfl⟩
       have HCN := hI_ hcn
       rw [← hcn] at sc rc0 rc1 ⊢
       have cb1 : (0 : Int) ≤ (cn : Int) := by omega
       have cb2 : (cn : Int) < 9 := by omega
       have cb3 : decide ((cn : Int) ≤ 8) = true := decide_eq_true (by omega)
       have hwc : IntKind.i64.wrap ((cn : Int) + 1) = ((cn + 1 : Nat) : Int) := (IntWalk.i64_in _ (by omega)).trans (by omega)
       clear hcn
       by_cases z1 : 1048576 < cst
       ·have s1 : decide ((1048576 : Int) < cst) = true := decide_eq_true z1
        go_wp2
        go_ret
        exact ⟨rfl, exG0⟩
       have s1 : decide ((1048576 : Int) < cst) = false := decide_eq_false z1
       by_cases h0 : cst = 0
       ·have s2 : (cst == 0) = true := by simpa using h0
        have KSR : Hid (∀ w' : World, Calls Tryz.prog 23 #[.agg #[.int .i64 ccd, .float .f64 crl], .agg #[.int .i64 0, .float .f64 0]] w' fun e w'' => e = .returned (.bool (decide (ccd = 0) && decide (canonN crl = canonN 0))) ∧ Ext Non w' w'') := hI_ (fun w' => ref_SameResult ccd 0 crl 0 w')
        have HSB : Hid ((decide (ccd = 0) && decide (canonN crl = canonN 0)) = true → cliOk ⟨cst, ccd, crl⟩ = true) := hI_ (fun h => by
         rw [canon0] at h
         unfold cliOk
         simp only [Bool.and_eq_true, decide_eq_true_eq] at h
         simp [h.1, h.2]
         omega)
        generalize (decide (ccd = 0) && decide (canonN crl = canonN 0)) = sbb at *
        clear h0 z1
        cases sbb with
        | false =>
         go_wp2_with fail
         refine Calls.ew (KSR.out _) ?_
         rintro e x7 rfl
         go_wp2
         go_ret
         exact ⟨rfl, exG0⟩
        | true =>
         go_wp2_with fail
         refine Calls.ew (KSR.out _) ?_
         rintro e x7 rfl
         go_wp2_with fail
         go_roundg (8 - (j + 1))
         case measure => have := HG2.out; omega
         case rel => exact ⟨j + 1, ⟨_, exG0⟩, by omega, rfl, by rw [HCN.out]; go_num, rfl, hI_ (NXT2.out (HSB.out (by simp)))⟩
       ·have s2 : (cst == 0) = false := by simpa using h0
        have HOK2 : Hid (cliOk ⟨cst, ccd, crl⟩ = true) := hI_ (by unfold cliOk; simp [h0]; omega)
        clear h0 z1
        go_wp2_with fail
        go_roundg (8 - (j + 1))
        case measure => have := HG2.out; omega
        case rel => exact ⟨j + 1, ⟨_, exG0⟩, by omega, rfl, by rw [HCN.out]; go_num, rfl, hI_ (NXT2.out HOK2.out)⟩
      ·exact (HMAY.out (fun i hi => HIN.out i hi) (fun i hi => HCN2.out i (by omega))).elim
theorem ref12_may_any (b sb rb : Nat) (g : Lg) (w : World) (h : RLo w b sb rb g) : Calls Tryz.prog 41 #[.pointer (some ⟨b, 0, none⟩)] w fun e w' => e = .returned (.bool (mayB g)) ∧ Ext Non w w' := by
 cases hm : mayB g
 ·exact ref12_may_no b sb rb g hm w h
 ·exact ref12_may b sb rb g hm w h
end Go.Proofs.YtfefeepljbfcdaaGreat

/- The reference of layers 7, 11, 12: texts of configurations, results and ledgers. -/
namespace Go.Proofs.YtfefeepljbfcdaaGreat
open Go.RowKit Go.Lib F64
set_option linter.unusedSimpArgs false
set_option linter.unusedVariables false
attribute [local go_sem] run_store_float
attribute [local go_sem low] EW.cellN EW.frozN alloc_cell_or alloc_froz_or EW.cellF EW.frozF EW.cell1 EW.froz1
attribute [local go_sem] relAt relUpon
theorem rwrote_ew {w0 w' : World} {z : EW Non w0} {n0 b : Nat} {W' : Wr} (h : RWrote z.on w' n0 b W') (h0 : w0.heap.size ≤ n0) : ∃ y : EW Non w0, w' = y.on ∧ RW y.on n0 b W' ∧ z.on.heap.size ≤ y.on.heap.size :=
 ⟨⟨w', z.ext.step h.x fun i hi s => by have hb' := h.p.nb; rcases s with s | s; omega; have := s.1; omega⟩, rfl, h.p, h.x.size⟩
set_option maxHeartbeats 2000000 in
set_option maxRecDepth 100000 in
theorem ref07_Text (ep : Int) (hep : 0 ≤ ep ∧ ep ≤ 60) (a : Option Addr) (cap : Nat) (xs : List Int) (hm : membersB xs = true) (w : World) (h : Ints w a cap xs) : Calls Tryz.prog 65 #[.agg #[.int .i64 ep, .slice a xs.length cap]] w fun e w' =>
  e = .returned (.tuple #[.string ⟨(confT ep xs).toArray⟩, .int .i64 0]) ∧ Ext Non w w' := by
 have HI := hI_ h
 have HC : Hid (confB ep xs = true) := hI_ (by unfold confB; rw [hm]; simp [hep.1, hep.2])
 obtain ⟨-, -, hl1, hl2⟩ := members_facts hm
 have HD : Hid (doneS (xs.foldl byteW (byteW (wordW (byteW (newW 100) 67) ep) xs.length)) = ⟨(confT ep xs).toArray⟩ ∧ (xs.foldl byteW (byteW (wordW (byteW (newW 100) 67) ep) xs.length)).err = 0) := hI_ (by
  have := conf_wt hep hm (lim := 100) (by omega); exact ⟨this.done, this.err⟩)
 clear h hm
 go_enter Tryz.func65, Tryz.ntmps65
 go_wp2_with fail
 have B0 := hI_ (Bx.newAt w [.int .i64 ep, .slice a xs.length cap] 24 _ rfl)
 refine Calls.ew (ref_Right07 ep a cap xs _ (HI.out.extN (exG1))) ?_
 rintro e x1 rfl
 rw [HC.out]
 have XA : Ext Non w x1.on := exG1
 have B1 := hI_ (B0.out.extN x1.ext)
 have HIw := hI_ (HI.out.extN XA)
 have HXA := hI_ XA
 clear XA B0 HI
 generalize x1.on = wA at *
 have c0 : wA.cell? ⟨w.heap.size, 0, none⟩ = some (.int .i64 ep) := B1.out.cell rfl
 have c1 : wA.cell? ⟨w.heap.size, 1, none⟩ = some (.slice a xs.length cap) := B1.out.cell rfl
 have HL := hI_ (Nat.le_refl wA.heap.size)
 go_wp2_with fail
 refine (refw_New 100 (by omega) wA.heap.size wA HL.out).mono ?_
 rintro e _ ⟨b, rfl, hx, hP, hb⟩
 obtain ⟨z0, rfl⟩ := hx.ew
 have P0 := hI_ hP
 clear hP hx hb
 go_wp2_with fail
 refine (refw_Num1 wA.heap.size b _ 67 (by unfold I64; omega) _ P0.out z0.ext.size).mono ?_
 rintro e _ ⟨rfl, hw1⟩
 obtain ⟨z1, rfl, hP, hs1⟩ := rwrote_ew hw1 HL.out
 have P1 := hI_ hP
 clear hP hw1 P0 hs1
 go_wp2_with fail
 refine (refw_Num2 wA.heap.size b _ ep (by unfold I64; omega) _ P1.out z1.ext.size).mono ?_
 rintro e _ ⟨rfl, hw1⟩
 obtain ⟨z2, rfl, hP, hs2⟩ := rwrote_ew hw1 HL.out
 have P2 := hI_ hP
 clear hP hw1 P1 hs2
 go_wp2_with fail
 refine (refw_Num1 wA.heap.size b _ (xs.length : Int) (by unfold I64; omega) _ P2.out z2.ext.size).mono ?_
 rintro e _ ⟨rfl, hw1⟩
 obtain ⟨z3, rfl, hP, hs3⟩ := rwrote_ew hw1 HL.out
 obtain ⟨W0, hW0⟩ : ∃ W0, W0 = byteW (wordW (byteW (newW 100) 67) ep) xs.length := ⟨_, rfl⟩
 rw [← hW0] at hP HD
 have P3 : Hid (RW z3.on wA.heap.size b ((xs.take 0).foldl byteW W0)) := hI_ hP
 clear hP hw1 P2 hW0 hs3
 go_wp2_with fail
 go_loopg [5] xs.length (fun n iv wr => ∃ (i : Nat) (z : EW Non wA), i ≤ xs.length ∧ n = xs.length - i ∧ iv = .int .i64 i ∧ wr = z.on ∧ Hid (RW wr wA.heap.size b ((xs.take i).foldl byteW W0)))
 case atStart => exact ⟨0, ⟨_, exG1⟩, Nat.zero_le _, rfl, rfl, rfl, P3⟩
 case round =>
  clear P3
  obtain ⟨i, z, hi, hn, rfl, rfl, HP⟩ := hrel
  have HN := hI_ hn; clear hn
  by_cases hlt : i < xs.length
  ·obtain ⟨ab, ao, rfl, hcell, hx64⟩ := HIw.out.at_ i hlt
   have HT := hI_ (fold_take byteW W0 xs i hlt)
   have HX := hI_ hx64
   clear hx64
   generalize xs[i] = x at *
   go_wp2_with fail
   refine (refw_Num1 wA.heap.size b _ x HX.out _ HP.out z.ext.size).mono ?_
   rintro e _ ⟨rfl, hw1⟩
   obtain ⟨z4, rfl, hP, hs1⟩ := rwrote_ew hw1 HL.out
   rw [← HT.out] at hP
   have P4 := hI_ hP
   clear hP hw1 hs1
   go_wp2_with fail
   go_roundg (xs.length - (i + 1))
   case measure => have := HN.out; omega
   case rel => exact ⟨i + 1, ⟨_, exG1⟩, hlt, rfl, by go_num, rfl, P4⟩
  ·obtain rfl : i = xs.length := by omega
   have hp := HP.out
   rw [List.take_length] at hp
   have P5 := hI_ hp
   clear hp
   go_wp2_with fail
   refine Calls.ew (refw_Done wA.heap.size b _ _ P5.out) ?_
   rintro e x2 rfl
   rw [HD.out.1, HD.out.2]
   go_wp2
   go_returns
   exact ⟨rfl, HXA.out.trans (exG1)⟩
set_option maxHeartbeats 2000000 in
set_option maxRecDepth 100000 in
theorem ref11_ResultText (cd : Int) (hcd : 0 ≤ cd ∧ cd ≤ 8) (x : Nat) (hx : x < 18446744073709551616) (hc : canonN x = x) (w : World) : Calls Tryz.prog 68 #[.agg #[.int .i64 cd, .float .f64 x]] w fun e w' =>
  e = .returned (.tuple #[.string ⟨(resT cd x).toArray⟩, .int .i64 0]) ∧ Ext Non w w' := by
 have HD : Hid (doneS (bitsW (byteW (newW 9) cd) (canonN x)) = ⟨(resT cd x).toArray⟩ ∧ (bitsW (byteW (newW 9) cd) (canonN x)).err = 0) := hI_ (by
  have := res_wt hcd hc (lim := 9) (by omega); exact ⟨this.done, this.err⟩)
 have d0 : decide (cd < 0) = false := decide_eq_false (by omega)
 have d8 : decide (8 < cd) = false := decide_eq_false (by omega)
 have hcan : canonN x < 18446744073709551616 := canon_lt hx
 clear hc
 go_enter Tryz.func68, Tryz.ntmps68
 go_upto_region 3 with fail
 have B := hI_ (Bx.newAt w [.int .i64 cd, .float .f64 x] 48 _ rfl)
 have XA : Ext Non w (w.alloc (.cells [Value.int .i64 cd, .float .f64 x].toArray 48)) := (Ext.refl _ _).alloc _
 generalize w.alloc (.cells #[Value.int .i64 cd, .float .f64 x] 48) = wA at *
 have c0 : wA.cell? ⟨w.heap.size, 0, none⟩ = some (.int .i64 cd) := B.out.cell rfl
 have c1 : wA.cell? ⟨w.heap.size, 1, none⟩ = some (.float .f64 x) := B.out.cell rfl
 have HL := hI_ (Nat.le_refl wA.heap.size)
 have XB := hI_ XA
 clear XA
 go_wp2_with fail
 refine (refw_New 9 (by decide) wA.heap.size wA HL.out).mono ?_
 rintro e _ ⟨b, rfl, hx1, hP, hb⟩
 obtain ⟨z0, rfl⟩ := hx1.ew
 have P0 := hI_ hP
 clear hP hx1 hb
 go_wp2_with fail
 refine (refw_Num1 wA.heap.size b _ cd (by unfold I64; omega) _ P0.out z0.ext.size).mono ?_
 rintro e _ ⟨rfl, hw1⟩
 obtain ⟨z1, rfl, hP, hs1⟩ := rwrote_ew hw1 HL.out
 have P1 := hI_ hP
 clear hP hw1 P0 hs1
 go_wp2_with fail
 refine (ref_Bits x _).mono ?_
 rintro e _ ⟨rfl, rfl⟩
 go_wp2_with fail
 refine (refw_Bits wA.heap.size b _ (canonN x) hcan _ P1.out z1.ext.size).mono ?_
 rintro e _ ⟨rfl, hw1⟩
 obtain ⟨z2, rfl, hP, hs2⟩ := rwrote_ew hw1 HL.out
 have P2 := hI_ hP
 clear hP hw1 P1 hs2
 go_wp2_with fail
 refine Calls.ew (refw_Done wA.heap.size b _ _ P2.out) ?_
 rintro e x2 rfl
 rw [HD.out.1, HD.out.2]
 have XC := XB.out
 go_wp2
 go_returns
 exact ⟨rfl, XC.trans (z2.ext.trans x2.ext)⟩
def refKW (W : Wr) (p : ByteArray × Nat) : Wr := bitsW (textW W (kl p)) p.2
set_option maxHeartbeats 4000000 in
set_option maxRecDepth 100000 in
theorem ref12_Text (b sb rb : Nat) (g : Lg) (I : Inv g) (w : World) (h : RL w b sb rb g) : Calls Tryz.prog 29 #[.pointer (some ⟨b, 0, none⟩)] w fun e w' =>
  e = .returned (.string (ledgS g)) ∧ Ext Non w w' := by
 have HH := hI_ h
 have HI := hI_ I
 obtain ⟨a1, c1, a2, c2, v, hb, i1, i2, t1, t2, hv⟩ := h.ex
 have I1 := hI_ i1; have I2 := hI_ i2
 obtain ⟨ia, ic, q4, h1, h2, hc⟩ := h.row
 have HC := hI_ hc
 have q0 : w.cell? ⟨b, 0, none⟩ = some (.int .i64 g.epoch) := hb.cell rfl
 have q1 : w.cell? ⟨b, 1, none⟩ = some (.slice a1 g.mem.length c1) := hb.cell rfl
 have q2 : w.cell? ⟨b, 2, none⟩ = some (.slice a2 g.next.length c2) := hb.cell rfl
 have q3 : w.cell? ⟨b, 3, none⟩ = some (.int .i64 g.done) := hb.cell rfl
 have q5 : w.cell? ⟨b, 5, none⟩ = some (.slice (some ⟨sb, 0, none⟩) 9 9) := hb.cell rfl
 have q6 : w.cell? ⟨b, 6, none⟩ = some (.slice (some ⟨rb, 0, none⟩) 9 9) := hb.cell rfl
 obtain ⟨mn1, -, mn2, mn3⟩ := members_facts I.mn
 have hep := I.ep; have hdn := I.dn; have hkl := I.kl
 have HSL : Hid ((sortK g.keys).length = g.keys.length) := hI_ (sortK_len _)
 have hl16 : (sortK g.keys).length ≤ 16 := by rw [sortK_len]; exact I.kl
 have HKM : Hid (∀ p ∈ sortK g.keys, 1 ≤ p.1.size ∧ p.1.size ≤ 16 ∧ p.2 < 18446744073709551616) := hI_ (fun p hp => by have := I.kb p (mem_sortK hp); exact ⟨this.1, this.2.1, this.2.2.1⟩)
 have HDN : Hid (doneS ((List.range 8).foldl (cliW g.cl) ((sortK g.keys).foldl refKW (byteW (longW (g.next.foldl byteW (byteW (textW (byteW (newW 1048576) 76) (confS g.epoch g.mem).data.toList) g.next.length)) g.done) g.keys.length))) = ledgS g) := hI_ (by
  rw [ledgS_of I h.nd]
  exact (ledg_wt I h.nd (lim := 1048576) (by omega) (kw := refKW) (fun p hp W => rfl)).done)
 clear hb i1 i2 t1 t2 hv hc h I mn1
 go_enter Tryz.func29, Tryz.ntmps29
 go_wp2_with fail
 have HL := hI_ (Nat.le_refl w.heap.size)
 refine (refw_New 1048576 (by decide) w.heap.size w HL.out).mono ?_
 rintro e _ ⟨wb, rfl, hx, hP, hb⟩
 obtain ⟨z0, rfl⟩ := hx.ew
 have P0 := hI_ hP
 clear hP hx hb
 go_wp2_with fail
 refine (refw_Num1 w.heap.size wb _ 76 (by unfold I64; omega) _ P0.out z0.ext.size).mono ?_
 rintro e _ ⟨rfl, hw1⟩
 obtain ⟨z1, rfl, hP, hs1⟩ := rwrote_ew hw1 HL.out
 have P1 := hI_ hP
 clear hP hw1 P0 hs1
 go_wp2_with fail
 refine Calls.ew (ref07_Text g.epoch hep a1 c1 g.mem HI.out.mm _ (I1.out.extN (exG1))) ?_
 rintro e z3 rfl
 have P3 := hI_ (P1.out.extN z3.ext)
 clear P1
 have HCT : Hid (confS g.epoch g.mem = ⟨(confT g.epoch g.mem).toArray⟩ ∧ ((⟨(confT g.epoch g.mem).toArray⟩ : ByteArray)).size ≤ 9223372036854775807) := hI_ (by
  have e := (confS_of HI.out.ep HI.out.mm).1
  refine ⟨e, ?_⟩
  rw [← e]; exact Nat.le_trans (confS_le _ _) (by omega))
 obtain ⟨cs, hcs⟩ : ∃ cs, cs = (⟨(confT g.epoch g.mem).toArray⟩ : ByteArray) := ⟨_, rfl⟩
 rw [← hcs] at HCT ⊢
 clear hcs
 have X3 : Ext Non w z3.on := exG1
 obtain ⟨z4, hz4⟩ := X3.ew
 rw [hz4] at P3 ⊢
 clear hz4 X3 z3 z1 z0
 go_wp2_with fail
 refine (refw_Text w.heap.size wb _ cs HCT.out.2 _ P3.out z4.ext.size).mono ?_
 rintro e _ ⟨rfl, hw1⟩
 obtain ⟨z5, rfl, hP, hs1⟩ := rwrote_ew hw1 HL.out
 have P5 := hI_ hP
 clear hP hw1 P3 hs1
 go_wp2_with fail
 refine (refw_Num1 w.heap.size wb _ (g.next.length : Int) (by unfold I64; omega) _ P5.out z5.ext.size).mono ?_
 rintro e _ ⟨rfl, hw1⟩
 obtain ⟨z6, rfl, hP, hs1⟩ := rwrote_ew hw1 HL.out
 obtain ⟨W1, hW1⟩ : ∃ W1, W1 = byteW (textW (byteW (newW 1048576) 76) (confS g.epoch g.mem).data.toList) g.next.length := ⟨_, rfl⟩
 rw [← hW1] at HDN
 have P6 : Hid (RW z6.on w.heap.size wb ((g.next.take 0).foldl byteW W1)) := hI_ (by rw [List.take_zero, List.foldl_nil, hW1, HCT.out.1]; exact hP)
 clear hP hw1 P5 hs1 hW1
 go_wp2_with fail
 go_loopg [6] g.next.length (fun n iv wr => ∃ (i : Nat) (z : EW Non w), i ≤ g.next.length ∧ n = g.next.length - i ∧ iv = .int .i64 i ∧ wr = z.on ∧ Hid (RW wr w.heap.size wb ((g.next.take i).foldl byteW W1)))
 case atStart => exact ⟨0, ⟨_, exG1⟩, Nat.zero_le _, rfl, rfl, rfl, P6⟩
 case round =>
  clear P6
  obtain ⟨i, z, hi, hn, rfl, rfl, HP⟩ := hrel
  have HN := hI_ hn; clear hn
  by_cases hlt : i < g.next.length
  ·obtain ⟨ab, ao, rfl, hcell, hx64⟩ := I2.out.at_ i hlt
   have HT := hI_ (fold_take byteW W1 g.next i hlt)
   have HX := hI_ hx64
   clear hx64
   generalize g.next[i] = x at *
   go_wp2_with fail
   refine (refw_Num1 w.heap.size wb _ x HX.out _ HP.out z.ext.size).mono ?_
   rintro e _ ⟨rfl, hw1⟩
   obtain ⟨z7, rfl, hP, hs1⟩ := rwrote_ew hw1 HL.out
   rw [← HT.out] at hP
   have P7 := hI_ hP
   clear hP hw1 hs1
   go_wp2_with fail
   go_roundg (g.next.length - (i + 1))
   case measure => have := HN.out; omega
   case rel => exact ⟨i + 1, ⟨_, exG1⟩, hlt, rfl, by go_num, rfl, P7⟩
  ·obtain rfl : i = g.next.length := by omega
   have hp := HP.out
   rw [List.take_length] at hp
   have P8 := hI_ hp
   clear hp HP HN
   go_wp2_with fail
   refine (refw_Num4 w.heap.size wb _ g.done (by unfold I64; omega) _ P8.out z.ext.size).mono ?_
   rintro e _ ⟨rfl, hw1⟩
   obtain ⟨z9, rfl, hP, hs1⟩ := rwrote_ew hw1 HL.out
   have P9 := hI_ hP
   clear hP hw1 hs1 P8
   go_wp2_with fail
   refine (refw_Num1 w.heap.size wb _ ((sortK g.keys).length : Int) (by unfold I64; omega) _ P9.out z9.ext.size).mono ?_
   rintro e _ ⟨rfl, hw1⟩
   obtain ⟨zA, rfl, hP, hs1⟩ := rwrote_ew hw1 HL.out
   obtain ⟨W2, hW2⟩ : ∃ W2, W2 = byteW (longW (g.next.foldl byteW W1) g.done) g.keys.length := ⟨_, rfl⟩
   rw [← hW2] at HDN
   have PA : Hid (RW zA.on w.heap.size wb (((sortK g.keys).take 0).foldl refKW W2)) := hI_ (by rw [List.take_zero, List.foldl_nil, hW2, ← HSL.out]; exact hP)
   clear hP hw1 hs1 P9 hW2
   clear HSL
   generalize sortK g.keys = l at *
   go_wp2_with fail
   go_loopg [7] l.length (fun n iv wr => ∃ (i : Nat) (z : EW Non w), i ≤ l.length ∧ n = l.length - i ∧ iv = .int .i64 i ∧ wr = z.on ∧ Hid (RW wr w.heap.size wb ((l.take i).foldl refKW W2)))
   case atStart => exact ⟨0, ⟨_, exG1⟩, Nat.zero_le _, rfl, rfl, rfl, PA⟩
   case round =>
    clear PA
    obtain ⟨j, zz, hj, hjn, rfl, rfl, HJ⟩ := hrel
    have HN := hI_ hjn; clear hjn
    by_cases hlt2 : j < l.length
    ·obtain ⟨gi, rfl, hg, k0, k1⟩ := HC.out j hlt2
     have HT := hI_ (fold_take refKW W2 l j hlt2)
     have HKP := hI_ (HKM.out _ (List.getElem_mem hlt2))
     generalize l[j] = p at *
     obtain ⟨pk, px⟩ := p
     have k0 : w.cell? ⟨gi, j * 2, none⟩ = some (.string pk) := k0
     have k1 : w.cell? ⟨gi, j * 2 + 1, none⟩ = some (.int .u64 px) := k1
     have HPK : Hid (pk.size ≤ 9223372036854775807 ∧ px < 18446744073709551616) := hI_ ⟨by have := HKP.out.2.1; have : pk.size ≤ 16 := this; omega, HKP.out.2.2⟩
     go_wp2_with fail
     refine (refw_Text w.heap.size wb _ pk HPK.out.1 _ HJ.out zz.ext.size).mono ?_
     rintro e _ ⟨rfl, hw1⟩
     obtain ⟨zB, rfl, hP, hs1⟩ := rwrote_ew hw1 HL.out
     have PB := hI_ hP
     clear hP hw1 hs1
     go_wp2_with fail
     refine (refw_Bits w.heap.size wb _ px HPK.out.2 _ PB.out zB.ext.size).mono ?_
     rintro e _ ⟨rfl, hw1⟩
     obtain ⟨zC, rfl, hP, hs1⟩ := rwrote_ew hw1 HL.out
     have PC : Hid (RW zC.on w.heap.size wb ((l.take (j + 1)).foldl refKW W2)) := hI_ (by rw [HT.out]; exact hP)
     clear hP hw1 hs1
     go_wp2_with fail
     go_roundg (l.length - (j + 1))
     case measure => have := HN.out; omega
     case rel => exact ⟨j + 1, ⟨_, exG1⟩, hlt2, rfl, by go_num, rfl, PC⟩
    ·obtain rfl : j = l.length := by omega
     have hp := HJ.out
     rw [List.take_length] at hp
     obtain ⟨W3, hW3⟩ : ∃ W3, W3 = l.foldl refKW W2 := ⟨_, rfl⟩
     rw [← hW3] at HDN hp
     have P3b : Hid (RW zz.on w.heap.size wb ((List.range 0).foldl (cliW g.cl) W3)) := hI_ hp
     clear hp hW3 HJ
     go_wp2_with fail
     go_loopg [8, 9, 10] 8 (fun n iv v9 v10 wr => ∃ (i : Nat) (z : EW Non w), i ≤ 8 ∧ n = 8 - i ∧ iv = .int .i64 ((i : Int) + 1) ∧ wr = z.on ∧ Hid (RW wr w.heap.size wb ((List.range i).foldl (cliW g.cl) W3)))
     case atStart => exact ⟨0, ⟨_, exG1⟩, by omega, rfl, rfl, rfl, P3b⟩
     case round =>
      clear P3b
      obtain ⟨i, z, hi, hn, rfl, rfl, HP⟩ := hrel
      have HN := hI_ hn; clear hn
      by_cases hlt : i < 8
      ·have hst := HH.out.st.cell (st_get g.cl hlt)
       obtain ⟨hr0, hr1⟩ := rs_get g.cl hlt
       have r0 := HH.out.rs.cell hr0
       have r1 := HH.out.rs.cell hr1
       obtain ⟨cb1, cb2, cb3, cb4, cb5, cb6, -⟩ := HI.out.cb i
       have HCB := hI_ (And.intro (And.intro cb3 cb4) (And.intro cb5 cb6))
       have HT : Hid ((List.range (i + 1)).foldl (cliW g.cl) W3 = textW (longW ((List.range i).foldl (cliW g.cl) W3) (g.cl i).stamp) (resS (g.cl i).code (g.cl i).real).data.toList) := hI_ (by rw [List.range_succ, List.foldl_append]; rfl)
       generalize (g.cl i).stamp = sta at *
       generalize (g.cl i).code = cod at *
       generalize (g.cl i).real = rea at *
       obtain ⟨cn, hcn⟩ : ∃ cn, cn = i + 1 := ⟨_, rfl⟩
       rw [← hcn] at hst r0 r1
       have e1 : ((i : Int) + 1) = (cn : Int) := by omega
       rw [e1]
       have d8 : decide ((cn : Int) ≤ 8) = true := decide_eq_true (by omega)
       have b0 : (0 : Int) ≤ (cn : Int) := by omega
       have b9 : (cn : Int) < 9 := by omega
       have wn : IntKind.i64.wrap ((cn : Int) + 1) = (cn : Int) + 1 := IntWalk.i64_in _ (by omega)
       have HCN := hI_ hcn
       clear hcn hr0 hr1 e1 cb3 cb4 cb5 cb6
       go_wp2_with fail
       refine (refw_Num4 w.heap.size wb _ sta (by unfold I64; omega) _ HP.out z.ext.size).mono ?_
       rintro e _ ⟨rfl, hw1⟩
       obtain ⟨y6, rfl, hP, hs1⟩ := rwrote_ew hw1 HL.out
       have P6 := hI_ hP
       clear hP hw1 hs1
       go_wp2_with fail
       refine Calls.ew (ref11_ResultText cod HCB.out.1 rea HCB.out.2.1 HCB.out.2.2 _) ?_
       rintro e y7 rfl
       have P7 := hI_ (P6.out.extN y7.ext)
       have HRT : Hid (resS cod rea = ⟨(resT cod rea).toArray⟩ ∧ ((⟨(resT cod rea).toArray⟩ : ByteArray)).size ≤ 9223372036854775807) := hI_ (by
        have e := (resS_of HCB.out.1 HCB.out.2.2).1
        refine ⟨e, ?_⟩
        rw [← e]; exact Nat.le_trans (resS_le _ _) (by omega))
       obtain ⟨rs, hrs⟩ : ∃ rs, rs = (⟨(resT cod rea).toArray⟩ : ByteArray) := ⟨_, rfl⟩
       rw [← hrs] at HRT ⊢
       clear hrs
       have X8 : Ext Non w y7.on := exG1
       obtain ⟨y8, hy8⟩ := X8.ew
       rw [hy8] at P7 ⊢
       clear hy8 X8
       go_wp2_with fail
       refine (refw_Text w.heap.size wb _ rs HRT.out.2 _ P7.out y8.ext.size).mono ?_
       rintro e _ ⟨rfl, hw1⟩
       obtain ⟨y9, rfl, hP, hs1⟩ := rwrote_ew hw1 HL.out
       rw [← HRT.out.1, ← HT.out] at hP
       have P9 := hI_ hP
       clear hP hw1 hs1
       go_wp2_with fail
       go_roundg (8 - (i + 1))
       case measure => have := HN.out; omega
       case rel => exact ⟨i + 1, ⟨_, exG1⟩, by omega, rfl, by have := HCN.out; go_num, rfl, P9⟩
      ·obtain rfl : i = 8 := by omega
       have d8 : decide (((8 : Nat) : Int) + 1 ≤ 8) = false := by decide
       go_wp2_with fail
       refine Calls.ew (refw_Done w.heap.size wb _ _ HP.out) ?_
       rintro e y1 rfl
       rw [HDN.out]
       go_wp2
       go_ret
       exact ⟨rfl, exG1⟩
end Go.Proofs.YtfefeepljbfcdaaGreat
