/- Joined texts: Room12. What each proves stands at its head; no conditions beside those in its theorems. -/
import Derived.Deep.MidRow
import Derived.Deep.WholeRow
import Derived.Shelf.SlMaps.Clone
import Derived.Test.YtfefeepljbfcdaaPjAA
import Derived.Test.YtfefeepljbfcdaaPjAB
import Derived.Test.YtfefeepljbfcdaaPjAC
import Derived.Test.YtfefeepljbfcdaaPjAE
import Derived.Test.YtfefeepljbfcdaaPjAI
import Derived.Test.YtfefeepljbfcdaaPjAM
import Derived.Test.YtfefeepljbfcdaaPjAF
import Derived.Test.YtfefeepljbfcdaaPjAJ
import Derived.Test.YtfefeepljbfcdaaPjAK
import Derived.Test.YtfefeepljbfcdaaPjAN
import Derived.Test.YtfefeepljbfcdaaPjAR
import Derived.Test.YtfefeepljbfcdaaPjAS
import Derived.Test.YtfefeepljbfcdaaPjAD
import Derived.Test.YtfefeepljbfcdaaPjAT
import Derived.Test.YtfefeepljbfcdaaPjAO
import Derived.Test.YtfefeepljbfcdaaPjAP
import Derived.Test.YtfefeepljbfcdaaPjAU
import Derived.Test.YtfefeepljbfcdaaPjAV
import Derived.Test.YtfefeepljbfcdaaPjAW
import Derived.Test.YtfefeepljbfcdaaPjAX
import Derived.Test.YtfefeepljbfcdaaPjAY
import Derived.Test.YtfefeepljbfcdaaPjAZ
import Derived.Test.YtfefeepljbfcdaaPjBA
import Derived.Test.YtfefeepljbfcdaaPjBF
import Derived.Test.YtfefeepljbfcdaaPjAL
import Derived.Test.YtfefeepljbfcdaaPjBG
import Derived.Test.YtfefeepljbfcdaaPjBH
import Derived.Test.YtfefeepljbfcdaaPjAG
import Derived.Test.YtfefeepljbfcdaaPjBD
import Derived.Test.YtfefeepljbfcdaaPjAH
import Derived.Test.YtfefeepljbfcdaaPjBI
import Derived.Test.YtfefeepljbfcdaaPjAQ
import Derived.Test.YtfefeepljbfcdaaPjBC
import Derived.Test.YtfefeepljbfcdaaPjBE
import Derived.Test.YtfefeepljbfcdaaPjBJ
import Derived.Test.YtfefeepljbfcdaaPjBK
import Derived.Test.YtfefeepljbfcdaaPjBL
import Derived.Test.YtfefeepljbfcdaaPjBB
/- The law LedgerRoom: the walk. -/
namespace Go.Proofs.Ytfefeepljbfcdaa
open Go.RowKit Go.Lib F64
set_option linter.unusedSimpArgs false
set_option linter.unusedVariables false
attribute [local go_sem] run_store_float
attribute [local go_sem low] EW.cellN EW.frozN alloc_cell_or alloc_froz_or EW.cellF EW.frozF EW.cell1 EW.froz1
attribute [local go_sem] relAt relUpon
theorem field_conf0 (W : World) (x y : Value) : (Instr.field 24 (.agg #[x, y]) 0).run Try.prog W = .ok x W := by kernel_rfl
attribute [local go_sem] field_conf0
theorem nd_apply {g : Lg} (h : NdK g.keys) (o : Opn) : NdK (applyL g o).keys := by
  unfold applyL moveL
  (repeat' split) <;> first | exact h | exact nd_setK h _ _ | exact nd_delK h _
theorem nd_do {g : Lg} (h : NdK g.keys) (r : Req) : NdK (doL g r).keys := by
  unfold doL
  (repeat' split) <;> first | exact h | exact nd_apply (g := tick g) h _
theorem nd_turn {g : Lg} (h : NdK g.keys) : NdK (turnL g).keys := by
  unfold turnL
  split <;> exact h
theorem do_same {g : Lg} {r : Req} (h : doE g r ≠ 0) : doL g r = g := by unfold doL; rw [if_pos h]
theorem apply_done (g : Lg) (o : Opn) : (applyL g o).done = g.done := by
  unfold applyL moveL
  (repeat' split) <;> rfl
theorem do_done {g : Lg} {r : Req} (h : doE g r = 0) : (doL g r).done = g.done + 1 := by
  unfold doL
  rw [if_neg (fun q => q h)]
  (repeat' split) <;> first | rfl | exact apply_done (tick g) _
theorem turn_same {g : Lg} (h : turnE g ≠ 0) : turnL g = g := by unfold turnL; rw [if_neg h]
theorem ledgT_small {g : Lg} (I : Inv g) : (ledgT g).length ≤ 4611686018427387904 := by
  obtain ⟨p1, p2, p3, p4⟩ := ledgT_parts I
  have hc := confT_len g.epoch g.mem
  have : (ledgT g).length ≤ 1000 := by
    unfold ledgT textB
    simp only [List.length_append, big1_len, big2_len, big4_len, flat_one]
    omega
  omega
/-- What the reference opens of a ledger's bytes. -/
theorem open_text {g : Lg} (I : Inv g) (nd : NdK g.keys) (w : World) : Calls Try.prog 28 #[.string (ledgS g)] w fun e w' =>
    ∃ rl ia n ic, e = .returned (.tuple #[.pointer (some ⟨rl, 0, none⟩), .int .i64 0]) ∧ w'.cell? ⟨rl, 4, none⟩ = some (.slice ia n ic) ∧ (n : Nat) ≤ 16 ∧ Ext Non w w' := by
  obtain ⟨h1, h2⟩ := open_ok I nd
  rw [ledgS_of I nd]
  refine (ref12_Open_ok (ledgT g) (ledgT_small I) h1 w).mono fun e w' ⟨b, sb, rb, he, hL, hx, _⟩ => ?_
  obtain ⟨ia, ic, hc, -⟩ := hL.row
  refine ⟨b, ia, _, ic, he, hc, ?_, hx⟩
  rw [h2, sortK_len]
  exact I.kl
set_option maxHeartbeats 4000000 in
set_option maxRecDepth 100000 in
theorem walk_LedgerRoom (ep : Int) (a : Option Addr) (cap : Nat) (xs : List Int) (sa : Option Addr) (len scap : Nat) (F : Nat → Qop) (hl : len ≤ maxLen) (w : World) (h : Ints w a cap xs) (hs : Ops w sa len F) :
    Calls Try.prog 5 #[.agg #[.int .i64 ep, .slice a xs.length cap], .slice sa len scap] w fun e w' => e = .returned (.bool true) ∧ Ext Non w w' := by
  unfold maxLen at hl
  have HH := Go.Lib.hid h
  have HS := Go.Lib.hid hs
  clear h hs
  by_cases hne : confB ep xs = true ∧ ep = 0
  · obtain ⟨hc, rfl⟩ := hne
    have hm : membersB xs = true := by unfold confB at hc; simp only [Bool.and_eq_true] at hc; exact hc.2
    have HM := Go.Lib.hid hm
    clear hc hm
    have B0 := Go.Lib.hid (Bx.newAt w [.int .i64 0, .slice a xs.length cap] 24 _ rfl)
    go_enter Try.func5, Try.ntmps5
    go_wp2_with fail
    refine Calls.ew (law12_lives _) ?_
    rintro e x1 rfl
    have B1 := Go.Lib.hid (B0.out.extN x1.ext)
    have c0 : x1.on.cell? ⟨w.heap.size, 0, none⟩ = some (.int .i64 0) := B1.out.cell rfl
    have c1 : x1.on.cell? ⟨w.heap.size, 1, none⟩ = some (.slice a xs.length cap) := B1.out.cell rfl
    have XA := Go.Lib.hid (by (repeat (first | with_reducible (first | exact Ext.refl _ _ | assumption | refine Ext.upN ?_ | refine Ext.alloc ?_ _ | refine Ext.drew ?_ | refine Ext.drewN ?_ _ | refine Ext.up1N (by first | omega | simp) ?_) | refine Ext.alloc ?_ _ | refine Ext.setCell ?_ (.inr (by first | omega | simp)) _)) : Ext Non w x1.on)
    go_wp2_with fail
    refine (ledger_New_ok a cap xs HM.out _ (HH.out.extN (by (repeat (first | with_reducible (first | exact Ext.refl _ _ | assumption | refine Ext.upN ?_ | refine Ext.alloc ?_ _ | refine Ext.drew ?_ | refine Ext.drewN ?_ _ | refine Ext.up1N (by first | omega | simp) ?_) | refine Ext.alloc ?_ _ | refine Ext.setCell ?_ (.inr (by first | omega | simp)) _))))).mono ?_
    rintro e _ ⟨b, m, rfl, hx, hL, hb, hm⟩
    obtain ⟨x2, rfl⟩ := hx.ew
    have HL2 := Go.Lib.hid hL
    have HFV : Hid (∀ k, Two b m k → w.heap.size ≤ k) := Go.Lib.hid (fun k q => by have z1 := XA.out.size; rcases q with q | q <;> omega)
    have X2 := Go.Lib.hid (XA.out.trans x2.ext)
    have I0 := Go.Lib.hid (inv_new HM.out)
    clear hx hL hb hm c0 c1
    generalize x2.on = w3 at *
    clear B1 XA x2 x1
    go_wp2_with fail
    go_loopg [7, 8, 9, 10, 11, 12] len (fun k iv v8 v9 v10 v11 v12 wr => ∃ (i : Nat) (g : Lg), i ≤ len ∧ k = len - i ∧ iv = .int .i64 i ∧ Inv g ∧ NdK g.keys ∧ LD wr b m g ∧ Ext Non w wr)
    case atStart => exact ⟨0, newL xs, Nat.zero_le _, rfl, rfl, I0.out, List.nodup_nil, HL2.out, X2.out⟩
    case round =>
      obtain ⟨i, g, hi, rfl, rfl, I, nd, L, x⟩ := hrel
      have II := Go.Lib.hid I; have LL := Go.Lib.hid L; have XX := Go.Lib.hid x; have ND := Go.Lib.hid nd
      clear I L x HL2 X2 nd
      by_cases hlt : i < len
      · obtain ⟨ob, oo, rfl, hsb, p0, p1, p2, p3, p4, p5, p6⟩ := (HS.out.extN XX.out).at_ i hlt
        have OK := Go.Lib.hid (HS.out.ok i hlt)
        generalize F i = q at *
        obtain ⟨qt, qc, qs, qk, qkey, qn, qid⟩ := q
        simp only at p0 p1 p2 p3 p4 p5 p6
        obtain ⟨ls, hls⟩ : ∃ ls, ls = ledgS g := ⟨_, rfl⟩
        have KT : Hid (∀ w', LD w' b m g → Calls Try.prog 27 #[.pointer (some ⟨b, 0, none⟩)] w' fun e w'' => e = .returned (.string ls) ∧ Ext Non w' w'') := Go.Lib.hid (fun w' h => by rw [hls]; exact ledger_Text b m g II.out w' h)
        have HLS := Go.Lib.hid hls
        clear hls
        have hgd := II.out.dn
        have hge := II.out.ep
        have KD : Hid (∀ w', LD w' b m g → Calls Try.prog 24 #[.pointer (some ⟨b, 0, none⟩)] w' fun e w'' => e = .returned (.int .i64 g.done) ∧ w' = w'') := Go.Lib.hid (fun w' h => ledger_Done b m g w' h)
        have hwd : IntKind.i64.wrap (g.done + 1) = g.done + 1 := IntWalk.i64_in _ (by omega)
        go_wp2_with fail
        refine Calls.ew (KT.out _ LL.out) ?_
        rintro e x4 rfl
        go_wp2_with fail
        refine (KD.out _ (LL.out.extN x4.ext)).mono ?_
        rintro e _ ⟨rfl, rfl⟩
        -- the step
        cases qt
        · go_wp2_with fail
          refine Calls.ew (ask_Request qc qs qk qkey qn qid _) ?_
          rintro e x6 rfl
          have XZ := Go.Lib.hid (by (repeat (first | with_reducible (first | exact Ext.refl _ _ | assumption | refine Ext.upN ?_ | refine Ext.alloc ?_ _ | refine Ext.drew ?_ | refine Ext.drewN ?_ _ | refine Ext.up1N (by first | omega | simp) ?_) | refine Ext.alloc ?_ _ | refine Ext.setCell ?_ (.inr (by first | omega | simp)) _)) : Ext Non wr x6.on)
          go_wp2_with fail
          have hn64 : qn.toNat < 18446744073709551616 := by have := OK.out.b0; have := OK.out.b1; simp only at this; omega
          refine (ledger_Do b m g II.out qc qs qk qkey qn.toNat qid OK.out.c OK.out.s OK.out.k OK.out.id hn64 _ (LL.out.extN XZ.out)).mono ?_
          rintro e w7 ⟨rfl, x7, L7⟩
          have X7 := Go.Lib.hid ((XX.out.trans XZ.out).step x7 (fun i hi s => by have := HFV.out i s; omega))
          have I7 := Go.Lib.hid (inv_do II.out ⟨qc, qs, ⟨qk, qkey, qn.toNat, qid⟩⟩ hn64).1
          have N7 := Go.Lib.hid (nd_do ND.out ⟨qc, qs, ⟨qk, qkey, qn.toNat, qid⟩⟩)
          have S7 := Go.Lib.hid (do_same (g := g) (r := ⟨qc, qs, ⟨qk, qkey, qn.toNat, qid⟩⟩))
          have D7 := Go.Lib.hid (do_done (g := g) (r := ⟨qc, qs, ⟨qk, qkey, qn.toNat, qid⟩⟩))
          have HL7 := Go.Lib.hid L7
          clear x7 L7 hn64 p0 p1 p2 p3 p4 p5 p6
          clear XZ x6 x4
          generalize doL g ⟨qc, qs, ⟨qk, qkey, qn.toNat, qid⟩⟩ = g2 at *
          generalize doE g ⟨qc, qs, ⟨qk, qkey, qn.toNat, qid⟩⟩ = e2 at *
          generalize (doR g ⟨qc, qs, ⟨qk, qkey, qn.toNat, qid⟩⟩).code = rc at *
          generalize (doR g ⟨qc, qs, ⟨qk, qkey, qn.toNat, qid⟩⟩).real = rr at *
          by_cases he0 : e2 = 0
          · have eb : (e2 == 0) = true := by simpa using he0
            have hd := D7.out he0
            have KD3 : Hid (∀ w', LD w' b m g2 → Calls Try.prog 24 #[.pointer (some ⟨b, 0, none⟩)] w' fun e w'' => e = .returned (.int .i64 (g.done + 1)) ∧ w' = w'') := Go.Lib.hid (fun w' h => by rw [← hd]; exact ledger_Done b m g2 w' h)
            clear hd he0
            go_wp2_with fail
            refine (KD3.out _ HL7.out).mono ?_
            rintro e _ ⟨rfl, rfl⟩
            clear eb KD3
            have KT2 := Go.Lib.hid (fun w' (h : LD w' b m g2) => ledger_Text b m g2 I7.out w' h)
            have KO := Go.Lib.hid (fun w' => open_text I7.out N7.out w')
            have KD2 := Go.Lib.hid (fun w' (h : LD w' b m g2) => ledger_Done b m g2 w' h)
            have KC2 := Go.Lib.hid (fun w' (h : LD w' b m g2) => ledger_Conf b m g2 I7.out w' h)
            have hgd2 := I7.out.dn
            have hge2 := I7.out.ep
            have SAME : Hid (e2 ≠ 0 → ledgS g2 = ls) := Go.Lib.hid (fun h => by rw [S7.out h, HLS.out])
            have w4a : IntKind.i64.wrap (g2.epoch + 1) = g2.epoch + 1 := IntWalk.i64_in _ (by omega)
            have w4b : IntKind.i64.wrap (4 * (g2.epoch + 1)) = 4 * (g2.epoch + 1) := IntWalk.i64_in _ (by omega)
            have dgt : decide (4 * (g2.epoch + 1) < g2.done) = false := decide_eq_false (by omega)
            go_wp2_with fail
            refine Calls.ew (KT2.out _ HL7.out) ?_
            rintro e x8 rfl
            go_wp2_with fail
            refine (KO.out _).mono ?_
            rintro e _ ⟨rl, ia, n, ic, rfl, hc, hn16, hx⟩
            obtain ⟨x9, rfl⟩ := hx.ew
            have HC := Go.Lib.hid hc
            have L9 := Go.Lib.hid (HL7.out.extN (x8.ext.trans x9.ext))
            have X9 := Go.Lib.hid ((X7.out.trans x8.ext).trans x9.ext)
            have d16 : decide ((16 : Int) < (n : Int)) = false := decide_eq_false (by omega)
            have d16' : decide (16 < n) = false := decide_eq_false (by omega)
            clear hx hc
            generalize x9.on = w9 at *
            clear HL7 X7 x9 x8 w7
            have c4 : w9.cell? ⟨rl, 4, none⟩ = some (.slice ia n ic) := HC.out
            by_cases he : e2 = 0
            · have en : (e2 != 0) = false := by simpa using he
              go_wp2_with fail
              refine (KD2.out _ L9.out).mono ?_
              rintro e _ ⟨rfl, rfl⟩
              go_wp2_with fail
              refine (KC2.out _ L9.out).mono ?_
              rintro e _ ⟨fa, fc, rfl, hx, -, -⟩
              obtain ⟨x10, rfl⟩ := hx.ew
              go_wp2_with fail
              go_roundg (len - (i + 1))
              case measure => omega
              case rel => exact ⟨i + 1, g2, hlt, rfl, by go_num, I7.out, N7.out, L9.out.extN x10.ext, X9.out.trans x10.ext⟩
            · have en : (e2 != 0) = true := by simpa using he
              have hsl := SAME.out he
              rw [hsl] at KT2
              clear hsl
              go_wp2_with fail
              refine Calls.ew (KT2.out _ L9.out) ?_
              rintro e x11 rfl
              go_wp2_with fail
              refine (KD2.out _ (L9.out.extN x11.ext)).mono ?_
              rintro e _ ⟨rfl, rfl⟩
              go_wp2_with fail
              refine (KC2.out _ (L9.out.extN x11.ext)).mono ?_
              rintro e _ ⟨fa, fc, rfl, hx, -, -⟩
              obtain ⟨x10, rfl⟩ := hx.ew
              go_wp2_with fail
              go_roundg (len - (i + 1))
              case measure => omega
              case rel => exact ⟨i + 1, g2, hlt, rfl, by go_num, I7.out, N7.out, (L9.out.extN x11.ext).extN x10.ext, (X9.out.trans x11.ext).trans x10.ext⟩
          · have eb : (e2 == 0) = false := by simpa using he0
            clear he0
            have KT2 := Go.Lib.hid (fun w' (h : LD w' b m g2) => ledger_Text b m g2 I7.out w' h)
            have KO := Go.Lib.hid (fun w' => open_text I7.out N7.out w')
            have KD2 := Go.Lib.hid (fun w' (h : LD w' b m g2) => ledger_Done b m g2 w' h)
            have KC2 := Go.Lib.hid (fun w' (h : LD w' b m g2) => ledger_Conf b m g2 I7.out w' h)
            have hgd2 := I7.out.dn
            have hge2 := I7.out.ep
            have SAME : Hid (e2 ≠ 0 → ledgS g2 = ls) := Go.Lib.hid (fun h => by rw [S7.out h, HLS.out])
            have w4a : IntKind.i64.wrap (g2.epoch + 1) = g2.epoch + 1 := IntWalk.i64_in _ (by omega)
            have w4b : IntKind.i64.wrap (4 * (g2.epoch + 1)) = 4 * (g2.epoch + 1) := IntWalk.i64_in _ (by omega)
            have dgt : decide (4 * (g2.epoch + 1) < g2.done) = false := decide_eq_false (by omega)
            go_wp2_with fail
            refine Calls.ew (KT2.out _ HL7.out) ?_
            rintro e x8 rfl
            go_wp2_with fail
            refine (KO.out _).mono ?_
            rintro e _ ⟨rl, ia, n, ic, rfl, hc, hn16, hx⟩
            obtain ⟨x9, rfl⟩ := hx.ew
            have HC := Go.Lib.hid hc
            have L9 := Go.Lib.hid (HL7.out.extN (x8.ext.trans x9.ext))
            have X9 := Go.Lib.hid ((X7.out.trans x8.ext).trans x9.ext)
            have d16 : decide ((16 : Int) < (n : Int)) = false := decide_eq_false (by omega)
            have d16' : decide (16 < n) = false := decide_eq_false (by omega)
            clear hx hc
            generalize x9.on = w9 at *
            clear HL7 X7 x9 x8 w7
            have c4 : w9.cell? ⟨rl, 4, none⟩ = some (.slice ia n ic) := HC.out
            by_cases he : e2 = 0
            · have en : (e2 != 0) = false := by simpa using he
              go_wp2_with fail
              refine (KD2.out _ L9.out).mono ?_
              rintro e _ ⟨rfl, rfl⟩
              go_wp2_with fail
              refine (KC2.out _ L9.out).mono ?_
              rintro e _ ⟨fa, fc, rfl, hx, -, -⟩
              obtain ⟨x10, rfl⟩ := hx.ew
              go_wp2_with fail
              go_roundg (len - (i + 1))
              case measure => omega
              case rel => exact ⟨i + 1, g2, hlt, rfl, by go_num, I7.out, N7.out, L9.out.extN x10.ext, X9.out.trans x10.ext⟩
            · have en : (e2 != 0) = true := by simpa using he
              have hsl := SAME.out he
              rw [hsl] at KT2
              clear hsl
              go_wp2_with fail
              refine Calls.ew (KT2.out _ L9.out) ?_
              rintro e x11 rfl
              go_wp2_with fail
              refine (KD2.out _ (L9.out.extN x11.ext)).mono ?_
              rintro e _ ⟨rfl, rfl⟩
              go_wp2_with fail
              refine (KC2.out _ (L9.out.extN x11.ext)).mono ?_
              rintro e _ ⟨fa, fc, rfl, hx, -, -⟩
              obtain ⟨x10, rfl⟩ := hx.ew
              go_wp2_with fail
              go_roundg (len - (i + 1))
              case measure => omega
              case rel => exact ⟨i + 1, g2, hlt, rfl, by go_num, I7.out, N7.out, (L9.out.extN x11.ext).extN x10.ext, (X9.out.trans x11.ext).trans x10.ext⟩
        · clear p1 p2 p3 p4 p5 p6
          go_wp2_with fail
          refine (ledger_Turn b m g II.out _ (LL.out.extN x4.ext)).mono ?_
          rintro e w7 ⟨rfl, x7, L7⟩
          have X7 := Go.Lib.hid ((XX.out.trans x4.ext).step x7 (fun i hi s => by have s : i = b := s; have := HFV.out b (.inl rfl); omega))
          have I7 := Go.Lib.hid (inv_turn II.out)
          have N7 := Go.Lib.hid (nd_turn ND.out)
          have S7 := Go.Lib.hid (turn_same (g := g))
          have HL7 := Go.Lib.hid L7
          clear x7 L7 p0
          clear x4
          generalize turnL g = g2 at *
          generalize turnE g = e2 at *
          have KT2 := Go.Lib.hid (fun w' (h : LD w' b m g2) => ledger_Text b m g2 I7.out w' h)
          have KO := Go.Lib.hid (fun w' => open_text I7.out N7.out w')
          have KD2 := Go.Lib.hid (fun w' (h : LD w' b m g2) => ledger_Done b m g2 w' h)
          have KC2 := Go.Lib.hid (fun w' (h : LD w' b m g2) => ledger_Conf b m g2 I7.out w' h)
          have hgd2 := I7.out.dn
          have hge2 := I7.out.ep
          have SAME : Hid (e2 ≠ 0 → ledgS g2 = ls) := Go.Lib.hid (fun h => by rw [S7.out h, HLS.out])
          have w4a : IntKind.i64.wrap (g2.epoch + 1) = g2.epoch + 1 := IntWalk.i64_in _ (by omega)
          have w4b : IntKind.i64.wrap (4 * (g2.epoch + 1)) = 4 * (g2.epoch + 1) := IntWalk.i64_in _ (by omega)
          have dgt : decide (4 * (g2.epoch + 1) < g2.done) = false := decide_eq_false (by omega)
          go_wp2_with fail
          refine Calls.ew (KT2.out _ HL7.out) ?_
          rintro e x8 rfl
          go_wp2_with fail
          refine (KO.out _).mono ?_
          rintro e _ ⟨rl, ia, n, ic, rfl, hc, hn16, hx⟩
          obtain ⟨x9, rfl⟩ := hx.ew
          have HC := Go.Lib.hid hc
          have L9 := Go.Lib.hid (HL7.out.extN (x8.ext.trans x9.ext))
          have X9 := Go.Lib.hid ((X7.out.trans x8.ext).trans x9.ext)
          have d16 : decide ((16 : Int) < (n : Int)) = false := decide_eq_false (by omega)
          have d16' : decide (16 < n) = false := decide_eq_false (by omega)
          clear hx hc
          generalize x9.on = w9 at *
          clear HL7 X7 x9 x8 w7
          have c4 : w9.cell? ⟨rl, 4, none⟩ = some (.slice ia n ic) := HC.out
          by_cases he : e2 = 0
          · have en : (e2 != 0) = false := by simpa using he
            go_wp2_with fail
            refine (KD2.out _ L9.out).mono ?_
            rintro e _ ⟨rfl, rfl⟩
            go_wp2_with fail
            refine (KC2.out _ L9.out).mono ?_
            rintro e _ ⟨fa, fc, rfl, hx, -, -⟩
            obtain ⟨x10, rfl⟩ := hx.ew
            go_wp2_with fail
            go_roundg (len - (i + 1))
            case measure => omega
            case rel => exact ⟨i + 1, g2, hlt, rfl, by go_num, I7.out, N7.out, L9.out.extN x10.ext, X9.out.trans x10.ext⟩
          · have en : (e2 != 0) = true := by simpa using he
            have hsl := SAME.out he
            rw [hsl] at KT2
            clear hsl
            go_wp2_with fail
            refine Calls.ew (KT2.out _ L9.out) ?_
            rintro e x11 rfl
            go_wp2_with fail
            refine (KD2.out _ (L9.out.extN x11.ext)).mono ?_
            rintro e _ ⟨rfl, rfl⟩
            go_wp2_with fail
            refine (KC2.out _ (L9.out.extN x11.ext)).mono ?_
            rintro e _ ⟨fa, fc, rfl, hx, -, -⟩
            obtain ⟨x10, rfl⟩ := hx.ew
            go_wp2_with fail
            go_roundg (len - (i + 1))
            case measure => omega
            case rel => exact ⟨i + 1, g2, hlt, rfl, by go_num, I7.out, N7.out, (L9.out.extN x11.ext).extN x10.ext, (X9.out.trans x11.ext).trans x10.ext⟩
      · go_wp2
        go_ret
        exact ⟨rfl, XX.out⟩
  · have hn : confB ep xs = false ∨ ep ≠ 0 := by
      rcases Classical.em (ep = 0) with h | h
      · exact .inl (by simpa [h] using hne)
      · exact .inr h
    have HN := Go.Lib.hid hn
    clear hne hn
    have B0 := Go.Lib.hid (Bx.newAt w [.int .i64 ep, .slice a xs.length cap] 24 _ rfl)
    go_enter Try.func5, Try.ntmps5
    go_wp2_with fail
    refine Calls.ew (law12_lives _) ?_
    rintro e x1 rfl
    have B1 := Go.Lib.hid (B0.out.extN x1.ext)
    have c0 : x1.on.cell? ⟨w.heap.size, 0, none⟩ = some (.int .i64 ep) := B1.out.cell rfl
    have c1 : x1.on.cell? ⟨w.heap.size, 1, none⟩ = some (.slice a xs.length cap) := B1.out.cell rfl
    go_wp2_with fail
    refine Calls.ew (ledger_New_no ep a cap xs HN.out _ (HH.out.extN (by (repeat (first | with_reducible (first | exact Ext.refl _ _ | assumption | refine Ext.upN ?_ | refine Ext.alloc ?_ _ | refine Ext.drew ?_ | refine Ext.drewN ?_ _ | refine Ext.up1N (by first | omega | simp) ?_) | refine Ext.alloc ?_ _ | refine Ext.setCell ?_ (.inr (by first | omega | simp)) _))))) ?_
    rintro e x2 rfl
    go_wp2
    go_ret
    exact ⟨rfl, by (repeat (first | with_reducible (first | exact Ext.refl _ _ | assumption | refine Ext.upN ?_ | refine Ext.alloc ?_ _ | refine Ext.drew ?_ | refine Ext.drewN ?_ _ | refine Ext.up1N (by first | omega | simp) ?_) | refine Ext.alloc ?_ _ | refine Ext.setCell ?_ (.inr (by first | omega | simp)) _))⟩
set_option maxRecDepth 100000 in
open Go.ChangeShapes Go.WideShapes in
theorem law_LedgerRoom {H : Type} {enc : TypeId × Value → H} (W : World) {base : Nat} (v0 : Value) (d0 : DataW H) (p0 : List MemPlace) (v1 : Value) (d1 : DataW H) (p1 : List MemPlace)
    (h0 : DataW.Trod enc Try.prog W 0 (fun _ => true) true 24 v0 d0 p0) (ok0 : Value.okWide Try.prog W .any base 24 v0)
    (h1 : DataW.Trod enc Try.prog W 0 (fun _ => true) true 25 v1 d1 p1) (ok1 : Value.okWide Try.prog W .any base 25 v1) :
    Calls Try.prog 5 #[v0, v1] W fun e w' => e = .returned (.bool true) ∧ Below W.heap.size W w' := by
  obtain ⟨ep, a, cap, xs, rfl, _, hi, _⟩ := arg_conf ok0 h0
  obtain ⟨sa, len, scap, F, rfl, hl, hs⟩ := arg_ops ok1 h1
  exact (walk_LedgerRoom ep a cap xs sa len scap F hl W hi hs).mono fun _ _ ⟨a, b⟩ => ⟨a, b.toBelow⟩
end Go.Proofs.Ytfefeepljbfcdaa
