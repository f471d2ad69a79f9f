/- Joined texts: Read07G. What each proves stands at its head; no conditions beside those in its theorems. -/
import Derived.Deep.MidRow
import Derived.Deep.WholeRow
import Derived.Shelf.SlMaps.Clone
import Derived.Test.YtfefeepljbfcdaaGreatPjBM
/- Layer 7: the program reads a configuration, of any bytes. -/
namespace Go.Proofs.YtfefeepljbfcdaaGreat
open Go.RowKit Go.Lib F64
set_option linter.unusedSimpArgs false
set_option linter.unusedVariables false
attribute [local go_sem] run_store_float
attribute [local go_sem low] EW.cellN EW.frozN alloc_cell_or alloc_froz_or EW.cellF EW.frozF EW.cell1 EW.froz1
attribute [local go_sem] relAt relUpon relAtT relUponT
attribute [local go_sem low] EW.cellO EW.frozO
theorem toList_ne {a b : ByteArray} (h : a ≠ b) : ¬ a.toList = b.toList := fun e => h (by
 rw [toList_data, toList_data] at e
 exact ByteArray.ext (Array.ext' e))
set_option maxHeartbeats 4000000 in
set_option maxRecDepth 100000 in
theorem council_Read_no (t : List UInt8) (hl : t.length ≤ 4611686018427387904) (hno : ∀ ep xs, confB ep xs = true → t ≠ confT ep xs) (w : World) : Calls Tryz.prog 73 #[.string (sB t)] w fun e w' =>
  e = .returned (.tuple #[.agg #[.int .i64 0, .slice none 0 0], .int .i64 5]) ∧ Ext Non w w' := by
 have K0 : Hid (∀ w, Calls Tryz.prog 34 #[.string (sB t)] w fun e w' => ∃ b, e = .returned (.pointer (some ⟨b, 0, none⟩)) ∧ Ext Non w w' ∧ RdG w' b ⟨t, false⟩ ∧ w.heap.size ≤ b) := hI_ (fun w => rdg_Read _ hl w)
 obtain ⟨hd, hhd⟩ : ∃ hd : Int, hd = (numV 1 ⟨t, false⟩ : Nat) := ⟨_, rfl⟩
 obtain ⟨r1, hr1⟩ : ∃ r1, r1 = numR 1 ⟨t, false⟩ := ⟨_, rfl⟩
 obtain ⟨ep, hep⟩ : ∃ ep : Int, ep = (numV 2 r1 : Nat) := ⟨_, rfl⟩
 obtain ⟨r2, hr2⟩ : ∃ r2, r2 = numR 2 r1 := ⟨_, rfl⟩
 obtain ⟨N, hN⟩ : ∃ N, N = numV 1 r2 := ⟨_, rfl⟩
 obtain ⟨r3, hr3⟩ : ∃ r3, r3 = numR 1 r2 := ⟨_, rfl⟩
 have K1 : Hid (∀ b w', RdG w' b ⟨t, false⟩ → Calls Tryz.prog 72 #[.pointer (some ⟨b, 0, none⟩)] w' fun e w'' => e = .returned (.int .i64 hd) ∧ Ext (One b) w' w'' ∧ RdG w'' b r1) := hI_ (fun bb w' h => by rw [hhd, hr1]; exact rdg_Byte bb _ w' h)
 have K2 : Hid (∀ b w', RdG w' b r1 → Calls Tryz.prog 108 #[.pointer (some ⟨b, 0, none⟩)] w' fun e w'' => e = .returned (.int .i64 ep) ∧ Ext (One b) w' w'' ∧ RdG w'' b r2) := hI_ (fun bb w' h => by rw [hep, hr2]; exact rdg_Word bb _ w' h)
 have K3 : Hid (∀ b w', RdG w' b r2 → Calls Tryz.prog 72 #[.pointer (some ⟨b, 0, none⟩)] w' fun e w'' => e = .returned (.int .i64 (N : Int)) ∧ Ext (One b) w' w'' ∧ RdG w'' b r3) := hI_ (fun bb w' h => by rw [hN, hr3]; exact rdg_Byte bb _ w' h)
 have hepb : 0 ≤ ep ∧ ep ≤ 65535 := by have := numV_lt 2 r1; omega
 have HEP := hI_ hepb
 have hNb : N ≤ 255 := by have := numV_lt 1 r2; omega
 have HN10 : Hid (N ≤ 255) := hI_ hNb
 have HNO : Hid (∀ xs : List Int, Go.Proofs.YtfefeepljbfcdaaGreat.confB ep xs = true → ¬ (Go.Proofs.YtfefeepljbfcdaaGreat.confS ep xs).toList = (sB t).toList) := hI_ (fun xs h => toList_ne (by
  have hh := h
  unfold Go.Proofs.YtfefeepljbfcdaaGreat.confB at hh
  simp only [Bool.and_eq_true, decide_eq_true_eq] at hh
  rw [(confS_of hh.1 hh.2).1]
  intro e
  exact hno ep xs h (sB_inj e.symm)))
 clear hno hl hhd hr1 hep hr2 hN hr3 hepb hNb
 generalize sB t = tt at *
 have B2 := hI_ (Bx.newAt w [.int .i64 0, .slice none 0 0] 24 _ rfl)
 have XA0 := hI_ ((Ext.refl Non w).alloc (.cells [Value.int .i64 0, .slice none 0 0].toArray 24))
 go_enter Tryz.func73, Tryz.ntmps73
 go_wp2_with fail
 refine (K0.out _).mono ?_
 rintro e w1 ⟨rb, rfl, hx, hR, hrb⟩
 have BA := hI_ (B2.out.extN hx)
 have XA := hI_ (XA0.out.trans hx)
 have NB : Hid (w.heap.size < rb) := hI_ (by simp at hrb; omega)
 have HR := hI_ hR
 clear hx hR hrb B2 XA0
 go_wp2_with fail
 refine (K1.out _ _ HR.out).mono ?_
 rintro e w2 ⟨rfl, x2, hR⟩
 have BA2 := hI_ (BA.out.ext x2 (fun q => by have q : w.heap.size = rb := q; have := NB.out; omega))
 have XA2 := hI_ (XA.out.step x2 (fun i hi q => by have q : i = rb := q; have := NB.out; omega))
 have HR2 := hI_ hR
 clear x2 hR HR BA XA
 go_wp2_with fail
 refine (K2.out _ _ HR2.out).mono ?_
 rintro e w3 ⟨rfl, x2, hR⟩
 have BA3 := hI_ (BA2.out.ext x2 (fun q => by have q : w.heap.size = rb := q; have := NB.out; omega))
 have XA3 := hI_ (XA2.out.step x2 (fun i hi q => by have q : i = rb := q; have := NB.out; omega))
 have HR3 := hI_ hR
 have hk2 : rb < w3.heap.size := hR.lt
 clear x2 hR HR2 BA2 XA2
 go_upto_region 4 with fail
 have AL : Ext Non w3 (w3.alloc (.cells #[.int .i64 ep, .slice none 0 0] 24)) := (Ext.refl Non w3).alloc _
 have HR4 := hI_ (HR3.out.extN AL)
 have BA4 := hI_ (BA3.out.extN AL)
 have BX4 := hI_ (Bx.newAt w3 [.int .i64 ep, .slice none 0 0] 24 _ rfl)
 have XA4 := hI_ (XA3.out.trans AL)
 clear HR3 BA3 XA3 AL
 obtain ⟨kx, hkx⟩ : ∃ kx, kx = w3.heap.size := ⟨_, rfl⟩
 rw [← hkx] at BX4 hk2 ⊢
 have NK : Hid (w.heap.size < rb ∧ rb < kx) := hI_ ⟨NB.out, hk2⟩
 clear NB hkx hk2
 generalize w3.alloc (.cells #[.int .i64 ep, .slice none 0 0] 24) = w4 at *
 clear w3 w2
 go_wp2_with fail
 refine (K3.out _ _ HR4.out).mono ?_
 rintro e w5 ⟨rfl, x5, hR⟩
 have HR5 := hI_ hR
 have BA5 := hI_ (BA4.out.ext x5 (fun q => by have q : w.heap.size = rb := q; have := NK.out; omega))
 have BX5 := hI_ (BX4.out.ext x5 (fun q => by have q : kx = rb := q; have := NK.out; omega))
 have XA5 := hI_ (XA4.out.step x5 (fun i hi q => by have q : i = rb := q; have := NK.out; omega))
 clear x5 hR HR4 BA4 BX4 XA4 w4
 go_wp2_with fail
 go_loopg [8] N (fun n iv wr => ∃ (i : Nat) (v : Value) (xs : List Int) (r : Rd) (z : EW Non w), i ≤ N ∧ n = N - i ∧ iv = .int .i64 ((N - i : Nat) : Int) ∧ wr = z.on ∧ xs.length = i ∧ Hid (∀ x ∈ xs, 0 ≤ x ∧ x ≤ 255) ∧ Hid (RdG wr rb r) ∧ Hid (Bx wr w.heap.size [.int .i64 0, .slice none 0 0] 24) ∧ Hid (Bx wr kx [.int .i64 ep, v] 24) ∧ Hid (wr.ownsRow (kx + 1) 3 1 v i (xs.map (Value.int .i64))))
 case atStart =>
  obtain ⟨z, hz⟩ := XA5.out.ew
  subst hz
  exact ⟨0, .slice none 0 0, [], r3, z, Nat.zero_le _, rfl, rfl, rfl, rfl, hI_ (fun x hx => nomatch hx), HR5, BA5, BX5, hI_ (World.ownsRow_nil _ _ _ _)⟩
 case round =>
  obtain ⟨i, v, xs, r, z, hi, hn, rfl, rfl, hxl, HXB, HWi, BAi, BXi, ROW⟩ := hrel
  have HXL := hI_ hxl
  clear hxl
  have HG := hI_ hn; clear hn
  clear HR5 BA5 BX5 XA5 K0 K1 K2 K3
  by_cases hlt : i < N ∧ 0 < r.s.length
  ·have hkz : kx < z.on.heap.size := BXi.out.lt
   have hbz : rb < z.on.heap.size := HWi.out.lt
   have HRV := hI_ (own_row ROW.out)
   have XZ := hI_ z.ext
   generalize z.on = wi at *
   clear z
   have hrl := HWi.out.small
   have hpos : decide ((0 : Nat) < N - i) = true := decide_eq_true (by omega)
   obtain ⟨m, hm⟩ : ∃ m, m = N - i := ⟨_, rfl⟩
   obtain ⟨ql, hql⟩ : ∃ ql, ql = r.s.length := ⟨_, rfl⟩
   have hpos2 : decide ((0 : Nat) < ql) = true := decide_eq_true (by omega)
   obtain ⟨num, hnum⟩ : ∃ num : Int, num = (numV 1 r : Nat) := ⟨_, rfl⟩
   obtain ⟨r', hr'⟩ : ∃ r', r' = numR 1 r := ⟨_, rfl⟩
   have KL1 : Hid (∀ b w', RdG w' b r → Calls Tryz.prog 75 #[.pointer (some ⟨b, 0, none⟩)] w' fun e w'' => e = .returned (.int .i64 (ql : Int)) ∧ ∃ n, w'' = w'.drewN n) := hI_ (fun b w' h => by rw [hql]; exact rdg_Left b r w' h)
   have CN : Hid (∀ w', RdG w' rb r → Calls Tryz.prog 72 #[.pointer (some ⟨rb, 0, none⟩)] w' fun e w'' => e = .returned (.int .i64 num) ∧ Ext (One rb) w' w'' ∧ RdG w'' rb r') := hI_ (fun w' h => by rw [hnum, hr']; exact rdg_Byte rb r w' h)
   have NSV : Hid ((xs ++ [num]).map (Value.int .i64) = xs.map (Value.int .i64) ++ [.int .i64 num]) := hI_ (by rw [List.map_append]; rfl)
   have HXB2 : Hid (∀ x ∈ xs ++ [num], 0 ≤ x ∧ x ≤ 255) := hI_ (fun x hx => by
    rcases List.mem_append.1 hx with h | h
    ·exact HXB.out x h
    ·have h : x = num := by simpa using h
     have := numV_lt 1 r
     omega)
   have HXL2 : Hid ((xs ++ [num]).length = i + 1) := hI_ (by rw [List.length_append, HXL.out]; rfl)
   rw [← hm] at hpos ⊢
   have HM := hI_ hm
   obtain ⟨row, hrow⟩ : ∃ row, row = xs.map (Value.int .i64) := ⟨_, rfl⟩
   obtain ⟨row2, hrow2⟩ : ∃ row2, row2 = (xs ++ [num]).map (Value.int .i64) := ⟨_, rfl⟩
   rw [← hrow, ← hrow2] at NSV
   rw [← hrow] at ROW
   have HRW2 := hI_ hrow2
   have hi6 : i ≤ 1000000 := by have := HN10.out; omega
   have hrb : ¬ Row v rb := fun q => by have := (HRV.out _ q).1; have := NK.out; omega
   have HRB := hI_ hrb
   have hNm : N ≤ 4611686018427387904 := by have := HN10.out; omega
   have w1 : IntKind.i64.wrap ((m : Int) - 1) = ((m - 1 : Nat) : Int) := (IntWalk.i64_in _ (by omega)).trans (by simp only [decide_eq_true_eq] at hpos; omega)
   have hqm : ql ≤ 4611686018427387904 := by omega
   have HLT := hI_ hlt.1
   clear hrow hrow2 hnum hm hrb hNm hql hr' hrl hlt
   go_wp2_with fail
   refine (KL1.out _ _ HWi.out).mono ?_
   rintro e _ ⟨rfl, nd, rfl⟩
   have HWj := hI_ (HWi.out.extN ((Ext.refl _ _).drewN nd)); have BAj := hI_ (BAi.out.extN ((Ext.refl _ _).drewN nd)); have BXj := hI_ (BXi.out.extN ((Ext.refl _ _).drewN nd)); have ROWj := hI_ (ownR_extN ROW.out ((Ext.refl _ _).drewN nd)); have XZj := hI_ (XZ.out.drewN nd)
   have HRVj : Hid (∀ k, Row v k → kx + 1 ≤ k ∧ k < (wi.drewN nd).heap.size) := hI_ (fun k q => HRV.out k q)
   have hkzj : kx < (wi.drewN nd).heap.size := hkz
   have hbzj : rb < (wi.drewN nd).heap.size := hbz
   clear HWi BAi BXi ROW XZ HRV hkz hbz KL1
   generalize wi.drewN nd = wj at *
   clear wi
   have q1 : wj.cell? ⟨kx, 1, none⟩ = some v := BXj.out.cell rfl
   have n1 : One rb kx = False := by have := NK.out; unfold One; simp; omega
   have n2 : Row v kx = False := by simp only [eq_iff_iff, iff_false]; intro q; have := (HRVj.out kx q).1; omega
   have hr1 : ∀ k, One rb k → k < wj.heap.size := fun k q => by have q : k = rb := q; omega
   have hr2 : ∀ k, Row v k → k < wj.heap.size := fun k q => (HRVj.out k q).2
   have hr3 : ∀ k, One rb k → ¬ Row v k := fun k q r => by have q : k = rb := q; subst q; exact HRB.out r
   have HR1 := hI_ hr1; have HR2 := hI_ hr2; have HR3 := hI_ hr3
   clear hr1 hr2 hr3
   go_upto_region 7 with fail
   apply wp_region_wr 6 [Mo.is _, Mo.is _, Mo.is _, moSt (.int .i64 num) (fun w' => RdG w' rb r') (fun _ _ x h => RdG.extN h x), moOne wj.heap.size [.int .i64 num] 3, moRow v wj.heap.size (kx + 1) 3 1 (i + 1) row2] (One rb) 3 (fun w' => RdG w' rb r) (Row v) 5 (fun w' => w'.ownsRow (kx + 1) 3 1 v i row) (by kernel_rfl) (by kernel_rfl) (by kernel_rfl) (by kernel_rfl) (by kernel_rfl) (by decide) (by kernel_rfl) (by decide) ?ta6 ?tb6 ?ha6 ?hb6 ?hc6 ?hd6 ?ma6 ?mb6 ?st6 ?q6
   case ta6 => exact HWj.out
   case tb6 => exact ROWj.out
   case ha6 => exact fun _ _ x h => RdG.extN h x
   case hb6 => exact fun _ _ x h => RdG.ext h x HRB.out
   case hc6 => exact fun _ _ x h => ownR_extN h x
   case hd6 => exact fun _ _ x h => ownR_ext h x (fun k hk hs => HR3.out k hs hk)
   case st6 =>
    refine ⟨?_, ?_, ?_, ?_, ?_, ?_, trivial⟩
    ·refine .inl ⟨by decide, by decide, ?_⟩
     intro a' w' hx hs hd
     obtain ⟨y, rfl⟩ := hx.ew
     have e7 : a'.tmps[7]?.getD undef = _ := hs 7 rfl
     simp only [aL, aS, aZ] at e7
     refine .inl ⟨rfl, ?_⟩
     clear hs hd hx
     go_simp
     exact ⟨Ext.refl _ _, rfl⟩
    ·refine .inl ⟨by decide, by decide, ?_⟩
     intro a' w' hx hs hd
     obtain ⟨y, rfl⟩ := hx.ew
     have e30 : a'.tmps[30]?.getD undef = _ := hd 0 30 rfl rfl
     refine .inl ⟨rfl, ?_⟩
     clear hs hd hx
     go_simp
     exact ⟨Ext.refl _ _, rfl⟩
    ·refine .inl ⟨by decide, by decide, ?_⟩
     intro a' w' hx hs hd
     obtain ⟨y, rfl⟩ := hx.ew
     have e4 : a'.tmps[4]?.getD undef = _ := hs 4 rfl
     simp only [aL, aS, aZ] at e4
     refine .inl ⟨rfl, ?_⟩
     clear hs hd hx
     go_simp
     exact ⟨Ext.refl _ _, rfl⟩
    ·refine .inr (.inl ⟨rfl, ?_⟩)
     intro a' w' hx hst hs hd
     obtain ⟨y, rfl⟩ := hx.ew
     have e32 : a'.tmps[32]?.getD undef = _ := hd 2 32 rfl rfl
     refine ⟨rfl, ?_⟩
     clear hs hd hx
     go_simp
     exact (CN.out _ hst).mono (fun e w'' ⟨he, hx, hr⟩ => ⟨_, he, hx, rfl, hr⟩)
    ·refine .inl ⟨by decide, by decide, ?_⟩
     intro a' w' hx hs hd
     obtain ⟨y, rfl⟩ := hx.ew
     obtain ⟨e33, hR3⟩ : a'.tmps[33]?.getD undef = .int .i64 num ∧ RdG y.on rb r' := hd 3 33 rfl rfl
     refine .inl ⟨rfl, ?_⟩
     clear hs hd hx
     go_simp
     exact ⟨(Ext.refl _ _).alloc _, _, rfl, y.ext.size, Bx.newAt _ _ _ _ rfl⟩
    ·refine .inr (.inr ⟨rfl, ?_⟩)
     intro a' w' hx hst hs hd
     obtain ⟨y, rfl⟩ := hx.ew
     have e31 : a'.tmps[31]?.getD undef = _ := hd 1 31 rfl rfl
     obtain ⟨k4, e34, hk4, hB4⟩ : ∃ k, a'.tmps[34]?.getD undef = .slice (some ⟨k, 0, none⟩) 1 1 ∧ wj.heap.size ≤ k ∧ Bx y.on k [.int .i64 num] 3 := hd 4 34 rfl rfl
     refine ⟨rfl, ?_⟩
     clear hs hd hx
     exact rel_append_row _ _ 22 rfl (kx + 1) 3 1 8 _ Tryz.underlying22 info_intG (by rfl) (by omega) (by omega) v i row ((eval_tmp _ _).trans e31) hst k4 _ _ ((eval_tmp _ _).trans e34) hB4 rfl (by intro u hu; simp at hu; subst hu; rfl) (by omega) (by have := y.ext.size; omega) (fun v' w' x o r => ⟨v', rfl, by rw [NSV.out]; exact o, fun k hk => (r k hk).imp id (fun z => Nat.le_trans y.ext.size z)⟩)
   case ma6 => exact ⟨.inr (Mo.is_still _ _), .inr (Mo.is_still _ _), .inr (Mo.is_still _ _), .inl rfl, .inr (moOne_still HR1.out), .inr (moRow_still HR1.out HR3.out), trivial⟩
   case mb6 => exact ⟨.inr (Mo.is_still _ _), .inr (Mo.is_still _ _), .inr (Mo.is_still _ _), .inr (moSt_still (fun _ _ x h => RdG.ext h x HRB.out)), .inr (moOne_still HR2.out), .inl rfl, trivial⟩
   case' q6 =>
    intro vs w' hx hRR
    obtain ⟨x9, rfl⟩ := hx.ew
    have q0 : vs 0 = _ := hRR 0 (by decide)
    have q1 : vs 1 = _ := hRR 1 (by decide)
    have q2 : vs 2 = _ := hRR 2 (by decide)
    obtain ⟨q3, hR3⟩ : vs 3 = .int .i64 num ∧ RdG x9.on rb r' := hRR 3 (by decide)
    obtain ⟨k4, q4, hk4, hB4⟩ : ∃ k, vs 4 = .slice (some ⟨k, 0, none⟩) 1 1 ∧ wj.heap.size ≤ k ∧ Bx x9.on k [.int .i64 num] 3 := hRR 4 (by decide)
    obtain ⟨u5, q5, hO5, hr5⟩ : ∃ u, vs 5 = u ∧ x9.on.ownsRow (kx + 1) 3 1 u (i + 1) row2 ∧ ∀ k, Row u k → Row v k ∨ wj.heap.size ≤ k := hRR 5 (by decide)
    clear hRR hx
    simp only [putAll, List.take_succ_cons, List.take_zero, List.drop_succ_cons, List.drop_zero, Act.put, List.setIfInBounds_toArray, List.set_cons_zero, List.set_cons_succ, Nat.reduceAdd, Nat.zero_add]
    simp only [q0, q1, q2, q3, q4, q5]
    clear q0 q1 q2 q3 q4 q5 vs
   obtain ⟨ua, uc, hus⟩ := row_slice hO5
   subst hus
   have HB9 := hI_ (BXj.out.ext x9.ext (fun q => by rcases q with q | q; rw [n1] at q; exact q; rw [n2] at q; exact q))
   have HA9 := hI_ (BAj.out.ext x9.ext (fun q => by have := NK.out; rcases q with q | q; have q : w.heap.size = rb := q; omega; have := (HRVj.out _ q).1; omega))
   have HR9 := hI_ hR3; have HO9 := hI_ hO5
   have HZ9 := hI_ (XZj.out.step x9.ext (fun j hj q => by have := NK.out; rcases q with q | q; have q : j = rb := q; omega; have := (HRVj.out _ q).1; omega))
   have hu5 : ¬ Row (.slice ua (i + 1) uc) kx := fun q => by rcases hr5 kx q with z | z; rw [n2] at z; exact z; omega
   have HU5 := hI_ hu5
   clear hR3 hO5 hk4 hB4 hr5 hu5 n1 n2 q1
   generalize x9.on = w9 at *
   have p1 : w9.cell? ⟨kx, 1, none⟩ = some v := HB9.out.cell rfl
   have f1 : w9.frozen? ⟨kx, 1, none⟩ = false := froz_of_heap HB9.out.h
   go_wp2_with fail
   have X1 : Ext (One kx) w9 (w9.setCell ⟨kx, 1, none⟩ (.slice ua (i + 1) uc)) := (Ext.refl _ _).set1 _
   have HM1 : Hid (m - 1 = N - (i + 1)) := hI_ (by have := HM.out; omega)
   rw [HM1.out]
   go_roundg (N - (i + 1))
   case measure => have := HG.out; have := HLT.out; omega
   case rel => exact ⟨i + 1, .slice ua (i + 1) uc, xs ++ [num], r', ⟨_, HZ9.out.step X1 (fun j hj q => by have q : j = kx := q; have := NK.out; omega)⟩, HLT.out, rfl, rfl, rfl, HXL2.out, HXB2, hI_ (HR9.out.ext X1 (fun q => by have q : rb = kx := q; have := NK.out; omega)), hI_ (HA9.out.ext X1 (fun q => by have q : w.heap.size = kx := q; have := NK.out; omega)), hI_ (HB9.out.set (j := 1) (.slice ua (i + 1) uc)), hI_ (by rw [← HRW2.out]; exact ownR_ext HO9.out X1 (fun k hk hs => by have hs : k = kx := hs; subst hs; exact HU5.out hk))⟩
  ·have XZ := hI_ z.ext
   have hrl := HWi.out.small
   generalize z.on = wi at *
   clear z
   by_cases hlt2 : i < N
   ·have hr0 : r.s.length = 0 := by omega
    have hpos : decide ((0 : Nat) < N - i) = true := decide_eq_true (by omega)
    have KL1 : Hid (∀ b w', RdG w' b r → Calls Tryz.prog 75 #[.pointer (some ⟨b, 0, none⟩)] w' fun e w'' => e = .returned (.int .i64 0) ∧ ∃ n, w'' = w'.drewN n) := hI_ (fun b w' h => by have := rdg_Left b r w' h; rw [hr0] at this; exact this)
    obtain ⟨m, hm⟩ : ∃ m, m = N - i := ⟨_, rfl⟩
    rw [← hm] at hpos ⊢
    clear hm hr0 hrl hlt hlt2
    go_wp2_with fail
    refine (KL1.out _ _ HWi.out).mono ?_
    rintro e _ ⟨rfl, nd, rfl⟩
    replace BAi := hI_ (BAi.out.extN ((Ext.refl _ _).drewN nd)); replace BXi := hI_ (BXi.out.extN ((Ext.refl _ _).drewN nd)); replace ROW := hI_ (ownR_extN ROW.out ((Ext.refl _ _).drewN nd)); replace XZ := hI_ (XZ.out.drewN nd)
    clear HWi KL1
    generalize wi.drewN nd = wi at *
    have HRO : Hid (wi.ownsRow (kx + 1) 3 1 v xs.length (xs.map (Value.int .i64))) := hI_ (by rw [HXL.out]; exact ROW.out)
    obtain ⟨xa, xc, rfl, hI, hfr⟩ := ints_own HRO.out (fun x hx => by have := HXB.out x hx; unfold I64; omega)
    have HIx := hI_ hI
    clear hI hfr ROW HRO
    have c0 : wi.cell? ⟨kx, 0, none⟩ = some (.int .i64 ep) := BXi.out.cell rfl
    have c1 : wi.cell? ⟨kx, 1, none⟩ = some (.slice xa xs.length xc) := BXi.out.cell rfl
    have KT := hI_ (council_Text ep (by have := HEP.out; unfold I64; omega) xa xc xs wi HIx.out)
    have CASE : Hid ((hd != 67) = true ∨ (hd != 67) = false ∧ (Go.Proofs.YtfefeepljbfcdaaGreat.confE ep xs != 0) = true ∨ (hd != 67) = false ∧ (Go.Proofs.YtfefeepljbfcdaaGreat.confE ep xs != 0) = false ∧ ¬ (Go.Proofs.YtfefeepljbfcdaaGreat.confS ep xs).toList = tt.toList) := hI_ (by
     by_cases h1 : hd = 67
     ·right
      have h1' : (hd != 67) = false := by simpa using h1
      cases h2 : Go.Proofs.YtfefeepljbfcdaaGreat.confB ep xs
      ·left; refine ⟨h1', ?_⟩
       unfold Go.Proofs.YtfefeepljbfcdaaGreat.confE; rw [h2]; rfl
      ·by_cases h3 : Go.Proofs.YtfefeepljbfcdaaGreat.confE ep xs = 0
       ·right; exact ⟨h1', by simpa using h3, HNO.out xs h2⟩
       ·left; exact ⟨h1', by simpa using h3⟩
     ·left; simpa using h1)
    generalize Go.Proofs.YtfefeepljbfcdaaGreat.confE ep xs = ce at *
    generalize Go.Proofs.YtfefeepljbfcdaaGreat.confS ep xs = cs at *
    go_wp2_with fail
    refine Calls.ew KT.out ?_
    rintro e x6 rfl
    have B6 := hI_ (BAi.out.extN x6.ext)
    have X6 := hI_ (XZ.out.trans x6.ext)
    clear c0 c1
    generalize x6.on = w6 at *
    have b0 : w6.cell? ⟨w.heap.size, 0, none⟩ = some (.int .i64 0) := B6.out.cell rfl
    have b1 : w6.cell? ⟨w.heap.size, 1, none⟩ = some (.slice none 0 0) := B6.out.cell rfl
    have g0 : w6.frozen? ⟨w.heap.size, 0, none⟩ = false := froz_of_heap B6.out.h
    have g1 : w6.frozen? ⟨w.heap.size, 1, none⟩ = false := froz_of_heap B6.out.h
    have E2 := (B6.out.set (j := 0) (.int .i64 0)).set (j := 1) (.slice none 0 0)
    have X7 : Ext (One w.heap.size) w6 ((w6.setCell ⟨w.heap.size, 0, none⟩ (.int .i64 0)).setCell ⟨w.heap.size, 1, none⟩ (.slice none 0 0)) := ((Ext.refl _ _).set1 _).set1 _
    have HE := hI_ (And.intro (E2.cell (j := 0) rfl) (E2.cell (j := 1) rfl))
    have HX7 := hI_ X7
    clear E2 X7
    have FIN : Hid (Ext Non w ((w6.setCell ⟨w.heap.size, 0, none⟩ (.int .i64 0)).setCell ⟨w.heap.size, 1, none⟩ (.slice none 0 0))) := hI_ (X6.out.step HX7.out (fun j hj q => by have q : j = w.heap.size := q; omega))
    rcases CASE.out with h1 | ⟨h1, h2⟩ | ⟨h1, h2, h3⟩
    ·go_wp2
     obtain ⟨y0, y1⟩ := HE.out
     refine bodyPost_ret (v := .tuple #[.agg #[.int .i64 0, .slice none 0 0], .int .i64 5]) (by simp [results, Tryz.results73, go_sem, y0, y1]) rfl ?_
     exact ⟨rfl, FIN.out⟩
    ·go_wp2
     obtain ⟨y0, y1⟩ := HE.out
     refine bodyPost_ret (v := .tuple #[.agg #[.int .i64 0, .slice none 0 0], .int .i64 5]) (by simp [results, Tryz.results73, go_sem, y0, y1]) rfl ?_
     exact ⟨rfl, FIN.out⟩
    ·have h4 : (cs.toList == tt.toList) = false := by rw [beq_eq_false_iff_ne]; exact h3
     have h5 : (cs.toList != tt.toList) = true := by unfold bne; rw [h4]; rfl
     go_wp2
     obtain ⟨y0, y1⟩ := HE.out
     refine bodyPost_ret (v := .tuple #[.agg #[.int .i64 0, .slice none 0 0], .int .i64 5]) (by simp [results, Tryz.results73, go_sem, y0, y1]) rfl ?_
     exact ⟨rfl, FIN.out⟩
   ·obtain rfl : i = N := by omega
    have hz0 : i - i = 0 := by omega
    rw [hz0]
    clear hz0 hlt hlt2 hrl HWi
    have HRO : Hid (wi.ownsRow (kx + 1) 3 1 v xs.length (xs.map (Value.int .i64))) := hI_ (by rw [HXL.out]; exact ROW.out)
    obtain ⟨xa, xc, rfl, hI, hfr⟩ := ints_own HRO.out (fun x hx => by have := HXB.out x hx; unfold I64; omega)
    have HIx := hI_ hI
    clear hI hfr ROW HRO
    have c0 : wi.cell? ⟨kx, 0, none⟩ = some (.int .i64 ep) := BXi.out.cell rfl
    have c1 : wi.cell? ⟨kx, 1, none⟩ = some (.slice xa xs.length xc) := BXi.out.cell rfl
    have KT := hI_ (council_Text ep (by have := HEP.out; unfold I64; omega) xa xc xs wi HIx.out)
    have CASE : Hid ((hd != 67) = true ∨ (hd != 67) = false ∧ (Go.Proofs.YtfefeepljbfcdaaGreat.confE ep xs != 0) = true ∨ (hd != 67) = false ∧ (Go.Proofs.YtfefeepljbfcdaaGreat.confE ep xs != 0) = false ∧ ¬ (Go.Proofs.YtfefeepljbfcdaaGreat.confS ep xs).toList = tt.toList) := hI_ (by
     by_cases h1 : hd = 67
     ·right
      have h1' : (hd != 67) = false := by simpa using h1
      cases h2 : Go.Proofs.YtfefeepljbfcdaaGreat.confB ep xs
      ·left; refine ⟨h1', ?_⟩
       unfold Go.Proofs.YtfefeepljbfcdaaGreat.confE; rw [h2]; rfl
      ·by_cases h3 : Go.Proofs.YtfefeepljbfcdaaGreat.confE ep xs = 0
       ·right; exact ⟨h1', by simpa using h3, HNO.out xs h2⟩
       ·left; exact ⟨h1', by simpa using h3⟩
     ·left; simpa using h1)
    generalize Go.Proofs.YtfefeepljbfcdaaGreat.confE ep xs = ce at *
    generalize Go.Proofs.YtfefeepljbfcdaaGreat.confS ep xs = cs at *
    go_wp2_with fail
    refine Calls.ew KT.out ?_
    rintro e x6 rfl
    have B6 := hI_ (BAi.out.extN x6.ext)
    have X6 := hI_ (XZ.out.trans x6.ext)
    clear c0 c1
    generalize x6.on = w6 at *
    have b0 : w6.cell? ⟨w.heap.size, 0, none⟩ = some (.int .i64 0) := B6.out.cell rfl
    have b1 : w6.cell? ⟨w.heap.size, 1, none⟩ = some (.slice none 0 0) := B6.out.cell rfl
    have g0 : w6.frozen? ⟨w.heap.size, 0, none⟩ = false := froz_of_heap B6.out.h
    have g1 : w6.frozen? ⟨w.heap.size, 1, none⟩ = false := froz_of_heap B6.out.h
    have E2 := (B6.out.set (j := 0) (.int .i64 0)).set (j := 1) (.slice none 0 0)
    have X7 : Ext (One w.heap.size) w6 ((w6.setCell ⟨w.heap.size, 0, none⟩ (.int .i64 0)).setCell ⟨w.heap.size, 1, none⟩ (.slice none 0 0)) := ((Ext.refl _ _).set1 _).set1 _
    have HE := hI_ (And.intro (E2.cell (j := 0) rfl) (E2.cell (j := 1) rfl))
    have HX7 := hI_ X7
    clear E2 X7
    have FIN : Hid (Ext Non w ((w6.setCell ⟨w.heap.size, 0, none⟩ (.int .i64 0)).setCell ⟨w.heap.size, 1, none⟩ (.slice none 0 0))) := hI_ (X6.out.step HX7.out (fun j hj q => by have q : j = w.heap.size := q; omega))
    rcases CASE.out with h1 | ⟨h1, h2⟩ | ⟨h1, h2, h3⟩
    ·go_wp2
     obtain ⟨y0, y1⟩ := HE.out
     refine bodyPost_ret (v := .tuple #[.agg #[.int .i64 0, .slice none 0 0], .int .i64 5]) (by simp [results, Tryz.results73, go_sem, y0, y1]) rfl ?_
     exact ⟨rfl, FIN.out⟩
    ·go_wp2
     obtain ⟨y0, y1⟩ := HE.out
     refine bodyPost_ret (v := .tuple #[.agg #[.int .i64 0, .slice none 0 0], .int .i64 5]) (by simp [results, Tryz.results73, go_sem, y0, y1]) rfl ?_
     exact ⟨rfl, FIN.out⟩
    ·have h4 : (cs.toList == tt.toList) = false := by rw [beq_eq_false_iff_ne]; exact h3
     have h5 : (cs.toList != tt.toList) = true := by unfold bne; rw [h4]; rfl
     go_wp2
     obtain ⟨y0, y1⟩ := HE.out
     refine bodyPost_ret (v := .tuple #[.agg #[.int .i64 0, .slice none 0 0], .int .i64 5]) (by simp [results, Tryz.results73, go_sem, y0, y1]) rfl ?_
     exact ⟨rfl, FIN.out⟩
theorem council_Read_any (t : List UInt8) (hl : t.length ≤ 4611686018427387904) (w : World) : Calls Tryz.prog 73 #[.string (sB t)] w fun e w' =>
  ∃ ep a cap xs er, e = .returned (.tuple #[.agg #[.int .i64 ep, .slice a (xs : List Int).length cap], .int .i64 er]) ∧ Ext Non w w' ∧ ((er = 0 ∧ Go.Proofs.YtfefeepljbfcdaaGreat.confB ep xs = true ∧ Ints w' a cap xs ∧ fresh w.heap.size w' a) ∨ er = 5) := by
 by_cases h : ∃ ep xs, Go.Proofs.YtfefeepljbfcdaaGreat.confB ep xs = true ∧ t = confT ep xs
 ·obtain ⟨ep, xs, hc, rfl⟩ := h
  exact (council_Read_ok ep xs hc w).mono fun e w' ⟨a, cap, h1, h2, h3, h4⟩ => ⟨ep, a, cap, xs, 0, h1, h3, .inl ⟨rfl, hc, h2, h4⟩⟩
 ·exact (council_Read_no t hl (fun ep xs hc e => h ⟨ep, xs, hc, e⟩) w).mono fun e w' ⟨h1, h2⟩ => ⟨0, none, 0, [], 5, h1, h2, .inr rfl⟩
end Go.Proofs.YtfefeepljbfcdaaGreat
