/- Joined texts: R12d. What each proves stands at its head; no conditions beside those in its theorems. -/
import Derived.Sort.Walk0
import Derived.Test.YtfefeepljbfcdaaGreatPjBD
/- The reference of layer 12 in memory: a key put, a key cut. -/
namespace Go.Proofs.YtfefeepljbfcdaaGreat
open Go.RowKit Go.Lib F64
set_option linter.unusedSimpArgs false
set_option linter.unusedVariables false
attribute [local go_sem] run_store_float
attribute [local go_sem low] EW.cellN EW.frozN alloc_cell_or alloc_froz_or EW.cellF EW.frozF EW.cell1 EW.froz1
attribute [local go_sem] relAt relUpon
theorem row_shape {w : World} {base : Nat} {e : TypeId} {k : Nat} {v : Value} {n : Nat} {xs : List Value} (h : w.ownsRow base e k v n xs) : ∃ a cap, v = .slice a n cap := by
 rcases h.2 with ⟨rfl, rfl⟩ | ⟨g, cap, cur, rfl, hb, hg, hc, hm, hs, ht⟩
 ·exact ⟨none, 0, rfl⟩
 ·exact ⟨_, cap, rfl⟩
theorem info_item : (Tryz.prog.info? 78).map (fun i => (i.zero, i.size, i.bytes)) = some (some (.agg #[.string ByteArray.empty, .int .u64 0]), 2, 24) := by kernel_rfl
theorem info_item2 : (Tryz.prog.info? 78).map (·.size) = some 2 := by kernel_rfl
theorem it_snoc (l : Ks) (p : ByteArray × Nat) : (l ++ [p]).flatMap itC = l.flatMap itC ++ itC p := by rw [List.flatMap_append]; simp
theorem putGo_step (k : ByteArray) (x : Nat) (l : Ks) (i : Nat) (h : i < l.length) (pl : Bool) : putGo k x (l.drop i) pl = (if pl = false ∧ k.data.toList ≤ kl l[i] then (k, x) :: ((if (l[i]).1 ≠ k then [l[i]] else []) ++ putGo k x (l.drop (i + 1)) true) else (if (l[i]).1 ≠ k then [l[i]] else []) ++ putGo k x (l.drop (i + 1)) pl) := by
 rw [List.drop_eq_getElem_cons h]; rfl
set_option maxHeartbeats 4000000 in
set_option maxRecDepth 100000 in
theorem ref12_put (b sb rb : Nat) (g : Lg) (hk16 : g.keys.length ≤ 16) (k : ByteArray) (x : Nat) (w : World) (h : RL w b sb rb g) : Calls Tryz.prog 100 #[.pointer (some ⟨b, 0, none⟩), .string k, .int .u64 x] w fun e w' =>
  e = .returned (.tuple #[]) ∧ Ext (One b) w w' ∧ RL w' b sb rb (setKeys g (setK g.keys k x)) := by
 obtain ⟨ia, ic, q4, h1, h2, hc⟩ := h.row
 have HH := hI_ h
 have hl : (sortK g.keys).length ≤ 16 := by rw [sortK_len]; exact hk16
 have HC := hI_ hc
 have HP := hI_ (putGo_sort h.nd k x)
 have hbl : b < w.heap.size := h.lt.1
 clear h hc
 generalize sortK g.keys = l at *
 go_enter Tryz.func100, Tryz.ntmps100
 go_wp2_with fail
 go_loopg [6, 7, 8, 9] l.length (fun n ov pv iv xv wr => ∃ (out : Ks) (v : Value) (pl : Bool) (i : Nat) (z : EW Non w), v = ov ∧ i ≤ l.length ∧ n = l.length - i ∧ iv = .int .i64 i ∧ pv = .bool pl ∧ wr = z.on ∧ out.length ≤ 2 * i ∧ Hid (out ++ putGo k x (l.drop i) pl = putGo k x l false) ∧ Hid (wr.ownsRow w.heap.size 78 2 v out.length (out.flatMap itC)))
 case atStart => exact ⟨[], _, false, 0, ⟨_, exG0⟩, rfl, Nat.zero_le _, rfl, rfl, rfl, rfl, Nat.le_refl _, hI_ (by rw [List.drop_zero]; rfl), hI_ (World.ownsRow_nil _ _ _ _)⟩
 case round =>
  obtain ⟨out, v, pl, i, z, rfl, hi, hn, rfl, rfl, rfl, hol, HD, HO⟩ := hrel
  have HN := hI_ hn; clear hn
  by_cases hlt : i < l.length
  ·obtain ⟨gi, rfl, hg, k0, k1⟩ := HC.out i hlt
   have HS := hI_ (putGo_step k x l i hlt pl)
   generalize l[i] = p at *
   obtain ⟨pk, px⟩ := p
   have k0 : w.cell? ⟨gi, i * 2, none⟩ = some (.string pk) := k0
   have k1 : w.cell? ⟨gi, i * 2 + 1, none⟩ = some (.int .u64 px) := k1
   go_upto_region 6 with (refine wpList_store_box rfl 78 _ _ rfl z.on.heap.size _ [.string pk, .int .u64 px] _ rfl rfl (Bx.newAt _ _ _ _ rfl) rfl info_item2 (by simp [Value.oneCell']) (fun W hB => ?_); have BX := hI_ hB; clear hB)
   have XW : Ext Non z.on W.on := exG0
   have HO1 := hI_ (ownR_extN HO.out XW)
   have HRV : Hid (∀ j, Row v j → w.heap.size ≤ j ∧ j < z.on.heap.size) := hI_ (own_row HO.out)
   obtain ⟨x5, hx5⟩ := (z.ext.trans XW).ew
   rw [hx5] at BX HO1 ⊢
   clear hx5 XW W HO k0 k1
   try simp only [Act.put]
   generalize z.on.heap.size = kx at *
   clear z
   have hzz : w.heap.size ≤ x5.on.heap.size := x5.ext.size
   have y0 : x5.on.cell? ⟨kx, 0, none⟩ = some (.string pk) := BX.out.cell rfl
   have y1 : x5.on.cell? ⟨kx, 1, none⟩ = some (.int .u64 px) := BX.out.cell rfl
   have hkxl : kx < x5.on.heap.size := BX.out.lt
   have HBL : Hid (Op.bytesLess pk.toList k.toList = !decide (k.data.toList ≤ pk.data.toList)) := hI_ (by
    rw [bytesLess_eq, toList_data, toList_data, Bool.eq_iff_iff]; simp [List.not_le])
   cases pl
   ·by_cases hge : k.data.toList ≤ pk.data.toList
    ·have hb : Op.bytesLess pk.toList k.toList = false := by rw [HBL.out, decide_eq_true hge]; rfl
     have HS2 : Hid (putGo k x (l.drop i) false = (k, x) :: ((if pk ≠ k then [(pk, px)] else []) ++ putGo k x (l.drop (i + 1)) true)) := hI_ (by rw [HS.out, if_pos ⟨rfl, hge⟩])
     clear HBL HS hge
     go_upto_region 9 with (at_builtin; refine wpList_append_rowB rfl _ _ 66 rfl w.heap.size 78 2 24 _ Tryz.underlying66 info_item (by rfl) (by omega) v _ _ rfl (ownR_extN HO1.out (exG0)) x5.on.heap.size [Value.string k, .int .u64 x] 78 rfl (Bx.newAt _ _ _ _ rfl) rfl (by simp [Value.oneCell']) (by omega) (by omega) (by simp; omega) (fun v1 W1 hO hrow => ?_); have HO1b := hI_ hO; clear hO hrow)
     have XA1 : Ext Non w (x5.on.alloc (.cells [Value.string k, .int .u64 x].toArray 78)) := exG0
     have XF1 := XA1.step W1.ext (fun j hj q => by have := (own_row HO1.out j q).1; omega)
     have BX2 := hI_ ((BX.out.extN ((Ext.refl Non x5.on).alloc (.cells [Value.string k, .int .u64 x].toArray 78))).ext W1.ext (fun q => by have := (HRV.out _ q).2; omega))
     obtain ⟨x6, hx6⟩ := XF1.ew
     rw [hx6] at BX2 HO1b ⊢
     clear hx6 XF1 XA1 W1 BX HO1 y0 y1 hb hkxl
     try simp only [Act.put]
     have hzz6 : w.heap.size ≤ x6.on.heap.size := x6.ext.size
     have y0 : x6.on.cell? ⟨kx, 0, none⟩ = some (.string pk) := BX2.out.cell rfl
     have y1 : x6.on.cell? ⟨kx, 1, none⟩ = some (.int .u64 px) := BX2.out.cell rfl
     by_cases hk : pk = k
     ·subst hk
      have HD2 : Hid ((out ++ [(pk, x)]) ++ putGo pk x (l.drop (i + 1)) true = putGo pk x l false) := hI_ (by rw [← HD.out, HS2.out]; simp)
      go_wp2_with fail
      go_roundg (l.length - (i + 1))
      case measure => have := HN.out; omega
      case rel => exact ⟨out ++ [(pk, x)], _, true, i + 1, ⟨_, exG0⟩, rfl, hlt, rfl, by go_num, rfl, rfl, by simp; omega, HD2, hI_ (by rw [it_snoc, List.length_append]; exact ownR_extN HO1b.out (exG0))⟩
     ·have hbk := str_beq_ne hk
      have HD2 : Hid ((out ++ [(k, x)] ++ [(pk, px)]) ++ putGo k x (l.drop (i + 1)) true = putGo k x l false) := hI_ (by rw [← HD.out, HS2.out, if_pos hk]; simp)
      clear hk
      go_wp2_with (at_builtin; refine wpList_append_rowB rfl _ _ 66 rfl w.heap.size 78 2 24 _ Tryz.underlying66 info_item (by rfl) (by omega) _ _ _ rfl (ownR_extN HO1b.out (exG0)) x6.on.heap.size [Value.string pk, .int .u64 px] 78 rfl (Bx.newAt _ _ _ _ rfl) rfl (by simp [Value.oneCell']) (by omega) (by omega) (by simp; omega) (fun v2 W2 hO hrow => ?_); have HO2 := hI_ hO; clear hO hrow)
      have XA2 : Ext Non w (x6.on.alloc (.cells [Value.string pk, .int .u64 px].toArray 78)) := exG0
      have XF2 := XA2.step W2.ext (fun j hj q => by have := (own_row HO1b.out j q).1; omega)
      go_roundg (l.length - (i + 1))
      case measure => have := HN.out; omega
      case rel => exact ⟨out ++ [(k, x)] ++ [(pk, px)], _, true, i + 1, ⟨_, XF2⟩, rfl, hlt, rfl, by go_num, rfl, rfl, by simp; omega, HD2, hI_ (by rw [it_snoc, it_snoc, List.length_append, List.length_append]; exact HO2.out)⟩
    ·have hb : Op.bytesLess pk.toList k.toList = true := by rw [HBL.out, decide_eq_false hge]; rfl
     have hk : pk ≠ k := fun e => hge (by rw [e]; exact List.le_refl _)
     have HD2 : Hid ((out ++ [(pk, px)]) ++ putGo k x (l.drop (i + 1)) false = putGo k x l false) := hI_ (by rw [← HD.out, HS.out, if_neg (fun q => hge q.2), if_pos hk]; simp)
     have hbk := str_beq_ne hk
     clear HBL HS hge hk
     go_wp2_with (at_builtin; refine wpList_append_rowB rfl _ _ 66 rfl w.heap.size 78 2 24 _ Tryz.underlying66 info_item (by rfl) (by omega) v _ _ rfl (ownR_extN HO1.out (exG0)) x5.on.heap.size [Value.string pk, .int .u64 px] 78 rfl (Bx.newAt _ _ _ _ rfl) rfl (by simp [Value.oneCell']) (by omega) (by omega) (by simp; omega) (fun v3 W3 hO hrow => ?_); have HO3 := hI_ hO; clear hO hrow)
     have XA3 : Ext Non w (x5.on.alloc (.cells [Value.string pk, .int .u64 px].toArray 78)) := exG0
     have XF3 := XA3.step W3.ext (fun j hj q => by have := (own_row HO1.out j q).1; omega)
     go_roundg (l.length - (i + 1))
     case measure => have := HN.out; omega
     case rel => exact ⟨out ++ [(pk, px)], _, false, i + 1, ⟨_, XF3⟩, rfl, hlt, rfl, by go_num, rfl, rfl, by simp; omega, HD2, hI_ (by rw [it_snoc, List.length_append]; exact HO3.out)⟩
   ·by_cases hk : pk = k
    ·subst hk
     have HD2 : Hid (out ++ putGo pk x (l.drop (i + 1)) true = putGo pk x l false) := hI_ (by rw [← HD.out, HS.out, if_neg (by simp)]; simp)
     clear HBL HS
     go_wp2_with fail
     go_roundg (l.length - (i + 1))
     case measure => have := HN.out; omega
     case rel => exact ⟨out, _, true, i + 1, ⟨_, exG0⟩, rfl, hlt, rfl, by go_num, rfl, rfl, by omega, HD2, hI_ (ownR_extN HO1.out (exG0))⟩
    ·have hbk := str_beq_ne hk
     have HD2 : Hid ((out ++ [(pk, px)]) ++ putGo k x (l.drop (i + 1)) true = putGo k x l false) := hI_ (by rw [← HD.out, HS.out, if_neg (by simp), if_pos hk]; simp)
     clear HBL HS hk
     go_wp2_with (at_builtin; refine wpList_append_rowB rfl _ _ 66 rfl w.heap.size 78 2 24 _ Tryz.underlying66 info_item (by rfl) (by omega) v _ _ rfl (ownR_extN HO1.out (exG0)) x5.on.heap.size [Value.string pk, .int .u64 px] 78 rfl (Bx.newAt _ _ _ _ rfl) rfl (by simp [Value.oneCell']) (by omega) (by omega) (by simp; omega) (fun v4 W4 hO hrow => ?_); have HO4 := hI_ hO; clear hO hrow)
     have XA4 : Ext Non w (x5.on.alloc (.cells [Value.string pk, .int .u64 px].toArray 78)) := exG0
     have XF4 := XA4.step W4.ext (fun j hj q => by have := (own_row HO1.out j q).1; omega)
     go_roundg (l.length - (i + 1))
     case measure => have := HN.out; omega
     case rel => exact ⟨out ++ [(pk, px)], _, true, i + 1, ⟨_, XF4⟩, rfl, hlt, rfl, by go_num, rfl, rfl, by simp; omega, HD2, hI_ (by rw [it_snoc, List.length_append]; exact HO4.out)⟩
  ·obtain rfl : i = l.length := by omega
   have fz : w.frozen? ⟨b, 4, none⟩ = false := by obtain ⟨_, _, _, _, _, hb, -⟩ := HH.out.ex; exact froz_of_heap hb.h
   have HD0 : Hid (out ++ (if pl = true then [] else [(k, x)]) = putGo k x l false) := hI_ (by rw [← HD.out, List.drop_eq_nil_of_le (Nat.le_refl _)]; rfl)
   have hzz : w.heap.size ≤ z.on.heap.size := z.ext.size
   have fin : ∀ (o2 : Ks) (v2 : Value) (y : EW Non w), o2 = putGo k x l false → y.on.ownsRow w.heap.size 78 2 v2 o2.length (o2.flatMap itC) → Ext (One b) w (y.on.setCell ⟨b, 4, none⟩ v2) ∧ RL (y.on.setCell ⟨b, 4, none⟩ v2) b sb rb (setKeys g (setK g.keys k x)) := fun o2 v2 y e ho => by
    obtain ⟨a1, c1, a2, c2, v0, hb, i1, i2, t1, t2, hv⟩ := HH.out.ex
    have hy := HH.out.extN y.ext
    have hb2 := hb.extN y.ext
    have X3 : Ext (One b) y.on (y.on.setCell ⟨b, 4, none⟩ v2) := (Ext.refl _ _).set1 _
    refine ⟨y.ext.ofNon.trans X3, ?_⟩
    refine hy.upd X3 (g' := setKeys g (setK g.keys k x)) (hb2.set (j := 4) v2) (i1.extN y.ext) (i2.extN y.ext) (t1.extN y.ext) (t2.extN y.ext) ?_ rfl (nd_setK HH.out.nd k x)
    have e2 : (setKeys g (setK g.keys k x)).keys = setK g.keys k x := rfl
    rw [e2, ← HP.out, ← sortK_len (setK g.keys k x), ← HP.out, ← e]
    exact ownR_base (ownR_ext ho X3 (row_not ho hb2 (by decide))) (Nat.zero_le _)
   cases pl
   ·go_upto_region 13 with (at_builtin; refine wpList_append_rowB rfl _ _ 66 rfl w.heap.size 78 2 24 _ Tryz.underlying66 info_item (by rfl) (by omega) v _ _ rfl (ownR_extN HO.out (exG0)) z.on.heap.size [Value.string k, .int .u64 x] 78 rfl (Bx.newAt _ _ _ _ rfl) rfl (by simp [Value.oneCell']) (by omega) (by omega) (by simp; omega) (fun v5 W5 hO hrow => ?_); have HO5 := hI_ hO; clear hO hrow)
    have XA5 : Ext Non w (z.on.alloc (.cells [Value.string k, .int .u64 x].toArray 78)) := exG0
    have XF5 := XA5.step W5.ext (fun j hj q => by have := (own_row HO.out j q).1; omega)
    obtain ⟨x6, hx6⟩ := XF5.ew
    rw [hx6] at HO5 ⊢
    clear hx6 XF5 XA5 W5
    try simp only [Act.put]
    have HF := hI_ (fin (out ++ [(k, x)]) v5 x6 (by rw [← HD0.out]; rfl) (by rw [it_snoc, List.length_append]; exact HO5.out))
    clear fin
    obtain ⟨sa, sc, rfl⟩ := row_shape HO5.out
    go_wp2
    go_end0
    exact ⟨rfl, HF.out.1, HF.out.2⟩
   ·have HF := hI_ (fin out v z (by rw [← HD0.out]; simp) HO.out)
    clear fin
    obtain ⟨sa, sc, rfl⟩ := row_shape HO.out
    go_wp2
    go_end0
    exact ⟨rfl, HF.out.1, HF.out.2⟩
theorem delK_step (k : ByteArray) (l : Ks) (i : Nat) (h : i < l.length) : delK (l.take (i + 1)) k = delK (l.take i) k ++ (if (l[i]).1 ≠ k then [l[i]] else []) := by
 unfold delK
 rw [List.take_succ_eq_append_getElem h, List.filter_append]
 congr 1
 by_cases e : (l[i]).1 = k
 ·rw [if_neg (by simpa using e), List.filter_cons_of_neg (by simpa using e)]; rfl
 ·rw [if_pos e, List.filter_cons_of_pos (by simpa using e)]; rfl
set_option maxHeartbeats 4000000 in
set_option maxRecDepth 100000 in
theorem ref12_cut (b sb rb : Nat) (g : Lg) (hk16 : g.keys.length ≤ 16) (k : ByteArray) (w : World) (h : RL w b sb rb g) : Calls Tryz.prog 104 #[.pointer (some ⟨b, 0, none⟩), .string k] w fun e w' =>
  e = .returned (.tuple #[]) ∧ Ext (One b) w w' ∧ RL w' b sb rb (setKeys g (delK g.keys k)) := by
 obtain ⟨ia, ic, q4, h1, h2, hc⟩ := h.row
 have HH := hI_ h
 have hl : (sortK g.keys).length ≤ 16 := by rw [sortK_len]; exact hk16
 have HC := hI_ hc
 have HP := hI_ (cut_sort h.nd k)
 have fz : w.frozen? ⟨b, 4, none⟩ = false := by obtain ⟨_, _, _, _, _, hb, -⟩ := h.ex; exact froz_of_heap hb.h
 have hbl : b < w.heap.size := h.lt.1
 clear h hc
 generalize sortK g.keys = l at *
 go_enter Tryz.func104, Tryz.ntmps104
 go_wp2_with fail
 go_loopg [4, 5] l.length (fun n ov iv wr => ∃ (v : Value) (i : Nat) (z : EW Non w), v = ov ∧ i ≤ l.length ∧ n = l.length - i ∧ iv = .int .i64 i ∧ wr = z.on ∧ (delK (l.take i) k).length ≤ i ∧ Hid (wr.ownsRow w.heap.size 78 2 v (delK (l.take i) k).length ((delK (l.take i) k).flatMap itC)))
 case atStart => exact ⟨_, 0, ⟨_, exG0⟩, rfl, Nat.zero_le _, rfl, rfl, rfl, Nat.le_refl _, hI_ (World.ownsRow_nil _ _ _ _)⟩
 case round =>
  obtain ⟨v, i, z, rfl, hi, hn, rfl, rfl, hol, HO⟩ := hrel
  have HN := hI_ hn; clear hn
  have hzz : w.heap.size ≤ z.on.heap.size := z.ext.size
  by_cases hlt : i < l.length
  ·obtain ⟨gi, rfl, hg, k0, k1⟩ := HC.out i hlt
   have HS := hI_ (delK_step k l i hlt)
   generalize l[i] = p at *
   obtain ⟨pk, px⟩ := p
   have k0 : w.cell? ⟨gi, i * 2, none⟩ = some (.string pk) := k0
   have k1 : w.cell? ⟨gi, i * 2 + 1, none⟩ = some (.int .u64 px) := k1
   generalize delK (l.take i) k = out at *
   by_cases hk : pk = k
   ·subst hk
    have HF : Hid (delK (l.take (i + 1)) pk = out) := hI_ (by rw [HS.out]; simp)
    go_wp2_with fail
    go_roundg (l.length - (i + 1))
    case measure => have := HN.out; omega
    case rel => exact ⟨_, i + 1, ⟨_, exG0⟩, rfl, hlt, rfl, by go_num, rfl, by rw [HF.out]; omega, hI_ (by rw [HF.out]; exact ownR_extN HO.out (exG0))⟩
   ·have hbk := str_beq_ne hk
    have HF : Hid (delK (l.take (i + 1)) k = out ++ [(pk, px)]) := hI_ (by rw [HS.out, if_pos hk])
    clear hk
    go_wp2_with (at_builtin; refine wpList_append_rowB rfl _ _ 66 rfl w.heap.size 78 2 24 _ Tryz.underlying66 info_item (by rfl) (by omega) v _ _ rfl (ownR_extN HO.out (exG0)) z.on.heap.size [Value.string pk, .int .u64 px] 78 rfl (Bx.newAt _ _ _ _ rfl) rfl (by simp [Value.oneCell']) (by omega) (by omega) (by simp; omega) (fun v5 W5 hO hrow => ?_); have HO5 := hI_ hO; clear hO hrow)
    have XA5 : Ext Non w (z.on.alloc (.cells [Value.string pk, .int .u64 px].toArray 78)) := exG0
    have XF5 := XA5.step W5.ext (fun j hj q => by have := (own_row HO.out j q).1; omega)
    go_roundg (l.length - (i + 1))
    case measure => have := HN.out; omega
    case rel => exact ⟨_, i + 1, ⟨_, XF5⟩, rfl, hlt, rfl, by go_num, rfl, by rw [HF.out]; simp; omega, hI_ (by rw [HF.out, it_snoc, List.length_append]; exact HO5.out)⟩
  ·obtain rfl : i = l.length := by omega
   have ho := HO.out
   rw [List.take_length] at ho
   have HF : Hid (Ext (One b) w (z.on.setCell ⟨b, 4, none⟩ v) ∧ RL (z.on.setCell ⟨b, 4, none⟩ v) b sb rb (setKeys g (delK g.keys k))) := hI_ (by
    obtain ⟨a1, c1, a2, c2, v0, hb, i1, i2, t1, t2, hv⟩ := HH.out.ex
    have hy := HH.out.extN z.ext
    have hb2 := hb.extN z.ext
    have X3 : Ext (One b) z.on (z.on.setCell ⟨b, 4, none⟩ v) := (Ext.refl _ _).set1 _
    refine ⟨z.ext.ofNon.trans X3, ?_⟩
    refine hy.upd X3 (g' := setKeys g (delK g.keys k)) (hb2.set (j := 4) v) (i1.extN z.ext) (i2.extN z.ext) (t1.extN z.ext) (t2.extN z.ext) ?_ rfl (nd_delK HH.out.nd k)
    have e2 : (setKeys g (delK g.keys k)).keys = delK g.keys k := rfl
    rw [e2, ← sortK_len (delK g.keys k), ← HP.out]
    exact ownR_base (ownR_ext ho X3 (row_not ho hb2 (by decide))) (Nat.zero_le _))
   obtain ⟨sa, sc, rfl⟩ := row_shape ho
   clear ho HO
   go_wp2
   go_end0
   exact ⟨rfl, HF.out.1, HF.out.2⟩
end Go.Proofs.YtfefeepljbfcdaaGreat
