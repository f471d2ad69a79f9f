/- Joined texts: Rd07. What each proves stands at its head; no conditions beside those in its theorems. -/
import Derived.Deep.MidRow
import Derived.Deep.WholeRow
import Derived.Shelf.SlMaps.Clone
import Derived.Test.YtfefeepljbfcdaaGreatPjBB
import Derived.Test.YtfefeepljbfcdaaGreatPjBJ
/- The references of layers 7 and 11: reading a configuration; reading a result. -/
namespace Go.Proofs.YtfefeepljbfcdaaGreat
open Go.RowKit Go.Lib F64
set_option linter.unusedSimpArgs false
set_option linter.unusedVariables false
attribute [local go_sem] run_store_float
attribute [local go_sem low] EW.cellN EW.frozN alloc_cell_or alloc_froz_or EW.cellF EW.frozF EW.cell1 EW.froz1
attribute [local go_sem] relAt relUpon relAtT relUponT
attribute [local go_sem low] EW.cellO EW.frozO
theorem RdW.new (w : World) (t : List UInt8) (k : Nat) (hk : k = w.heap.size) (hs : t.length ≤ 4611686018427387904) : RdW (w.alloc (.cells #[.string (sB t), .bool false] 87)) k ⟨t, false⟩ :=
 ⟨Bx.newAt w [.string (sB t), .bool false] _ k hk, hs⟩
theorem RdW.lt {w : World} {b : Nat} {r : Rd} (h : RdW w b r) : b < w.heap.size := h.box.lt
set_option maxHeartbeats 2000000 in
set_option maxRecDepth 100000 in
theorem ref11_ReadResult (t : List UInt8) (hs : t.length ≤ 4611686018427387904) (w : World) : Calls Tryz.prog 39 #[.string (sB t)] w fun e w' =>
  e = .returned (.tuple #[.agg #[.int .i64 (readXcd t), .float .f64 (readXre t)], .int .i64 (readXE t)]) ∧ Ext Non w w' := by
 have HS := hI_ hs
 have hx : xBits t < 18446744073709551616 := numV_lt 8 (xR1 t)
 have hcd : xCd t ≤ 255 ∧ 0 ≤ xCd t := by unfold xCd; have := numV_lt 1 ⟨t, false⟩; omega
 have B2 := hI_ (Bx.newAt w [.int .i64 0, .float .f64 0] 48 _ rfl)
 have hem : Hid (readXB t = (fromB (xBits t) && decide (endE (xR2 t) = 0) && decide (xCd t ≤ 8))) := hI_ rfl
 have HR : Hid (readXcd t = (if readXB t = true then xCd t else 0) ∧ readXre t = (if readXB t = true then xBits t else 0) ∧ readXE t = (if readXB t = true then 0 else 5)) := hI_ ⟨rfl, rfl, rfl⟩
 go_enter Tryz.func39, Tryz.ntmps39
 go_upto_region 2 with fail
 have HW := hI_ (RdW.new (w.alloc (.cells [Value.int .i64 0, .float .f64 0].toArray 48)) t _ rfl hs)
 have BA := hI_ (B2.out.alloc (.cells #[.string (sB t), .bool false] 87))
 have XA := hI_ (((Ext.refl Non w).alloc (.cells [Value.int .i64 0, .float .f64 0].toArray 48)).alloc (.cells #[.string (sB t), .bool false] 87))
 obtain ⟨kb, hkb⟩ : ∃ kb, kb = (w.alloc (.cells [Value.int .i64 0, .float .f64 0].toArray 48)).heap.size := ⟨_, rfl⟩
 have hkb1 : kb = w.heap.size + 1 := by rw [hkb]; simp
 rw [← hkb] at HW
 clear hs hkb B2
 subst hkb1
 generalize (w.alloc (.cells [Value.int .i64 0, .float .f64 0].toArray 48)).alloc (.cells #[.string (sB t), .bool false] 87) = w1 at *
 go_wp2_with fail
 refine (rd_Num (w.heap.size + 1) ⟨t, false⟩ 1 (by omega) _ HW.out).mono ?_
 rintro e w2 ⟨rfl, x2, hW2⟩
 have HW2 : Hid (RdW w2 (w.heap.size + 1) (xR1 t)) := hI_ hW2
 have BA2 := hI_ (BA.out.ext x2 (fun q => by have q : w.heap.size = w.heap.size + 1 := q; omega))
 have XA2 := hI_ (XA.out.step x2 (fun i hi q => by have q : i = w.heap.size + 1 := q; omega))
 rw [show ((numV 1 ⟨t, false⟩ : Nat) : Int) = xCd t from rfl]
 clear x2 hW2 HW BA XA
 have hk2 : w.heap.size + 1 < w2.heap.size := HW2.out.lt
 go_upto_region 3 with fail
 have HW3 := hI_ (HW2.out.extN ((Ext.refl Non w2).alloc (.cells #[.int .i64 (xCd t), .float .f64 0] 48)))
 have BA3 := hI_ (BA2.out.extN ((Ext.refl Non w2).alloc (.cells #[.int .i64 (xCd t), .float .f64 0] 48)))
 have BX3 := hI_ (Bx.newAt w2 [.int .i64 (xCd t), .float .f64 0] 48 _ rfl)
 have XA3 := hI_ (XA2.out.trans ((Ext.refl Non w2).alloc (.cells #[.int .i64 (xCd t), .float .f64 0] 48)))
 clear HW2 BA2 XA2
 generalize w2.heap.size = kx at *
 generalize w2.alloc (.cells #[.int .i64 (xCd t), .float .f64 0] 48) = w3 at *
 clear w2
 go_wp2_with fail
 refine (rd_Bits (w.heap.size + 1) (xR1 t) 8 (by omega) _ HW3.out).mono ?_
 rintro e w4 ⟨rfl, x4, hW4⟩
 have HW4 : Hid (RdW w4 (w.heap.size + 1) (xR2 t)) := hI_ hW4
 have BA4 := hI_ (BA3.out.ext x4 (fun q => by have q : w.heap.size = w.heap.size + 1 := q; omega))
 have BX4 := hI_ (BX3.out.ext x4 (fun q => by have q : kx = w.heap.size + 1 := q; omega))
 have XA4 := hI_ (XA3.out.step x4 (fun i hi q => by have q : i = w.heap.size + 1 := q; omega))
 rw [show numV 8 (xR1 t) = xBits t from rfl]
 clear x4 hW4 HW3 BA3 XA3 BX3
 go_wp2_with fail
 refine (ref_From (xBits t) _).mono ?_
 rintro e _ ⟨rfl, rfl⟩
 have f1 : w4.frozen? ⟨kx, 1, none⟩ = false := froz_of_heap BX4.out.h
 have c1 : w4.cell? ⟨kx, 1, none⟩ = some (.float .f64 0) := BX4.out.cell rfl
 generalize hfn : fromN (xBits t) = fn at *
 have HFN := hI_ hfn
 clear hfn
 go_upto_region 5 with fail
 have X5 : Ext (One kx) w4 (w4.setCell ⟨kx, 1, none⟩ (.float .f64 fn)) := (Ext.refl _ _).set1 _
 have HW5 := hI_ (HW4.out.ext X5 (fun q => by have q : w.heap.size + 1 = kx := q; omega))
 have BA5 := hI_ (BA4.out.ext X5 (fun q => by have q : w.heap.size = kx := q; omega))
 have BX5 := hI_ (BX4.out.set (j := 1) (.float .f64 fn))
 have XA5 := hI_ (XA4.out.step X5 (fun i hi q => by have q : i = kx := q; omega))
 clear X5 HW4 BA4 BX4 XA4 f1 c1
 generalize w4.setCell ⟨kx, 1, none⟩ (.float .f64 fn) = w5 at *
 clear w4
 have r0 : w5.cell? ⟨kx, 0, none⟩ = some (.int .i64 (xCd t)) := BX5.out.cell rfl
 have r1 : w5.cell? ⟨kx, 1, none⟩ = some (.float .f64 fn) := BX5.out.cell rfl
 have z0 : w5.cell? ⟨w.heap.size, 0, none⟩ = some (.int .i64 0) := BA5.out.cell rfl
 have z1 : w5.cell? ⟨w.heap.size, 1, none⟩ = some (.float .f64 0) := BA5.out.cell rfl
 have g0 : w5.frozen? ⟨w.heap.size, 0, none⟩ = false := froz_of_heap BA5.out.h
 have g1 : w5.frozen? ⟨w.heap.size, 1, none⟩ = false := froz_of_heap BA5.out.h
 have EN := hI_ (rd_End (w.heap.size + 1) (xR2 t) w5 HW5.out)
 have FIN : Hid (∀ v0 v1, Ext Non w ((w5.setCell ⟨w.heap.size, 0, none⟩ v0).setCell ⟨w.heap.size, 1, none⟩ v1) ∧ ((w5.setCell ⟨w.heap.size, 0, none⟩ v0).setCell ⟨w.heap.size, 1, none⟩ v1).cell? ⟨w.heap.size, 0, none⟩ = some v0 ∧ ((w5.setCell ⟨w.heap.size, 0, none⟩ v0).setCell ⟨w.heap.size, 1, none⟩ v1).cell? ⟨w.heap.size, 1, none⟩ = some v1) := hI_ (fun v0 v1 => by
  have B2 := (BA5.out.set (j := 0) v0).set (j := 1) v1
  exact ⟨(XA5.out.setCell (.inr (Nat.le_refl _)) _).setCell (.inr (Nat.le_refl _)) _, B2.cell rfl, B2.cell rfl⟩)
 clear HW5 BA5 BX5 XA5
 generalize hfb : fromB (xBits t) = fb at *
 have HFB := hI_ hfb
 clear hfb
 cases fb
 ·have HV : Hid (readXcd t = 0 ∧ readXre t = 0 ∧ readXE t = 5) := hI_ (by
   have h : readXB t = false := by rw [hem.out]; rfl
   rw [HR.out.1, HR.out.2.1, HR.out.2.2, h]; exact ⟨rfl, rfl, rfl⟩)
  clear hem HR
  go_wp2
  obtain ⟨E1, y0, y1⟩ := FIN.out (.int .i64 0) (.float .f64 0)
  refine bodyPost_ret (v := .tuple #[.agg #[.int .i64 0, .float .f64 0], .int .i64 5]) (by simp [results, Tryz.results39, go_sem, y0, y1]) rfl ?_
  exact ⟨by rw [HV.out.1, HV.out.2.1, HV.out.2.2], E1⟩
 ·by_cases he : endE (xR2 t) = 0
  ·rw [he] at EN
   by_cases h8 : xCd t ≤ 8
   ·have HV : Hid (readXcd t = xCd t ∧ readXre t = fn ∧ readXE t = 0) := hI_ (by
     have h : readXB t = true := by rw [hem.out, decide_eq_true he, decide_eq_true h8]; rfl
     rw [HR.out.1, HR.out.2.1, HR.out.2.2, h]
     refine ⟨rfl, ?_, rfl⟩
     rw [← HFN.out]; unfold fromN; rw [HFB.out])
    have d8 : decide (8 < xCd t) = false := decide_eq_false (by omega)
    clear hem HR he h8
    generalize xCd t = xc at *
    go_wp2_with fail
    refine EN.out.mono ?_
    rintro e _ ⟨rfl, rfl⟩
    go_wp2
    obtain ⟨E1, y0, y1⟩ := FIN.out (.int .i64 xc) (.float .f64 fn)
    refine bodyPost_ret (v := .tuple #[.agg #[.int .i64 xc, .float .f64 fn], .int .i64 0]) (by simp [results, Tryz.results39, go_sem, y0, y1]) rfl ?_
    exact ⟨by rw [HV.out.1, HV.out.2.1, HV.out.2.2], E1⟩
   ·have HV : Hid (readXcd t = 0 ∧ readXre t = 0 ∧ readXE t = 5) := hI_ (by
     have h : readXB t = false := by rw [hem.out, decide_eq_false h8]; simp
     rw [HR.out.1, HR.out.2.1, HR.out.2.2, h]; exact ⟨rfl, rfl, rfl⟩)
    have d8 : decide (8 < xCd t) = true := decide_eq_true (by omega)
    clear hem HR he h8
    generalize xCd t = xc at *
    go_wp2_with fail
    refine EN.out.mono ?_
    rintro e _ ⟨rfl, rfl⟩
    go_wp2
    obtain ⟨E1, y0, y1⟩ := FIN.out (.int .i64 0) (.float .f64 0)
    refine bodyPost_ret (v := .tuple #[.agg #[.int .i64 0, .float .f64 0], .int .i64 5]) (by simp [results, Tryz.results39, go_sem, y0, y1]) rfl ?_
    exact ⟨by rw [HV.out.1, HV.out.2.1, HV.out.2.2], E1⟩
  ·have HV : Hid (readXcd t = 0 ∧ readXre t = 0 ∧ readXE t = 5) := hI_ (by
    have h : readXB t = false := by rw [hem.out, decide_eq_false he]; simp
    rw [HR.out.1, HR.out.2.1, HR.out.2.2, h]; exact ⟨rfl, rfl, rfl⟩)
   have dn : (endE (xR2 t) != 0) = true := by simpa using he
   clear hem HR he
   generalize endE (xR2 t) = en at *
   go_wp2_with fail
   refine EN.out.mono ?_
   rintro e _ ⟨rfl, rfl⟩
   go_wp2
   obtain ⟨E1, y0, y1⟩ := FIN.out (.int .i64 0) (.float .f64 0)
   refine bodyPost_ret (v := .tuple #[.agg #[.int .i64 0, .float .f64 0], .int .i64 5]) (by simp [results, Tryz.results39, go_sem, y0, y1]) rfl ?_
   exact ⟨by rw [HV.out.1, HV.out.2.1, HV.out.2.2], E1⟩
theorem info_int1 : (Tryz.prog.info? 3).map (fun i => (i.zero, i.size, i.bytes)) = some (some (.int .i64 0), 1, 8) := by kernel_rfl
theorem nsV_map (n : Nat) (r : Rd) : (nsV (n + 1) r).map (Value.int .i64) = (nsV n r).map (Value.int .i64) ++ [.int .i64 (numV 1 (nsR n r) : Nat)] := by rw [nsV_succ, List.map_append]; rfl
theorem Ints.own_row {w : World} {base : Nat} {v : Value} {xs : List Int} (h : w.ownsRow base 3 1 v xs.length (xs.map (Value.int .i64))) (hx : ∀ x ∈ xs, I64 x) : ∃ a cap, v = .slice a xs.length cap ∧ Ints w a cap xs ∧ fresh base w a := by
 obtain ⟨a, cap, e, hI, hf⟩ := Ints.ofOwn h hx
 exact ⟨a, cap, e, hI, hf⟩
set_option maxHeartbeats 4000000 in
set_option maxRecDepth 100000 in
theorem ref07_Read (t : List UInt8) (hs : t.length ≤ 4611686018427387904) (w : World) : Calls Tryz.prog 36 #[.string (sB t)] w fun e w' =>
  ∃ a cap, e = .returned (.tuple #[.agg #[.int .i64 (readCep t), .slice a (readCxs t).length cap], .int .i64 (readCE t)]) ∧ Ints w' a cap (readCxs t) ∧ Ext Non w w' ∧ fresh w.heap.size w' a := by
 have HS := hI_ hs
 have hep : cEp t ≤ 65535 ∧ 0 ≤ cEp t := by unfold cEp; have := numV_lt 2 (cR1 t); omega
 have hcn : cN t ≤ 255 := by unfold cN; have := numV_lt 1 (cR2 t); omega
 have hhd : ((numV 1 ⟨t, false⟩ : Nat) : Int) ≤ 255 := by have := numV_lt 1 ⟨t, false⟩; omega
 have B2 := hI_ (Bx.newAt w [.int .i64 0, .slice none 0 0] 24 _ rfl)
 have hem : Hid (readCB t = (decide (numV 1 ⟨t, false⟩ = 67) && decide (endE (cR4 t) = 0) && confB (cEp t) (cXs t))) := hI_ rfl
 have HR : Hid (readCep t = (if readCB t = true then cEp t else 0) ∧ readCxs t = (if readCB t = true then cXs t else []) ∧ readCE t = (if readCB t = true then 0 else 5)) := hI_ ⟨rfl, rfl, rfl⟩
 go_enter Tryz.func36, Tryz.ntmps36
 go_upto_region 2 with fail
 have HW := hI_ (RdW.new (w.alloc (.cells [Value.int .i64 0, .slice none 0 0].toArray 24)) t _ rfl hs)
 have BA := hI_ (B2.out.alloc (.cells #[.string (sB t), .bool false] 87))
 have XA := hI_ (((Ext.refl Non w).alloc (.cells [Value.int .i64 0, .slice none 0 0].toArray 24)).alloc (.cells #[.string (sB t), .bool false] 87))
 obtain ⟨kb, hkb⟩ : ∃ kb, kb = (w.alloc (.cells [Value.int .i64 0, .slice none 0 0].toArray 24)).heap.size := ⟨_, rfl⟩
 have hkb1 : kb = w.heap.size + 1 := by rw [hkb]; simp
 rw [← hkb] at HW
 clear hs hkb B2
 subst hkb1
 generalize (w.alloc (.cells [Value.int .i64 0, .slice none 0 0].toArray 24)).alloc (.cells #[.string (sB t), .bool false] 87) = w1 at *
 go_wp2_with fail
 refine (rd_Num (w.heap.size + 1) ⟨t, false⟩ 1 (by omega) _ HW.out).mono ?_
 rintro e w2 ⟨rfl, x2, hW2⟩
 have HW2 : Hid (RdW w2 (w.heap.size + 1) (cR1 t)) := hI_ hW2
 have BA2 := hI_ (BA.out.ext x2 (fun q => by have q : w.heap.size = w.heap.size + 1 := q; omega))
 have XA2 := hI_ (XA.out.step x2 (fun i hi q => by have q : i = w.heap.size + 1 := q; omega))
 clear x2 hW2 HW BA XA
 generalize hnh : numV 1 ⟨t, false⟩ = nh at *
 clear hnh
 go_wp2_with fail
 refine (rd_Num (w.heap.size + 1) (cR1 t) 2 (by omega) _ HW2.out).mono ?_
 rintro e w3 ⟨rfl, x3, hW3⟩
 have HW3 : Hid (RdW w3 (w.heap.size + 1) (cR2 t)) := hI_ hW3
 have BA3 := hI_ (BA2.out.ext x3 (fun q => by have q : w.heap.size = w.heap.size + 1 := q; omega))
 have XA3 := hI_ (XA2.out.step x3 (fun i hi q => by have q : i = w.heap.size + 1 := q; omega))
 rw [show ((numV 2 (cR1 t) : Nat) : Int) = cEp t from rfl]
 clear x3 hW3 HW2 BA2 XA2
 have hk2 : w.heap.size + 1 < w3.heap.size := HW3.out.lt
 go_upto_region 4 with fail
 have HW4 := hI_ (HW3.out.extN ((Ext.refl Non w3).alloc (.cells #[.int .i64 (cEp t), .slice none 0 0] 24)))
 have BA4 := hI_ (BA3.out.extN ((Ext.refl Non w3).alloc (.cells #[.int .i64 (cEp t), .slice none 0 0] 24)))
 have BX4 := hI_ (Bx.newAt w3 [.int .i64 (cEp t), .slice none 0 0] 24 _ rfl)
 have XA4 := hI_ (XA3.out.trans ((Ext.refl Non w3).alloc (.cells #[.int .i64 (cEp t), .slice none 0 0] 24)))
 clear HW3 BA3 XA3
 generalize w3.heap.size = kx at *
 generalize w3.alloc (.cells #[.int .i64 (cEp t), .slice none 0 0] 24) = w4 at *
 clear w3 w2
 go_wp2_with fail
 refine (rd_Num (w.heap.size + 1) (cR2 t) 1 (by omega) _ HW4.out).mono ?_
 rintro e w5 ⟨rfl, x5, hW5⟩
 have HW5 : Hid (RdW w5 (w.heap.size + 1) (cR3 t)) := hI_ hW5
 have BA5 := hI_ (BA4.out.ext x5 (fun q => by have q : w.heap.size = w.heap.size + 1 := q; omega))
 have BX5 := hI_ (BX4.out.ext x5 (fun q => by have q : kx = w.heap.size + 1 := q; omega))
 have XA5 := hI_ (XA4.out.step x5 (fun i hi q => by have q : i = w.heap.size + 1 := q; omega))
 rw [show numV 1 (cR2 t) = cN t from rfl]
 clear x5 hW5 HW4 BA4 XA4 BX4 w4
 have HXS : Hid (cXs t = nsV (cN t) (cR3 t) ∧ cR4 t = nsR (cN t) (cR3 t)) := hI_ ⟨rfl, rfl⟩
 have HNL := hI_ (nsV_lt (cN t) (cR3 t))
 have HLN := hI_ (nsV_len (cN t) (cR3 t))
 generalize cN t = N at *
 generalize cR3 t = r3 at *
 generalize hr4 : cR4 t = r4 at *
 generalize hxs : cXs t = xs at *
 have HR4 := hI_ hr4; have HXE := hI_ hxs
 clear hr4 hxs
 generalize cEp t = ep at *
 go_wp2_with fail
 go_loopg [8] N (fun n iv wr => ∃ (i : Nat) (v : Value) (z : EW Non w), i ≤ N ∧ n = N - i ∧ iv = .int .i64 i ∧ wr = z.on ∧ Hid (RdW wr (w.heap.size + 1) (nsR i r3)) ∧ Hid (Bx wr w.heap.size [.int .i64 0, .slice none 0 0] 24) ∧ Hid (Bx wr kx [.int .i64 ep, v] 24) ∧ Hid (wr.ownsRow (kx + 1) 3 1 v i ((nsV i r3).map (Value.int .i64))))
 case atStart =>
  obtain ⟨z, hz⟩ := XA5.out.ew
  subst hz
  exact ⟨0, .slice none 0 0, z, Nat.zero_le _, rfl, rfl, rfl, HW5, BA5, BX5, hI_ (World.ownsRow_nil _ _ _ _)⟩
 case round =>
  obtain ⟨i, v, z, hi, hn, rfl, rfl, HWi, BAi, BXi, ROW⟩ := hrel
  have HG := hI_ hn; clear hn
  clear HW5 BA5 BX5 XA5
  by_cases hlt : i < N
  ·have hkz : kx < z.on.heap.size := BXi.out.lt
   have hbz : w.heap.size + 1 < z.on.heap.size := HWi.out.lt
   have HRV := hI_ (own_row ROW.out)
   have XZ := hI_ z.ext
   generalize z.on = wi at *
   clear z
   have q1 : wi.cell? ⟨kx, 1, none⟩ = some v := BXi.out.cell rfl
   have n1 : One (w.heap.size + 1) kx = False := by unfold One; simp; omega
   have n2 : Row v kx = False := by simp only [eq_iff_iff, iff_false]; intro q; have := (HRV.out kx q).1; omega
   have hrb : ¬ Row v (w.heap.size + 1) := fun q => by have := (HRV.out _ q).1; omega
   have HRB := hI_ hrb
   have hr1 : ∀ k, One (w.heap.size + 1) k → k < wi.heap.size := fun k q => by have q : k = w.heap.size + 1 := q; omega
   have hr2 : ∀ k, Row v k → k < wi.heap.size := fun k q => (HRV.out k q).2
   have hr3 : ∀ k, One (w.heap.size + 1) k → ¬ Row v k := fun k q r => by have q : k = w.heap.size + 1 := q; subst q; exact HRB.out r
   have HR1 := hI_ hr1; have HR2 := hI_ hr2; have HR3 := hI_ hr3
   clear hrb hr1 hr2 hr3
   have NSR : Hid (nsR (i + 1) r3 = numR 1 (nsR i r3)) := hI_ rfl
   have NSV := hI_ (nsV_map i r3)
   obtain ⟨num, hnum⟩ : ∃ num, num = numV 1 (nsR i r3) := ⟨_, rfl⟩
   have CN : Hid (∀ w', RdW w' (w.heap.size + 1) (nsR i r3) → Calls Tryz.prog 35 #[.pointer (some ⟨w.heap.size + 1, 0, none⟩), .int .i64 1] w' fun e w'' => e = .returned (.int .i64 (num : Int)) ∧ Ext (One (w.heap.size + 1)) w' w'' ∧ RdW w'' (w.heap.size + 1) (nsR (i + 1) r3)) := hI_ (fun w' h => by rw [hnum]; exact rd_Num (w.heap.size + 1) (nsR i r3) 1 (by omega) w' h)
   rw [← hnum] at NSV
   clear hnum
   obtain ⟨row, hrow⟩ : ∃ row, row = (nsV i r3).map (Value.int .i64) := ⟨_, rfl⟩
   obtain ⟨row2, hrow2⟩ : ∃ row2, row2 = (nsV (i + 1) r3).map (Value.int .i64) := ⟨_, rfl⟩
   rw [← hrow, ← hrow2] at NSV
   rw [← hrow] at ROW
   have HRW2 := hI_ hrow2
   clear hrow hrow2
   go_upto_region 8 with fail
   apply wp_region_wr 7 [Mo.is _, Mo.is _, Mo.is _, moSt (.int .i64 (num : Int)) (fun w' => RdW w' (w.heap.size + 1) (nsR (i + 1) r3)) (fun _ _ x h => RdW.extN h x), moOne wi.heap.size [.int .i64 (num : Int)] 3, moRow v wi.heap.size (kx + 1) 3 1 (i + 1) row2, Mo.is _] (One (w.heap.size + 1)) 3 (fun w' => RdW w' (w.heap.size + 1) (nsR i r3)) (Row v) 5 (fun w' => w'.ownsRow (kx + 1) 3 1 v i row) (by kernel_rfl) (by kernel_rfl) (by kernel_rfl) (by kernel_rfl) (by kernel_rfl) (by decide) (by kernel_rfl) (by decide) ?ta41 ?tb41 ?ha41 ?hb41 ?hc41 ?hd41 ?ma41 ?mb41 ?st41 ?q41
   case ta41 => exact HWi.out
   case tb41 => exact ROW.out
   case ha41 => exact fun _ _ x h => RdW.extN h x
   case hb41 => exact fun _ _ x h => RdW.ext h x HRB.out
   case hc41 => exact fun _ _ x h => ownR_extN h x
   case hd41 => exact fun _ _ x h => ownR_ext h x (fun k hk hs => HR3.out k hs hk)
   case st41 =>
    refine ⟨?_, ?_, ?_, ?_, ?_, ?_, ?_, trivial⟩
    ·refine .inl ⟨by decide, by decide, ?_⟩
     intro a' w' hx hs hd
     obtain ⟨y, rfl⟩ := hx.ew
     have e6 : a'.tmps[6]?.getD undef = _ := hs 6 rfl
     simp only [aL, aS, aZ] at e6
     refine .inl ⟨rfl, ?_⟩
     clear hs hd hx
     go_simp
     exact ⟨Ext.refl _ _, rfl⟩
    ·refine .inl ⟨by decide, by decide, ?_⟩
     intro a' w' hx hs hd
     obtain ⟨y, rfl⟩ := hx.ew
     have e24 : a'.tmps[24]?.getD undef = _ := hd 0 24 rfl rfl
     refine .inl ⟨rfl, ?_⟩
     clear hs hd hx
     go_simp
     exact ⟨Ext.refl _ _, rfl⟩
    ·refine .inl ⟨by decide, by decide, ?_⟩
     intro a' w' hx hs hd
     obtain ⟨y, rfl⟩ := hx.ew
     have e4 : a'.tmps[4]?.getD undef = _ := hs 4 rfl
     simp only [aL, aS, aZ] at e4
     refine .inl ⟨rfl, ?_⟩
     clear hs hd hx
     go_simp
     exact ⟨Ext.refl _ _, rfl⟩
    ·refine .inr (.inl ⟨rfl, ?_⟩)
     intro a' w' hx hst hs hd
     obtain ⟨y, rfl⟩ := hx.ew
     have e26 : a'.tmps[26]?.getD undef = _ := hd 2 26 rfl rfl
     refine ⟨rfl, ?_⟩
     clear hs hd hx
     go_simp
     exact (CN.out _ hst).mono (fun e w'' ⟨he, hx, hr⟩ => ⟨_, he, hx, rfl, hr⟩)
    ·refine .inl ⟨by decide, by decide, ?_⟩
     intro a' w' hx hs hd
     obtain ⟨y, rfl⟩ := hx.ew
     obtain ⟨e27, hR3⟩ : a'.tmps[27]?.getD undef = .int .i64 (num : Int) ∧ RdW y.on (w.heap.size + 1) (nsR (i + 1) r3) := hd 3 27 rfl rfl
     refine .inl ⟨rfl, ?_⟩
     clear hs hd hx
     go_simp
     exact ⟨(Ext.refl _ _).alloc _, _, rfl, y.ext.size, Bx.newAt _ _ _ _ rfl⟩
    ·refine .inr (.inr ⟨rfl, ?_⟩)
     intro a' w' hx hst hs hd
     obtain ⟨y, rfl⟩ := hx.ew
     have e25 : a'.tmps[25]?.getD undef = _ := hd 1 25 rfl rfl
     obtain ⟨k4, e28, hk4, hB4⟩ : ∃ k, a'.tmps[28]?.getD undef = .slice (some ⟨k, 0, none⟩) 1 1 ∧ wi.heap.size ≤ k ∧ Bx y.on k [.int .i64 (num : Int)] 3 := hd 4 28 rfl rfl
     refine ⟨rfl, ?_⟩
     clear hs hd hx
     exact rel_append_row _ _ 22 rfl (kx + 1) 3 1 8 _ Tryz.underlying22 info_int1 (by rfl) (by omega) (by omega) v i row ((eval_tmp _ _).trans e25) hst k4 _ _ ((eval_tmp _ _).trans e28) hB4 rfl (by intro u hu; simp at hu; subst hu; rfl) (by omega) (by have := y.ext.size; omega) (fun v' w' x o r => ⟨v', rfl, by rw [NSV.out]; exact o, fun k hk => (r k hk).imp id (fun z => Nat.le_trans y.ext.size z)⟩)
    ·refine .inl ⟨by decide, by decide, ?_⟩
     intro a' w' hx hs hd
     obtain ⟨y, rfl⟩ := hx.ew
     have e6 : a'.tmps[6]?.getD undef = _ := hs 6 rfl
     simp only [aL, aS, aZ] at e6
     refine .inl ⟨rfl, ?_⟩
     clear hs hd hx
     go_simp
     exact ⟨Ext.refl _ _, rfl⟩
   case ma41 => exact ⟨.inr (Mo.is_still _ _), .inr (Mo.is_still _ _), .inr (Mo.is_still _ _), .inl rfl, .inr (moOne_still HR1.out), .inr (moRow_still HR1.out HR3.out), .inr (Mo.is_still _ _), trivial⟩
   case mb41 => exact ⟨.inr (Mo.is_still _ _), .inr (Mo.is_still _ _), .inr (Mo.is_still _ _), .inr (moSt_still (fun _ _ x h => RdW.ext h x HRB.out)), .inr (moOne_still HR2.out), .inl rfl, .inr (Mo.is_still _ _), trivial⟩
   case' q41 =>
    intro vs w' hx hRR
    obtain ⟨x9, rfl⟩ := hx.ew
    have q0 : vs 0 = _ := hRR 0 (by decide)
    have q1 : vs 1 = _ := hRR 1 (by decide)
    have q2 : vs 2 = _ := hRR 2 (by decide)
    obtain ⟨q3, hR3⟩ : vs 3 = .int .i64 (num : Int) ∧ RdW x9.on (w.heap.size + 1) (nsR (i + 1) r3) := hRR 3 (by decide)
    obtain ⟨k4, q4, hk4, hB4⟩ : ∃ k, vs 4 = .slice (some ⟨k, 0, none⟩) 1 1 ∧ wi.heap.size ≤ k ∧ Bx x9.on k [.int .i64 (num : Int)] 3 := hRR 4 (by decide)
    obtain ⟨u5, q5, hO5, hr5⟩ : ∃ u, vs 5 = u ∧ x9.on.ownsRow (kx + 1) 3 1 u (i + 1) row2 ∧ ∀ k, Row u k → Row v k ∨ wi.heap.size ≤ k := hRR 5 (by decide)
    have q6 : vs 6 = _ := hRR 6 (by decide)
    clear hRR hx
    simp only [putAll, List.take_succ_cons, List.take_zero, List.drop_succ_cons, List.drop_zero, Act.put, List.setIfInBounds_toArray, List.set_cons_zero, List.set_cons_succ, Nat.reduceAdd, Nat.zero_add]
    simp only [q0, q1, q2, q3, q4, q5, q6]
    clear q0 q1 q2 q3 q4 q5 q6 vs
   obtain ⟨ua, uc, hus⟩ := row_slice hO5
   subst hus
   have HB9 := hI_ (BXi.out.ext x9.ext (fun q => by rcases q with q | q; rw [n1] at q; exact q; rw [n2] at q; exact q))
   have HA9 := hI_ (BAi.out.ext x9.ext (fun q => by rcases q with q | q; have q : w.heap.size = w.heap.size + 1 := q; omega; have := (HRV.out _ q).1; omega))
   have HR9 := hI_ hR3; have HO9 := hI_ hO5
   have HZ9 := hI_ (XZ.out.step x9.ext (fun j hj q => by rcases q with q | q; have q : j = w.heap.size + 1 := q; omega; have := (HRV.out _ q).1; omega))
   have hu5 : ¬ Row (.slice ua (i + 1) uc) kx := fun q => by rcases hr5 kx q with z | z; rw [n2] at z; exact z; omega
   have HU5 := hI_ hu5
   clear hR3 hO5 hk4 hB4 hr5 hu5 n1 n2 q1
   generalize x9.on = w9 at *
   have p1 : w9.cell? ⟨kx, 1, none⟩ = some v := HB9.out.cell rfl
   have f1 : w9.frozen? ⟨kx, 1, none⟩ = false := froz_of_heap HB9.out.h
   go_wp2_with fail
   have X1 : Ext (One kx) w9 (w9.setCell ⟨kx, 1, none⟩ (.slice ua (i + 1) uc)) := (Ext.refl _ _).set1 _
   go_roundg (N - (i + 1))
   case measure => have := HG.out; omega
   case rel => exact ⟨i + 1, .slice ua (i + 1) uc, ⟨_, HZ9.out.step X1 (fun j hj q => by have q : j = kx := q; omega)⟩, hlt, rfl, by go_num, rfl, hI_ (HR9.out.ext X1 (fun q => by have q : w.heap.size + 1 = kx := q; omega)), hI_ (HA9.out.ext X1 (fun q => by have q : w.heap.size = kx := q; omega)), hI_ (HB9.out.set (j := 1) (.slice ua (i + 1) uc)), hI_ (by rw [← HRW2.out]; exact ownR_ext HO9.out X1 (fun k hk hs => by have hs : k = kx := hs; subst hs; exact HU5.out hk))⟩
  ·obtain rfl : i = N := by omega
   have HWf : Hid (RdW z.on (w.heap.size + 1) r4) := hI_ (by rw [HXS.out.2]; exact HWi.out)
   have hro : z.on.ownsRow (kx + 1) 3 1 v xs.length (xs.map (Value.int .i64)) := by rw [HXS.out.1, HLN.out]; exact ROW.out
   obtain ⟨xa, xc, rfl, hI, hfr⟩ := Ints.own_row hro (fun x hx => by rw [HXS.out.1] at hx; have := HNL.out x hx; unfold I64; omega)
   have HIx := hI_ hI
   have HFR := hI_ hfr
   clear hfr
   have hel : Hid (∀ w', Ext Non z.on w' → Ints w' xa xc xs) := hI_ (fun w' x => HIx.out.extN x)
   have XZ := hI_ z.ext
   have hkz : kx < z.on.heap.size := BXi.out.lt
   have hro2 := hI_ (own_row hro)
   clear hro hI ROW HWi
   generalize z.on = wi at *
   clear z
   have EN := hI_ (rd_End (w.heap.size + 1) r4 wi HWf.out)
   have RI := hI_ (fun w' (x : Ext Non wi w') => ref_Right07 ep xa xc xs w' (HIx.out.extN x))
   have c0 : wi.cell? ⟨kx, 0, none⟩ = some (.int .i64 ep) := BXi.out.cell rfl
   have c1 : wi.cell? ⟨kx, 1, none⟩ = some (.slice xa xs.length xc) := BXi.out.cell rfl
   have FIN : Hid (∀ W, Ext Non wi W → ∀ v0 v1, Ext Non w ((W.setCell ⟨w.heap.size, 0, none⟩ v0).setCell ⟨w.heap.size, 1, none⟩ v1) ∧ ((W.setCell ⟨w.heap.size, 0, none⟩ v0).setCell ⟨w.heap.size, 1, none⟩ v1).cell? ⟨w.heap.size, 0, none⟩ = some v0 ∧ ((W.setCell ⟨w.heap.size, 0, none⟩ v0).setCell ⟨w.heap.size, 1, none⟩ v1).cell? ⟨w.heap.size, 1, none⟩ = some v1 ∧ Ints ((W.setCell ⟨w.heap.size, 0, none⟩ v0).setCell ⟨w.heap.size, 1, none⟩ v1) xa xc xs ∧ fresh w.heap.size ((W.setCell ⟨w.heap.size, 0, none⟩ v0).setCell ⟨w.heap.size, 1, none⟩ v1) xa) := hI_ (fun W x v0 v1 => by
    have B2 := ((BAi.out.extN x).set (j := 0) v0).set (j := 1) v1
    have x2 : Ext (One w.heap.size) W ((W.setCell ⟨w.heap.size, 0, none⟩ v0).setCell ⟨w.heap.size, 1, none⟩ v1) := ((Ext.refl _ _).set1 _).set1 _
    exact ⟨((XZ.out.trans x).setCell (.inr (Nat.le_refl _)) _).setCell (.inr (Nat.le_refl _)) _, B2.cell rfl, B2.cell rfl, (HIx.out.extN x).ext x2 (fun b o e q => by
     have q : b = w.heap.size := q
     have := (hro2.out b (by rw [e]; rfl)).1
     omega), fun k o e => ⟨by have := (HFR.out k o e).1; omega, by
      obtain ⟨h1, vs, fr, h⟩ := HFR.out k o e
      have hk := (Array.getElem?_eq_some_iff.1 h).1
      exact ⟨vs, fr, (x2.block k (Nat.lt_of_lt_of_le hk x.size) (fun q => by have q : k = w.heap.size := q; omega)).trans ((x.block k hk (fun f => f)).trans h)⟩⟩⟩)
   have FRZ : Hid (∀ W, Ext Non wi W → W.cell? ⟨w.heap.size, 0, none⟩ = some (.int .i64 0) ∧ W.cell? ⟨w.heap.size, 1, none⟩ = some (.slice none 0 0) ∧ W.frozen? ⟨w.heap.size, 0, none⟩ = false ∧ W.frozen? ⟨w.heap.size, 1, none⟩ = false) := hI_ (fun W x => ⟨(BAi.out.extN x).cell rfl, (BAi.out.extN x).cell rfl, froz_of_heap (BAi.out.extN x).h, froz_of_heap (BAi.out.extN x).h⟩)
   obtain ⟨g0, g1, g2, g3⟩ := FRZ.out wi (Ext.refl _ _)
   have NO : Hid (readCB t = false → readCep t = 0 ∧ readCxs t = [] ∧ readCE t = 5) := hI_ (fun h => by rw [HR.out.1, HR.out.2.1, HR.out.2.2, h]; exact ⟨rfl, rfl, rfl⟩)
   have YES : Hid (readCB t = true → readCep t = ep ∧ readCxs t = xs ∧ readCE t = 0) := hI_ (fun h => by rw [HR.out.1, HR.out.2.1, HR.out.2.2, h]; exact ⟨rfl, rfl, rfl⟩)
   by_cases h67 : (nh : Int) = 67
   ·have d67 : ((nh : Int) != 67) = false := by simpa using h67
    have h67n : nh = 67 := by omega
    by_cases he : endE r4 = 0
    ·rw [he] at EN
     cases hcf : confB ep xs
     ·have HV := hI_ (NO.out (by rw [hem.out, hcf]; simp))
      rw [hcf] at RI
      clear hem HR h67 h67n he hcf NO YES
      go_wp2_with fail
      refine EN.out.mono ?_
      rintro e _ ⟨rfl, rfl⟩
      go_wp2_with fail
      refine Calls.ew (RI.out _ (exG0)) ?_
      rintro e x6 rfl
      obtain ⟨g0', g1', g2', g3'⟩ := FRZ.out x6.on x6.ext
      have F6 := hI_ (FIN.out x6.on x6.ext)
      clear g0 g1 g2 g3 c0 c1
      generalize x6.on = w6 at *
      go_wp2
      obtain ⟨E1, y0, y1, -⟩ := F6.out (.int .i64 0) (.slice none 0 0)
      refine bodyPost_ret (v := .tuple #[.agg #[.int .i64 0, .slice none 0 0], .int .i64 5]) (by simp [results, Tryz.results36, go_sem, y0, y1]) rfl ?_
      exact ⟨none, 0, by rw [HV.out.1, HV.out.2.1, HV.out.2.2]; rfl, by rw [HV.out.2.1]; exact Ints.nil' _, E1, fun k o e => (nomatch e)⟩
     ·have HV := hI_ (YES.out (by rw [hem.out, hcf, decide_eq_true h67n, decide_eq_true he]; rfl))
      rw [hcf] at RI
      clear hem HR h67 h67n he hcf NO YES
      go_wp2_with fail
      refine EN.out.mono ?_
      rintro e _ ⟨rfl, rfl⟩
      go_wp2_with fail
      refine Calls.ew (RI.out _ (exG0)) ?_
      rintro e x6 rfl
      obtain ⟨g0', g1', g2', g3'⟩ := FRZ.out x6.on x6.ext
      have F6 := hI_ (FIN.out x6.on x6.ext)
      have c0' : x6.on.cell? ⟨kx, 0, none⟩ = some (.int .i64 ep) := (BXi.out.extN x6.ext).cell rfl
      have c1' : x6.on.cell? ⟨kx, 1, none⟩ = some (.slice xa xs.length xc) := (BXi.out.extN x6.ext).cell rfl
      clear g0 g1 g2 g3 c0 c1
      generalize x6.on = w6 at *
      go_wp2
      obtain ⟨E1, y0, y1, hI2, hf2⟩ := F6.out (.int .i64 ep) (.slice xa xs.length xc)
      refine bodyPost_ret (v := .tuple #[.agg #[.int .i64 ep, .slice xa xs.length xc], .int .i64 0]) (by simp [results, Tryz.results36, go_sem, y0, y1]) rfl ?_
      exact ⟨xa, xc, by rw [HV.out.1, HV.out.2.1, HV.out.2.2], by rw [HV.out.2.1]; exact hI2, E1, hf2⟩
    ·have HV := hI_ (NO.out (by rw [hem.out, decide_eq_false he]; simp))
     have dn : (endE r4 != 0) = true := by simpa using he
     clear hem HR h67 h67n he NO YES
     generalize endE r4 = en at *
     go_wp2_with fail
     refine EN.out.mono ?_
     rintro e _ ⟨rfl, rfl⟩
     have F6 := hI_ (FIN.out wi (Ext.refl _ _))
     go_wp2
     obtain ⟨E1, y0, y1, -⟩ := F6.out (.int .i64 0) (.slice none 0 0)
     refine bodyPost_ret (v := .tuple #[.agg #[.int .i64 0, .slice none 0 0], .int .i64 5]) (by simp [results, Tryz.results36, go_sem, y0, y1]) rfl ?_
     exact ⟨none, 0, by rw [HV.out.1, HV.out.2.1, HV.out.2.2]; rfl, by rw [HV.out.2.1]; exact Ints.nil' _, E1, fun k o e => (nomatch e)⟩
   ·have d67 : ((nh : Int) != 67) = true := by simpa using h67
    have HV := hI_ (NO.out (by rw [hem.out, decide_eq_false (show ¬ nh = 67 by omega)]; rfl))
    clear hem HR h67 NO YES
    have F6 := hI_ (FIN.out wi (Ext.refl _ _))
    go_wp2
    obtain ⟨E1, y0, y1, -⟩ := F6.out (.int .i64 0) (.slice none 0 0)
    refine bodyPost_ret (v := .tuple #[.agg #[.int .i64 0, .slice none 0 0], .int .i64 5]) (by simp [results, Tryz.results36, go_sem, y0, y1]) rfl ?_
    exact ⟨none, 0, by rw [HV.out.1, HV.out.2.1, HV.out.2.2]; rfl, by rw [HV.out.2.1]; exact Ints.nil' _, E1, fun k o e => (nomatch e)⟩
end Go.Proofs.YtfefeepljbfcdaaGreat
