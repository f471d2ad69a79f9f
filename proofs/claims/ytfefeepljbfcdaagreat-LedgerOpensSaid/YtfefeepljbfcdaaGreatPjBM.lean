/- Joined texts: Res11, Read07. What each proves stands at its head; no conditions beside those in its theorems. -/
import Derived.Deep.MidRow
import Derived.Deep.WholeRow
import Derived.Shelf.SlMaps.Clone
import Derived.Test.YtfefeepljbfcdaaGreatPjBL
/- Layers 7 and 11: the program reads a result, a configuration (of bytes that are one's). -/
namespace Go.Proofs.YtfefeepljbfcdaaGreat
open Go.RowKit Go.Lib F64
set_option linter.unusedSimpArgs false
set_option linter.unusedVariables false
attribute [local go_sem] run_store_float
attribute [local go_sem low] EW.cellN EW.frozN alloc_cell_or alloc_froz_or EW.cellF EW.frozF EW.cell1 EW.froz1
attribute [local go_sem] relAt relUpon relAtT relUponT
attribute [local go_sem low] EW.cellO EW.frozO
set_option maxHeartbeats 1000000 in
set_option maxRecDepth 100000 in
theorem deeds_ReadResult_ok (t : List UInt8) (hs : t.length ≤ 4611686018427387904) (hb : readXB t = true) (w : World) : Calls Tryz.prog 109 #[.string (sB t)] w fun e w' =>
  e = .returned (.tuple #[.agg #[.int .i64 (xCd t), .float .f64 (xBits t)], .int .i64 0]) ∧ Ext Non w w' := by
 have hb2 := hb
 unfold readXB at hb2
 simp only [Bool.and_eq_true, decide_eq_true_eq] at hb2
 obtain ⟨⟨hf, he⟩, h8⟩ := hb2
 have hnb : (xR2 t).bad = false := by
  cases h : (xR2 t).bad
  ·rfl
  ·unfold endE at he; rw [if_pos h] at he; cases he
 have KS : Hid (∀ w, Calls Tryz.prog 120 #[.string ⟨#[98, 113]⟩, .string (sB t)] w fun e w' => Ext Non w w' ∧ ∃ k cap, e = .returned (.tuple #[.slice (some ⟨k, 0, none⟩) 2 cap, .int .i64 0]) ∧ k < w'.heap.size ∧ w'.cell? ⟨k, 0, none⟩ = some (.int .i64 (xCd t)) ∧ w'.cell? ⟨k, 4, none⟩ = some (.int .u64 (xBits t))) := hI_ (fun w => (scan_bq t hs hnb w).mono fun e w' ⟨h1, h2, _⟩ => ⟨h1, h2 he⟩)
 have hcd : 0 ≤ xCd t := by unfold xCd; omega
 have KF : Hid (∀ w, Calls Tryz.prog 77 #[.int .u64 (xBits t)] w fun e w' => e = .returned (.tuple #[.float .f64 (xBits t), .bool true]) ∧ w = w') := hI_ (fun w => (reals_From (xBits t) w).mono fun e w' ⟨h1, h2⟩ => ⟨by rw [h1, hf]; unfold fromN; rw [if_pos hf], h2⟩)
 have hw : withinB (xCd t) 0 8 = true := by unfold withinB; simp [hcd, h8]
 have KW : Hid (∀ w, Calls Tryz.prog 88 #[.int .i64 (xCd t), .int .i64 0, .int .i64 8] w fun e w' => e = .returned (.bool true) ∧ w = w') := hI_ (fun w => by rw [← hw]; exact deeds_within _ _ _ w)
 clear hs hb hf he h8 hnb hcd hw
 generalize xCd t = cd at *
 generalize xBits t = x at *
 generalize sB t = tt at *
 have B0 := hI_ (Bx.newAt w [.int .i64 0, .float .f64 0] 48 _ rfl)
 go_enter Tryz.func109, Tryz.ntmps109
 go_wp2_with fail
 refine (KS.out _).mono ?_
 rintro e w2 ⟨hx, k, cap, rfl, hk, c0, c4⟩
 have XA := hI_ (((Ext.refl Non w).alloc (.cells [Value.int .i64 0, .float .f64 0].toArray 48)).trans hx)
 have B2 := hI_ (B0.out.extN hx)
 clear hx B0
 go_wp2_with fail
 refine (KW.out _).mono ?_
 rintro e _ ⟨rfl, rfl⟩
 go_wp2_with fail
 refine (KF.out _).mono ?_
 rintro e _ ⟨rfl, rfl⟩
 have z0 : w2.cell? ⟨w.heap.size, 0, none⟩ = some (.int .i64 0) := B2.out.cell rfl
 have z1 : w2.cell? ⟨w.heap.size, 1, none⟩ = some (.float .f64 0) := B2.out.cell rfl
 have g0 : w2.frozen? ⟨w.heap.size, 0, none⟩ = false := froz_of_heap B2.out.h
 have g1 : w2.frozen? ⟨w.heap.size, 1, none⟩ = false := froz_of_heap B2.out.h
 go_wp2
 have E2 := (B2.out.set (j := 0) (.int .i64 cd)).set (j := 1) (.float .f64 x)
 have y0 := E2.cell (j := 0) rfl
 have y1 := E2.cell (j := 1) rfl
 refine bodyPost_ret (v := .tuple #[.agg #[.int .i64 cd, .float .f64 x], .int .i64 0]) (by simp [results, Tryz.results109, go_sem, y0, y1]) rfl ?_
 exact ⟨rfl, (XA.out.setCell (.inr (Nat.le_refl _)) _).setCell (.inr (Nat.le_refl _)) _⟩
end Go.Proofs.YtfefeepljbfcdaaGreat

/- Layer 7: the program reads a configuration's bytes. -/
namespace Go.Proofs.YtfefeepljbfcdaaGreat
open Go.RowKit Go.Lib F64
set_option linter.unusedSimpArgs false
set_option linter.unusedVariables false
attribute [local go_sem] run_store_float
attribute [local go_sem low] EW.cellN EW.frozN alloc_cell_or alloc_froz_or EW.cellF EW.frozF EW.cell1 EW.froz1
attribute [local go_sem] relAt relUpon relAtT relUponT
attribute [local go_sem low] EW.cellO EW.frozO
theorem info_intG : (Tryz.prog.info? 3).map (fun i => (i.zero, i.size, i.bytes)) = some (some (.int .i64 0), 1, 8) := by kernel_rfl
theorem ints_own {w : World} {base : Nat} {v : Value} {xs : List Int} (h : w.ownsRow base 3 1 v xs.length (xs.map (Value.int .i64))) (hx : ∀ x ∈ xs, I64 x) : ∃ a cap, v = .slice a xs.length cap ∧ Ints w a cap xs ∧ fresh base w a := by
 obtain ⟨a, cap, e, hI, hf⟩ := Ints.ofOwn h hx
 exact ⟨a, cap, e, hI, hf⟩
theorem fresh_up {S : Nat → Prop} {n : Nat} {w w' : World} {a : Option Addr} (h : fresh n w a) (x : Ext S w w') (hs : ∀ k, n ≤ k → ¬ S k) : fresh n w' a := fun k o e => by
 obtain ⟨h1, vs, fr, hh⟩ := h k o e
 exact ⟨h1, vs, fr, (x.block k (Array.getElem?_eq_some_iff.1 hh).1 (hs k h1)).trans hh⟩
theorem fresh_low {n m : Nat} {w : World} {a : Option Addr} (h : fresh n w a) (hm : m ≤ n) : fresh m w a := fun k o e => ⟨Nat.le_trans hm (h k o e).1, (h k o e).2⟩
def rsN (xs : List Int) (T : List UInt8) (i : Nat) : Rd := ⟨(xs.drop i).flatMap big1 ++ T, false⟩
theorem rsN_step {xs : List Int} (T : List UInt8) (h : ∀ x ∈ xs, 0 ≤ x ∧ x ≤ 255) {i : Nat} (hi : i < xs.length) : ((numV 1 (rsN xs T i) : Nat) : Int) = xs[i] ∧ numR 1 (rsN xs T i) = rsN xs T (i + 1) := by
 have e : (xs.drop i).flatMap big1 ++ T = big1 xs[i] ++ ((xs.drop (i + 1)).flatMap big1 ++ T) := by rw [List.drop_eq_getElem_cons hi, List.flatMap_cons, List.append_assoc]
 have hx := h _ (List.getElem_mem hi)
 obtain ⟨n1, n2⟩ := num1_of hx ((xs.drop (i + 1)).flatMap big1 ++ T)
 unfold rsN
 rw [e, n1, n2]
 exact ⟨by omega, rfl⟩
theorem rsN_len (xs : List Int) (T : List UInt8) (i : Nat) : (rsN xs T i).s.length = xs.length - i + T.length := by
 unfold rsN
 show ((xs.drop i).flatMap big1 ++ T).length = _
 rw [List.length_append, flat_one, List.length_drop]
theorem take_map {xs : List Int} {i : Nat} (hi : i < xs.length) : (xs.take (i + 1)).map (Value.int .i64) = (xs.take i).map (Value.int .i64) ++ [.int .i64 xs[i]] := by rw [List.take_succ_eq_append_getElem hi, List.map_append]; rfl
set_option maxHeartbeats 4000000 in
set_option maxRecDepth 100000 in
theorem council_Read_ok (ep : Int) (xs : List Int) (hc : confB ep xs = true) (w : World) : Calls Tryz.prog 73 #[.string (sB (confT ep xs))] w fun e w' =>
  ∃ a cap, e = .returned (.tuple #[.agg #[.int .i64 ep, .slice a xs.length cap], .int .i64 0]) ∧ Ints w' a cap xs ∧ Ext Non w w' ∧ fresh w.heap.size w' a := by
 have hh := hc
 unfold confB at hh
 simp only [Bool.and_eq_true, decide_eq_true_eq] at hh
 obtain ⟨⟨e0, e60⟩, hm⟩ := hh
 obtain ⟨m1, -, -, m10⟩ := members_facts hm
 have hxb : ∀ x ∈ xs, 0 ≤ x ∧ x ≤ 255 := fun x hx => by have := m1 x hx; omega
 have hT := confS_of ⟨e0, e60⟩ hm
 have HX64 := hI_ (fun x (hx : x ∈ xs) => (by have := m1 x hx; unfold I64; omega : I64 x))
 have e : confT ep xs = big1 67 ++ (big2 ep ++ (big1 xs.length ++ (xs.flatMap big1 ++ []))) := by unfold confT; simp only [List.append_assoc, List.append_nil]
 have hl : (confT ep xs).length ≤ 4611686018427387904 := by rw [confT_len]; omega
 have a := num1_of (n := 67) (by omega) (big2 ep ++ (big1 xs.length ++ (xs.flatMap big1 ++ [])))
 have b := num2_of (n := ep) (by omega) (big1 xs.length ++ (xs.flatMap big1 ++ []))
 have c := num1_of (n := xs.length) (by omega) (xs.flatMap big1 ++ [])
 obtain ⟨r1, hr1⟩ : ∃ r : Rd, r = ⟨big2 ep ++ (big1 xs.length ++ (xs.flatMap big1 ++ [])), false⟩ := ⟨_, rfl⟩
 obtain ⟨r2, hr2⟩ : ∃ r : Rd, r = ⟨big1 xs.length ++ (xs.flatMap big1 ++ []), false⟩ := ⟨_, rfl⟩
 have K0 : Hid (∀ w, Calls Tryz.prog 34 #[.string (sB (confT ep xs))] w fun e w' => ∃ b, e = .returned (.pointer (some ⟨b, 0, none⟩)) ∧ Ext Non w w' ∧ RdG w' b ⟨confT ep xs, false⟩ ∧ w.heap.size ≤ b) := hI_ (fun w => rdg_Read _ hl w)
 have K1 : Hid (∀ b w', RdG w' b ⟨confT ep xs, false⟩ → Calls Tryz.prog 72 #[.pointer (some ⟨b, 0, none⟩)] w' fun e w'' => e = .returned (.int .i64 67) ∧ Ext (One b) w' w'' ∧ RdG w'' b r1) := hI_ (fun bb w' h => (rdg_Byte bb _ w' h).mono fun e' w'' ⟨h1, h2, h3⟩ => by
  rw [e, a.1] at h1; rw [e, a.2, ← hr1] at h3; exact ⟨h1, h2, h3⟩)
 have K2 : Hid (∀ b w', RdG w' b r1 → Calls Tryz.prog 108 #[.pointer (some ⟨b, 0, none⟩)] w' fun e w'' => e = .returned (.int .i64 ep) ∧ Ext (One b) w' w'' ∧ RdG w'' b r2) := hI_ (fun bb w' h => (rdg_Word bb _ w' h).mono fun e' w'' ⟨h1, h2, h3⟩ => by
  rw [hr1, b.1] at h1; rw [hr1, b.2, ← hr2] at h3; exact ⟨by rw [h1]; congr 2; omega, h2, h3⟩)
 have K3 : Hid (∀ b w', RdG w' b r2 → Calls Tryz.prog 72 #[.pointer (some ⟨b, 0, none⟩)] w' fun e w'' => e = .returned (.int .i64 (xs.length : Int)) ∧ Ext (One b) w' w'' ∧ RdG w'' b (rsN xs [] 0)) := hI_ (fun bb w' h => (rdg_Byte bb _ w' h).mono fun e' w'' ⟨h1, h2, h3⟩ => by
  rw [hr2, c.1] at h1; rw [hr2, c.2] at h3; exact ⟨by rw [h1]; congr 2, h2, h3⟩)
 have KL : Hid (∀ i b w', RdG w' b (rsN xs [] i) → Calls Tryz.prog 75 #[.pointer (some ⟨b, 0, none⟩)] w' fun e w'' => e = .returned (.int .i64 ((xs.length - i : Nat) : Int)) ∧ ∃ n, w'' = w'.drewN n) := hI_ (fun i bb w' h => by have := rdg_Left bb _ w' h; rw [rsN_len] at this; exact this)
 have KN : Hid (∀ i b w' (hi : i < xs.length), RdG w' b (rsN xs [] i) → Calls Tryz.prog 72 #[.pointer (some ⟨b, 0, none⟩)] w' fun e w'' => e = .returned (.int .i64 xs[i]) ∧ Ext (One b) w' w'' ∧ RdG w'' b (rsN xs [] (i + 1))) := hI_ (fun i bb w' hi h => (rdg_Byte bb _ w' h).mono fun e' w'' ⟨h1, h2, h3⟩ => by
  obtain ⟨z1, z2⟩ := rsN_step [] hxb hi; rw [z1] at h1; rw [z2] at h3; exact ⟨h1, h2, h3⟩)
 have KT : Hid (∀ a cap w, Ints w a cap xs → Calls Tryz.prog 44 #[.agg #[.int .i64 ep, .slice a xs.length cap]] w fun e w' => e = .returned (.tuple #[.string (sB (confT ep xs)), .int .i64 0]) ∧ Ext Non w w') := hI_ (fun a cap w h => (council_Text ep (by unfold I64; omega) a cap xs w h).mono fun e' w' ⟨h1, h2⟩ => ⟨by rw [h1, hT.1, hT.2]; rfl, h2⟩)
 have TM : Hid (∀ i (hi : i < xs.length), (xs.take (i + 1)).map (Value.int .i64) = (xs.take i).map (Value.int .i64) ++ [.int .i64 xs[i]]) := hI_ (fun i hi => take_map hi)
 have TA : Hid ((xs.take xs.length).map (Value.int .i64) = xs.map (Value.int .i64)) := hI_ (by rw [List.take_length])
 clear hc e0 e60 hm hxb hT e hl a b c hr1 hr2 m1
 generalize sB (confT ep xs) = tt at *
 obtain ⟨N, hN⟩ : ∃ N, N = xs.length := ⟨_, rfl⟩
 have HN := hI_ hN
 have HN10 : Hid (N ≤ 10) := hI_ (by omega)
 have B2 := hI_ (Bx.newAt w [.int .i64 0, .slice none 0 0] 24 _ rfl)
 have XA0 := hI_ ((Ext.refl Non w).alloc (.cells [Value.int .i64 0, .slice none 0 0].toArray 24))
 go_enter Tryz.func73, Tryz.ntmps73
 go_wp2_with fail
 refine (K0.out _).mono ?_
 rintro e w1 ⟨rb, rfl, hx, hR, hrb⟩
 have BA := hI_ (B2.out.extN hx)
 have XA := hI_ (XA0.out.trans hx)
 have NB : Hid (w.heap.size < rb) := hI_ (by simp at hrb; omega)
 have HR := hI_ hR
 clear hx hR hrb B2 XA0
 go_wp2_with fail
 refine (K1.out _ _ HR.out).mono ?_
 rintro e w2 ⟨rfl, x2, hR⟩
 have BA2 := hI_ (BA.out.ext x2 (fun q => by have q : w.heap.size = rb := q; have := NB.out; omega))
 have XA2 := hI_ (XA.out.step x2 (fun i hi q => by have q : i = rb := q; have := NB.out; omega))
 have HR2 := hI_ hR
 clear x2 hR HR BA XA
 go_wp2_with fail
 refine (K2.out _ _ HR2.out).mono ?_
 rintro e w3 ⟨rfl, x2, hR⟩
 have BA3 := hI_ (BA2.out.ext x2 (fun q => by have q : w.heap.size = rb := q; have := NB.out; omega))
 have XA3 := hI_ (XA2.out.step x2 (fun i hi q => by have q : i = rb := q; have := NB.out; omega))
 have HR3 := hI_ hR
 have hk2 : rb < w3.heap.size := hR.lt
 clear x2 hR HR2 BA2 XA2
 go_upto_region 4 with fail
 have AL : Ext Non w3 (w3.alloc (.cells #[.int .i64 ep, .slice none 0 0] 24)) := (Ext.refl Non w3).alloc _
 have HR4 := hI_ (HR3.out.extN AL)
 have BA4 := hI_ (BA3.out.extN AL)
 have BX4 := hI_ (Bx.newAt w3 [.int .i64 ep, .slice none 0 0] 24 _ rfl)
 have XA4 := hI_ (XA3.out.trans AL)
 clear HR3 BA3 XA3 AL
 obtain ⟨kx, hkx⟩ : ∃ kx, kx = w3.heap.size := ⟨_, rfl⟩
 rw [← hkx] at BX4 hk2 ⊢
 have NK : Hid (w.heap.size < rb ∧ rb < kx) := hI_ ⟨NB.out, hk2⟩
 clear NB hkx hk2
 generalize w3.alloc (.cells #[.int .i64 ep, .slice none 0 0] 24) = w4 at *
 clear w3 w2
 go_wp2_with fail
 refine (K3.out _ _ HR4.out).mono ?_
 rintro e w5 ⟨rfl, x5, hR⟩
 have HR5 := hI_ hR
 have BA5 := hI_ (BA4.out.ext x5 (fun q => by have q : w.heap.size = rb := q; have := NK.out; omega))
 have BX5 := hI_ (BX4.out.ext x5 (fun q => by have q : kx = rb := q; have := NK.out; omega))
 have XA5 := hI_ (XA4.out.step x5 (fun i hi q => by have q : i = rb := q; have := NK.out; omega))
 clear x5 hR HR4 BA4 BX4 XA4 w4
 rw [← hN]
 rw [← hN] at KL TA
 clear hN
 go_wp2_with fail
 go_loopg [8] N (fun n iv wr => ∃ (i : Nat) (v : Value) (z : EW Non w), i ≤ N ∧ n = N - i ∧ iv = .int .i64 ((N - i : Nat) : Int) ∧ wr = z.on ∧ Hid (RdG wr rb (rsN xs [] i)) ∧ Hid (Bx wr w.heap.size [.int .i64 0, .slice none 0 0] 24) ∧ Hid (Bx wr kx [.int .i64 ep, v] 24) ∧ Hid (wr.ownsRow (kx + 1) 3 1 v i ((xs.take i).map (Value.int .i64))))
 case atStart =>
  obtain ⟨z, hz⟩ := XA5.out.ew
  subst hz
  exact ⟨0, .slice none 0 0, z, Nat.zero_le _, rfl, rfl, rfl, HR5, BA5, BX5, hI_ (World.ownsRow_nil _ _ _ _)⟩
 case round =>
  obtain ⟨i, v, z, hi, hn, rfl, rfl, HWi, BAi, BXi, ROW⟩ := hrel
  have HG := hI_ hn; clear hn
  clear HR5 BA5 BX5 XA5 K0 K1 K2 K3
  by_cases hlt : i < N
  ·have hkz : kx < z.on.heap.size := BXi.out.lt
   have hbz : rb < z.on.heap.size := HWi.out.lt
   have HRV := hI_ (own_row ROW.out)
   have XZ := hI_ z.ext
   generalize z.on = wi at *
   clear z
   have hpos : decide ((0 : Nat) < N - i) = true := decide_eq_true (by omega)
   have hix : i < xs.length := by have := HN.out; omega
   obtain ⟨m, hm⟩ : ∃ m, m = N - i := ⟨_, rfl⟩
   obtain ⟨num, hnum⟩ : ∃ num : Int, num = xs[i] := ⟨_, rfl⟩
   have KL1 : Hid (∀ b w', RdG w' b (rsN xs [] i) → Calls Tryz.prog 75 #[.pointer (some ⟨b, 0, none⟩)] w' fun e w'' => e = .returned (.int .i64 (m : Int)) ∧ ∃ n, w'' = w'.drewN n) := hI_ (fun b w' h => by rw [hm]; exact KL.out i b w' h)
   have CN : Hid (∀ w', RdG w' rb (rsN xs [] i) → Calls Tryz.prog 72 #[.pointer (some ⟨rb, 0, none⟩)] w' fun e w'' => e = .returned (.int .i64 num) ∧ Ext (One rb) w' w'' ∧ RdG w'' rb (rsN xs [] (i + 1))) := hI_ (fun w' h => by rw [hnum]; exact KN.out i rb w' hix h)
   have NSV := hI_ (TM.out i hix)
   rw [← hnum] at NSV
   rw [← hm] at hpos ⊢
   have HM := hI_ hm
   obtain ⟨row, hrow⟩ : ∃ row, row = (xs.take i).map (Value.int .i64) := ⟨_, rfl⟩
   obtain ⟨row2, hrow2⟩ : ∃ row2, row2 = (xs.take (i + 1)).map (Value.int .i64) := ⟨_, rfl⟩
   rw [← hrow, ← hrow2] at NSV
   rw [← hrow] at ROW
   have HRW2 := hI_ hrow2
   have hi6 : i ≤ 1000000 := by have := HN10.out; omega
   have hrb : ¬ Row v rb := fun q => by have := (HRV.out _ q).1; have := NK.out; omega
   have HRB := hI_ hrb
   have hNm : N ≤ 4611686018427387904 := by have := HN.out; omega
   have w1 : IntKind.i64.wrap ((m : Int) - 1) = ((m - 1 : Nat) : Int) := (IntWalk.i64_in _ (by omega)).trans (by simp only [decide_eq_true_eq] at hpos; omega)
   clear hrow hrow2 hnum hm hix hrb hNm
   go_wp2_with fail
   refine (KL1.out _ _ HWi.out).mono ?_
   rintro e _ ⟨rfl, nd, rfl⟩
   have HWj := hI_ (HWi.out.extN ((Ext.refl _ _).drewN nd)); have BAj := hI_ (BAi.out.extN ((Ext.refl _ _).drewN nd)); have BXj := hI_ (BXi.out.extN ((Ext.refl _ _).drewN nd)); have ROWj := hI_ (ownR_extN ROW.out ((Ext.refl _ _).drewN nd)); have XZj := hI_ (XZ.out.drewN nd)
   have HRVj : Hid (∀ k, Row v k → kx + 1 ≤ k ∧ k < (wi.drewN nd).heap.size) := hI_ (fun k q => HRV.out k q)
   have hkzj : kx < (wi.drewN nd).heap.size := hkz
   have hbzj : rb < (wi.drewN nd).heap.size := hbz
   clear HWi BAi BXi ROW XZ HRV hkz hbz KL1
   generalize wi.drewN nd = wj at *
   clear wi
   have q1 : wj.cell? ⟨kx, 1, none⟩ = some v := BXj.out.cell rfl
   have n1 : One rb kx = False := by have := NK.out; unfold One; simp; omega
   have n2 : Row v kx = False := by simp only [eq_iff_iff, iff_false]; intro q; have := (HRVj.out kx q).1; omega
   have hr1 : ∀ k, One rb k → k < wj.heap.size := fun k q => by have q : k = rb := q; omega
   have hr2 : ∀ k, Row v k → k < wj.heap.size := fun k q => (HRVj.out k q).2
   have hr3 : ∀ k, One rb k → ¬ Row v k := fun k q r => by have q : k = rb := q; subst q; exact HRB.out r
   have HR1 := hI_ hr1; have HR2 := hI_ hr2; have HR3 := hI_ hr3
   clear hr1 hr2 hr3
   go_upto_region 7 with fail
   apply wp_region_wr 6 [Mo.is _, Mo.is _, Mo.is _, moSt (.int .i64 num) (fun w' => RdG w' rb (rsN xs [] (i + 1))) (fun _ _ x h => RdG.extN h x), moOne wj.heap.size [.int .i64 num] 3, moRow v wj.heap.size (kx + 1) 3 1 (i + 1) row2] (One rb) 3 (fun w' => RdG w' rb (rsN xs [] i)) (Row v) 5 (fun w' => w'.ownsRow (kx + 1) 3 1 v i row) (by kernel_rfl) (by kernel_rfl) (by kernel_rfl) (by kernel_rfl) (by kernel_rfl) (by decide) (by kernel_rfl) (by decide) ?ta5 ?tb5 ?ha5 ?hb5 ?hc5 ?hd5 ?ma5 ?mb5 ?st5 ?q5
   case ta5 => exact HWj.out
   case tb5 => exact ROWj.out
   case ha5 => exact fun _ _ x h => RdG.extN h x
   case hb5 => exact fun _ _ x h => RdG.ext h x HRB.out
   case hc5 => exact fun _ _ x h => ownR_extN h x
   case hd5 => exact fun _ _ x h => ownR_ext h x (fun k hk hs => HR3.out k hs hk)
   case st5 =>
    refine ⟨?_, ?_, ?_, ?_, ?_, ?_, trivial⟩
    ·refine .inl ⟨by decide, by decide, ?_⟩
     intro a' w' hx hs hd
     obtain ⟨y, rfl⟩ := hx.ew
     have e7 : a'.tmps[7]?.getD undef = _ := hs 7 rfl
     simp only [aL, aS, aZ] at e7
     refine .inl ⟨rfl, ?_⟩
     clear hs hd hx
     go_simp
     exact ⟨Ext.refl _ _, rfl⟩
    ·refine .inl ⟨by decide, by decide, ?_⟩
     intro a' w' hx hs hd
     obtain ⟨y, rfl⟩ := hx.ew
     have e30 : a'.tmps[30]?.getD undef = _ := hd 0 30 rfl rfl
     refine .inl ⟨rfl, ?_⟩
     clear hs hd hx
     go_simp
     exact ⟨Ext.refl _ _, rfl⟩
    ·refine .inl ⟨by decide, by decide, ?_⟩
     intro a' w' hx hs hd
     obtain ⟨y, rfl⟩ := hx.ew
     have e4 : a'.tmps[4]?.getD undef = _ := hs 4 rfl
     simp only [aL, aS, aZ] at e4
     refine .inl ⟨rfl, ?_⟩
     clear hs hd hx
     go_simp
     exact ⟨Ext.refl _ _, rfl⟩
    ·refine .inr (.inl ⟨rfl, ?_⟩)
     intro a' w' hx hst hs hd
     obtain ⟨y, rfl⟩ := hx.ew
     have e32 : a'.tmps[32]?.getD undef = _ := hd 2 32 rfl rfl
     refine ⟨rfl, ?_⟩
     clear hs hd hx
     go_simp
     exact (CN.out _ hst).mono (fun e w'' ⟨he, hx, hr⟩ => ⟨_, he, hx, rfl, hr⟩)
    ·refine .inl ⟨by decide, by decide, ?_⟩
     intro a' w' hx hs hd
     obtain ⟨y, rfl⟩ := hx.ew
     obtain ⟨e33, hR3⟩ : a'.tmps[33]?.getD undef = .int .i64 num ∧ RdG y.on rb (rsN xs [] (i + 1)) := hd 3 33 rfl rfl
     refine .inl ⟨rfl, ?_⟩
     clear hs hd hx
     go_simp
     exact ⟨(Ext.refl _ _).alloc _, _, rfl, y.ext.size, Bx.newAt _ _ _ _ rfl⟩
    ·refine .inr (.inr ⟨rfl, ?_⟩)
     intro a' w' hx hst hs hd
     obtain ⟨y, rfl⟩ := hx.ew
     have e31 : a'.tmps[31]?.getD undef = _ := hd 1 31 rfl rfl
     obtain ⟨k4, e34, hk4, hB4⟩ : ∃ k, a'.tmps[34]?.getD undef = .slice (some ⟨k, 0, none⟩) 1 1 ∧ wj.heap.size ≤ k ∧ Bx y.on k [.int .i64 num] 3 := hd 4 34 rfl rfl
     refine ⟨rfl, ?_⟩
     clear hs hd hx
     exact rel_append_row _ _ 22 rfl (kx + 1) 3 1 8 _ Tryz.underlying22 info_intG (by rfl) (by omega) (by omega) v i row ((eval_tmp _ _).trans e31) hst k4 _ _ ((eval_tmp _ _).trans e34) hB4 rfl (by intro u hu; simp at hu; subst hu; rfl) (by omega) (by have := y.ext.size; omega) (fun v' w' x o r => ⟨v', rfl, by rw [NSV.out]; exact o, fun k hk => (r k hk).imp id (fun z => Nat.le_trans y.ext.size z)⟩)
   case ma5 => exact ⟨.inr (Mo.is_still _ _), .inr (Mo.is_still _ _), .inr (Mo.is_still _ _), .inl rfl, .inr (moOne_still HR1.out), .inr (moRow_still HR1.out HR3.out), trivial⟩
   case mb5 => exact ⟨.inr (Mo.is_still _ _), .inr (Mo.is_still _ _), .inr (Mo.is_still _ _), .inr (moSt_still (fun _ _ x h => RdG.ext h x HRB.out)), .inr (moOne_still HR2.out), .inl rfl, trivial⟩
   case' q5 =>
    intro vs w' hx hRR
    obtain ⟨x9, rfl⟩ := hx.ew
    have q0 : vs 0 = _ := hRR 0 (by decide)
    have q1 : vs 1 = _ := hRR 1 (by decide)
    have q2 : vs 2 = _ := hRR 2 (by decide)
    obtain ⟨q3, hR3⟩ : vs 3 = .int .i64 num ∧ RdG x9.on rb (rsN xs [] (i + 1)) := hRR 3 (by decide)
    obtain ⟨k4, q4, hk4, hB4⟩ : ∃ k, vs 4 = .slice (some ⟨k, 0, none⟩) 1 1 ∧ wj.heap.size ≤ k ∧ Bx x9.on k [.int .i64 num] 3 := hRR 4 (by decide)
    obtain ⟨u5, q5, hO5, hr5⟩ : ∃ u, vs 5 = u ∧ x9.on.ownsRow (kx + 1) 3 1 u (i + 1) row2 ∧ ∀ k, Row u k → Row v k ∨ wj.heap.size ≤ k := hRR 5 (by decide)
    clear hRR hx
    simp only [putAll, List.take_succ_cons, List.take_zero, List.drop_succ_cons, List.drop_zero, Act.put, List.setIfInBounds_toArray, List.set_cons_zero, List.set_cons_succ, Nat.reduceAdd, Nat.zero_add]
    simp only [q0, q1, q2, q3, q4, q5]
    clear q0 q1 q2 q3 q4 q5 vs
   obtain ⟨ua, uc, hus⟩ := row_slice hO5
   subst hus
   have HB9 := hI_ (BXj.out.ext x9.ext (fun q => by rcases q with q | q; rw [n1] at q; exact q; rw [n2] at q; exact q))
   have HA9 := hI_ (BAj.out.ext x9.ext (fun q => by have := NK.out; rcases q with q | q; have q : w.heap.size = rb := q; omega; have := (HRVj.out _ q).1; omega))
   have HR9 := hI_ hR3; have HO9 := hI_ hO5
   have HZ9 := hI_ (XZj.out.step x9.ext (fun j hj q => by have := NK.out; rcases q with q | q; have q : j = rb := q; omega; have := (HRVj.out _ q).1; omega))
   have hu5 : ¬ Row (.slice ua (i + 1) uc) kx := fun q => by rcases hr5 kx q with z | z; rw [n2] at z; exact z; omega
   have HU5 := hI_ hu5
   clear hR3 hO5 hk4 hB4 hr5 hu5 n1 n2 q1
   generalize x9.on = w9 at *
   have p1 : w9.cell? ⟨kx, 1, none⟩ = some v := HB9.out.cell rfl
   have f1 : w9.frozen? ⟨kx, 1, none⟩ = false := froz_of_heap HB9.out.h
   go_wp2_with fail
   have X1 : Ext (One kx) w9 (w9.setCell ⟨kx, 1, none⟩ (.slice ua (i + 1) uc)) := (Ext.refl _ _).set1 _
   have HM1 : Hid (m - 1 = N - (i + 1)) := hI_ (by have := HM.out; omega)
   rw [HM1.out]
   go_roundg (N - (i + 1))
   case measure => have := HG.out; omega
   case rel => exact ⟨i + 1, .slice ua (i + 1) uc, ⟨_, HZ9.out.step X1 (fun j hj q => by have q : j = kx := q; have := NK.out; omega)⟩, hlt, rfl, rfl, rfl, hI_ (HR9.out.ext X1 (fun q => by have q : rb = kx := q; have := NK.out; omega)), hI_ (HA9.out.ext X1 (fun q => by have q : w.heap.size = kx := q; have := NK.out; omega)), hI_ (HB9.out.set (j := 1) (.slice ua (i + 1) uc)), hI_ (by rw [← HRW2.out]; exact ownR_ext HO9.out X1 (fun k hk hs => by have hs : k = kx := hs; subst hs; exact HU5.out hk))⟩
  ·obtain rfl : i = N := by omega
   have hro : z.on.ownsRow (kx + 1) 3 1 v xs.length (xs.map (Value.int .i64)) := by rw [← TA.out, ← HN.out]; exact ROW.out
   obtain ⟨xa, xc, rfl, hI, hfr⟩ := ints_own hro HX64.out
   have HIx := hI_ hI
   have HFR := hI_ hfr
   have XZ := hI_ z.ext
   have hkz : kx < z.on.heap.size := BXi.out.lt
   have hro2 := hI_ (own_row hro)
   clear hro hI hfr ROW HWi
   generalize z.on = wi at *
   clear z
   have hz0 : i - i = 0 := by omega
   rw [hz0]
   clear hz0
   have c0 : wi.cell? ⟨kx, 0, none⟩ = some (.int .i64 ep) := BXi.out.cell rfl
   have c1 : wi.cell? ⟨kx, 1, none⟩ = some (.slice xa xs.length xc) := BXi.out.cell rfl
   go_wp2_with fail
   refine Calls.ew (KT.out _ _ _ HIx.out) ?_
   rintro e x6 rfl
   have c0' : x6.on.cell? ⟨kx, 0, none⟩ = some (.int .i64 ep) := (BXi.out.extN x6.ext).cell rfl
   have c1' : x6.on.cell? ⟨kx, 1, none⟩ = some (.slice xa xs.length xc) := (BXi.out.extN x6.ext).cell rfl
   have B6 := hI_ (BAi.out.extN x6.ext)
   have I6 := hI_ (HIx.out.extN x6.ext)
   have F6 := hI_ (fresh_up HFR.out x6.ext (fun _ _ f => f))
   have X6 := hI_ (XZ.out.trans x6.ext)
   clear c0 c1
   generalize x6.on = w6 at *
   have b0 : w6.cell? ⟨w.heap.size, 0, none⟩ = some (.int .i64 0) := B6.out.cell rfl
   have b1 : w6.cell? ⟨w.heap.size, 1, none⟩ = some (.slice none 0 0) := B6.out.cell rfl
   have g0 : w6.frozen? ⟨w.heap.size, 0, none⟩ = false := froz_of_heap B6.out.h
   have g1 : w6.frozen? ⟨w.heap.size, 1, none⟩ = false := froz_of_heap B6.out.h
   have E2 := (B6.out.set (j := 0) (.int .i64 ep)).set (j := 1) (.slice xa xs.length xc)
   have X7 : Ext (One w.heap.size) w6 ((w6.setCell ⟨w.heap.size, 0, none⟩ (.int .i64 ep)).setCell ⟨w.heap.size, 1, none⟩ (.slice xa xs.length xc)) := ((Ext.refl _ _).set1 _).set1 _
   have HE := hI_ (And.intro (E2.cell (j := 0) rfl) (E2.cell (j := 1) rfl))
   have HX7 := hI_ X7
   clear E2 X7
   go_wp2
   obtain ⟨y0, y1⟩ := HE.out
   refine bodyPost_ret (v := .tuple #[.agg #[.int .i64 ep, .slice xa xs.length xc], .int .i64 0]) (by simp [results, Tryz.results73, go_sem, y0, y1]) rfl ?_
   refine ⟨xa, xc, rfl, I6.out.ext HX7.out (fun b o e q => by
     have q : b = w.heap.size := q
     have := (F6.out b o e).1
     have := NK.out
     omega), X6.out.step HX7.out (fun j hj q => by have q : j = w.heap.size := q; omega), ?_⟩
   exact fresh_low (fresh_up F6.out HX7.out (fun k hk q => by have q : k = w.heap.size := q; have := NK.out; omega)) (by have := NK.out; omega)
end Go.Proofs.YtfefeepljbfcdaaGreat
