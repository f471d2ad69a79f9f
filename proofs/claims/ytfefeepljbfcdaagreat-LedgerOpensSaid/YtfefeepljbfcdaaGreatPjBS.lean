/- Joined texts: Read12G. What each proves stands at its head; no conditions beside those in its theorems. -/
import Derived.Deep.MidRow
import Derived.Deep.WholeRow
import Derived.Shelf.SlMaps.Clone
import Derived.Test.YtfefeepljbfcdaaGreatPjBQ
import Derived.Test.YtfefeepljbfcdaaGreatPjBR
/- Layer 12: the program reads a ledger, of any bytes: what it takes is a ledger's. -/
namespace Go.Proofs.YtfefeepljbfcdaaGreat
open Go.RowKit Go.Lib F64
set_option linter.unusedSimpArgs false
set_option linter.unusedVariables false
attribute [local go_sem] run_store_float
attribute [local go_sem low] EW.cellN EW.frozN alloc_cell_or alloc_froz_or EW.cellF EW.frozF EW.cell1 EW.froz1
attribute [local go_sem] relAt relUpon relAtT relUponT
attribute [local go_sem low] EW.cellO EW.frozO
def KeyOk (p : ByteArray × Nat) : Prop := 1 ≤ p.1.size ∧ p.1.size ≤ 16 ∧ p.2 < 18446744073709551616 ∧ canonN p.2 = p.2
theorem setK_ok {l : Ks} (h : ∀ p ∈ l, KeyOk p) {k : ByteArray} {x : Nat} (hk : KeyOk (k, x)) : ∀ p ∈ setK l k x, KeyOk p := by
 intro p hp
 unfold setK at hp
 split at hp
 ·obtain ⟨q, hq, e⟩ := List.mem_map.1 hp
  split at e
  ·subst e; exact hk
  ·subst e; exact h _ hq
 ·rcases List.mem_append.1 hp with h1 | h1
  ·exact h p h1
  ·have h1 : p = (k, x) := by simpa using h1
   subst h1; exact hk
theorem setK_len {l : Ks} (k : ByteArray) (x : Nat) : (setK l k x).length ≤ l.length + 1 := by
 unfold setK
 split
 ·rw [List.length_map]; omega
 ·rw [List.length_append]; simp
theorem conf_epG {ep : Int} {xs : List Int} (h : confB ep xs = true) : 0 ≤ ep ∧ ep ≤ 60 := by
 unfold confB at h
 simp only [Bool.and_eq_true, decide_eq_true_eq] at h
 exact h.1
theorem clO_ok (i : Nat) : ClOk (clO i) := by unfold clO; exact ⟨by simp, by simp, by simp, by simp, by simp, canon0, fun _ => ⟨rfl, rfl⟩⟩
def RdAP (b m rb : Nat) (w : World) (e : Ending) (w' : World) : Prop := ∃ v, e = .returned (.bool v) ∧ Ext (fun k => k = b ∨ k = m ∨ k = rb) w w' ∧ (v = true → ∃ g, Inv g ∧ LD w' b m g)
set_option maxHeartbeats 16000000 in
set_option maxRecDepth 100000 in
theorem read_any (b m rb : Nat) (r0 : Rd) (hbm : b ≠ rb) (hmr : m ≠ rb) (hne : b ≠ m) (w : World) (hb : Bx w b (rowR 0 (.slice none 0 0) (.slice none 0 0) 0 m) 64) (hm : MapW w m []) (hr : RdG w rb r0) : Calls Tryz.prog 33 #[.pointer (some ⟨b, 0, none⟩), .pointer (some ⟨rb, 0, none⟩)] w fun e w' => RdAP b m rb w e w' := by
 obtain ⟨hd, hhd⟩ : ∃ hd : Int, hd = (numV 1 r0 : Nat) := ⟨_, rfl⟩
 obtain ⟨q1, hq1⟩ : ∃ q1, q1 = numR 1 r0 := ⟨_, rfl⟩
 obtain ⟨s1, hs1⟩ : ∃ s1, s1 = textV q1 := ⟨_, rfl⟩
 obtain ⟨q2, hq2⟩ : ∃ q2, q2 = textR q1 := ⟨_, rfl⟩
 obtain ⟨N, hN⟩ : ∃ N, N = numV 1 q2 := ⟨_, rfl⟩
 obtain ⟨q3, hq3⟩ : ∃ q3, q3 = numR 1 q2 := ⟨_, rfl⟩
 have K1 : Hid (∀ w', RdG w' rb r0 → Calls Tryz.prog 72 #[.pointer (some ⟨rb, 0, none⟩)] w' fun e w'' => e = .returned (.int .i64 hd) ∧ Ext (One rb) w' w'' ∧ RdG w'' rb q1) := hI_ (fun w' h => by rw [hhd, hq1]; exact rdg_Byte rb _ w' h)
 have K2 : Hid (∀ w', RdG w' rb q1 → Calls Tryz.prog 74 #[.pointer (some ⟨rb, 0, none⟩)] w' fun e w'' => e = .returned (.string (sB s1)) ∧ Ext (One rb) w' w'' ∧ RdG w'' rb q2) := hI_ (fun w' h => by rw [hs1, hq2]; exact rdg_Text rb _ w' h)
 have hsl : s1.length ≤ 4611686018427387904 := by
  have h1 := (textV_len q1).1; have h2 : q1.s.length ≤ r0.s.length := by rw [hq1]; exact numR_len 1 r0
  have h3 := hr.small
  rw [hs1]; omega
 have KC : Hid (∀ w', Calls Tryz.prog 73 #[.string (sB s1)] w' fun e w'' => ∃ ep a cap xs er, e = .returned (.tuple #[.agg #[.int .i64 ep, .slice a (xs : List Int).length cap], .int .i64 er]) ∧ Ext Non w' w'' ∧ ((er = 0 ∧ confB ep xs = true ∧ Ints w'' a cap xs ∧ fresh w'.heap.size w'' a) ∨ er = 5)) := hI_ (fun w' => council_Read_any s1 hsl w')
 have K3 : Hid (∀ w', RdG w' rb q2 → Calls Tryz.prog 72 #[.pointer (some ⟨rb, 0, none⟩)] w' fun e w'' => e = .returned (.int .i64 (N : Int)) ∧ Ext (One rb) w' w'' ∧ RdG w'' rb q3) := hI_ (fun w' h => by rw [hN, hq3]; exact rdg_Byte rb _ w' h)
 have hNb : N ≤ 255 := by have := numV_lt 1 q2; omega
 have HN10 : Hid (N ≤ 255) := hI_ hNb
 have HNE := hI_ (And.intro hbm (And.intro hmr hne))
 have HB0 := hI_ hb; have HM0 := hI_ hm; have HR0 := hI_ hr
 have X0 : Hid (Ext (fun k => k = b ∨ k = m ∨ k = rb) w w) := hI_ (Ext.refl _ _)
 clear hb hm hr hbm hmr hne hhd hq1 hs1 hq2 hN hq3 hNb hsl
 generalize sB s1 = ts at *
 go_enter Tryz.func33, Tryz.ntmps33
 go_wp2_with fail
 refine (K1.out _ HR0.out).mono ?_
 rintro e w1 ⟨rfl, x2, hR⟩
 have HB1 := hI_ (HB0.out.ext x2 (fun q => HNE.out.1 q))
 have HM1 := hI_ (HM0.out.ext x2 (fun q => HNE.out.2.1 q))
 have X1 := hI_ (X0.out.trans (x2.mono (fun k _ q => .inr (.inr q))))
 have HR1 := hI_ hR
 clear x2 hR HB0 HM0 X0 HR0
 go_wp2_with fail
 refine (K2.out _ HR1.out).mono ?_
 rintro e w2 ⟨rfl, x2, hR⟩
 have HB2 := hI_ (HB1.out.ext x2 (fun q => HNE.out.1 q))
 have HM2 := hI_ (HM1.out.ext x2 (fun q => HNE.out.2.1 q))
 have X2 := hI_ (X1.out.trans (x2.mono (fun k _ q => .inr (.inr q))))
 have HR2 := hI_ hR
 clear x2 hR HB1 HM1 X1 HR1
 go_wp2_with fail
 refine (KC.out _).mono ?_
 rintro e w3 ⟨ep, a1, c1, mem, er, rfl, x3, hcase⟩
 go_upto_region 3 with fail
 have x4 : Ext Non w2 (w3.alloc (.cells #[.int .i64 ep, .slice a1 mem.length c1] 24)) := x3.alloc _
 have BC := hI_ (Bx.newAt w3 [.int .i64 ep, .slice a1 mem.length c1] 24 _ rfl)
 have CASE : Hid ((hd != 76) = true ∨ (hd != 76) = false ∧ er = 5 ∨ (hd != 76) = false ∧ er = 0 ∧ Go.Proofs.YtfefeepljbfcdaaGreat.confB ep mem = true ∧ Ints w3 a1 c1 mem ∧ fresh w2.heap.size w3 a1) := hI_ (by
  by_cases h : hd = 76
  ·have h' : (hd != 76) = false := by simpa using h
   rcases hcase with ⟨z1, z2, z3, z4⟩ | z
   ·exact .inr (.inr ⟨h', z1, z2, z3, z4⟩)
   ·exact .inr (.inl ⟨h', z⟩)
  ·left; simpa using h)
 clear hcase
 have HI1 : Hid (Ints w3 a1 c1 mem → Ints (w3.alloc (.cells #[.int .i64 ep, .slice a1 mem.length c1] 24)) a1 c1 mem) := hI_ (fun h => h.extN ((Ext.refl Non w3).alloc (.cells #[.int .i64 ep, .slice a1 mem.length c1] 24)))
 have HF1 : Hid (fresh w2.heap.size w3 a1 → fresh w2.heap.size (w3.alloc (.cells #[.int .i64 ep, .slice a1 mem.length c1] 24)) a1) := hI_ (fun h => fresh_up h ((Ext.refl Non w3).alloc (.cells #[.int .i64 ep, .slice a1 mem.length c1] 24)) (fun _ _ f => f))
 have HB3 := hI_ (HB2.out.extN x4); have HM3 := hI_ (HM2.out.ext x4 (fun f => f)); have X3 := hI_ (X2.out.trans x4.ofNon); have HR3 := hI_ (HR2.out.extN x4)
 have HLT : Hid (b < w2.heap.size ∧ rb < w2.heap.size ∧ m < w2.heap.size ∧ w2.heap.size ≤ w3.heap.size) := hI_ ⟨HB2.out.lt, HR2.out.lt, HM2.out.lt, x3.size⟩
 clear x3 x4 HB2 HM2 X2 HR2
 obtain ⟨kc, hkc⟩ : ∃ kc, kc = w3.heap.size := ⟨_, rfl⟩
 obtain ⟨n2, hn2⟩ : ∃ n2, n2 = w2.heap.size := ⟨_, rfl⟩
 rw [← hkc] at BC HLT ⊢
 have CASE2 : Hid ((hd != 76) = true ∨ (hd != 76) = false ∧ er = 5 ∨ (hd != 76) = false ∧ er = 0 ∧ Go.Proofs.YtfefeepljbfcdaaGreat.confB ep mem = true ∧ Ints (w3.alloc (.cells #[.int .i64 ep, .slice a1 mem.length c1] 24)) a1 c1 mem ∧ fresh n2 (w3.alloc (.cells #[.int .i64 ep, .slice a1 mem.length c1] 24)) a1) := hI_ (by
  rcases CASE.out with h | h | ⟨h1, h2, h3, h4, h5⟩
  ·exact .inl h
  ·exact .inr (.inl h)
  ·exact .inr (.inr ⟨h1, h2, h3, HI1.out h4, by rw [hn2]; exact HF1.out h5⟩))
 rw [← hn2] at HLT
 clear hkc hn2 HI1 HF1 CASE
 generalize w3.alloc (.cells #[.int .i64 ep, .slice a1 mem.length c1] 24) = w4 at *
 rcases CASE2.out with h1 | ⟨h1, rfl⟩ | ⟨h1, rfl, hcf, hI1, hf1⟩
 ·go_wp2
  go_returns
  exact ⟨false, rfl, X3.out, fun h => nomatch h⟩
 ·go_wp2
  go_returns
  exact ⟨false, rfl, X3.out, fun h => nomatch h⟩
 have HI1 := hI_ hI1; have HF1 := hI_ hf1; have HCF := hI_ hcf
 have hep : 0 ≤ ep ∧ ep ≤ 60 := conf_epG hcf
 have HEP := hI_ hep
 clear hI1 hf1 hcf CASE2
 go_upto_region 5 with fail
 have d0 : w4.cell? ⟨kc, 0, none⟩ = some (.int .i64 ep) := BC.out.cell rfl
 have d1 : w4.cell? ⟨kc, 1, none⟩ = some (.slice a1 mem.length c1) := BC.out.cell rfl
 have b0 : w4.cell? ⟨b, 0, none⟩ = some (.int .i64 0) := HB3.out.cell rfl
 have b1 : w4.cell? ⟨b, 1, none⟩ = some (.slice none 0 0) := HB3.out.cell rfl
 have z0 : w4.frozen? ⟨b, 0, none⟩ = false := froz_of_heap HB3.out.h
 have z1 : w4.frozen? ⟨b, 1, none⟩ = false := froz_of_heap HB3.out.h
 have hne : b ≠ kc := by have := HLT.out; omega
 have hne2 : kc ≠ b := by have := HLT.out; omega
 go_region
 have Y5 : Ext (One b) w4 ((w4.setCell ⟨b, 0, none⟩ (.int .i64 ep)).setCell ⟨b, 1, none⟩ (.slice a1 mem.length c1)).drew := (((Ext.refl _ _).set1 _).set1 _).drew
 have NI : Hid (∀ wx ep v1 v2 dn, Bx wx b (rowR ep v1 v2 dn m) 64 → NoInts (One b) wx) := hI_ (fun wx ep v1 v2 dn h k hk vs fr e => by
  have hk : k = b := hk
  subst hk
  rw [h.h] at e; injection e with e; injection e with _ e _; revert e; decide)
 have HB5 : Hid (Bx _ b (rowR ep (.slice a1 mem.length c1) (.slice none 0 0) 0 m) 64) := hI_ (((HB3.out.set (j := 0) (.int .i64 ep)).set (j := 1) (.slice a1 mem.length c1)).drew)
 have HM5 := hI_ (HM3.out.ext Y5 (fun q => HNE.out.2.2 q.symm))
 have HR5 := hI_ (HR3.out.ext Y5 (fun q => HNE.out.1 q.symm))
 have X5 := hI_ (X3.out.trans (Y5.mono (fun k _ q => .inl q)))
 have I5 := hI_ (HI1.out.extT (fun k o e => (HF1.out k o e).2) Y5 (NI.out _ _ _ _ _ HB3.out))
 have F5 := hI_ (fresh_up HF1.out Y5 (fun k hk q => by have q : k = b := q; have := HLT.out; omega))
 have HN5 : Hid (n2 ≤ ((w4.setCell ⟨b, 0, none⟩ (.int .i64 ep)).setCell ⟨b, 1, none⟩ (.slice a1 mem.length c1)).drew.heap.size) := hI_ (by have h1 := Y5.size; have h2 := BC.out.lt; have := HLT.out; omega)
 clear Y5 HB3 HM3 HR3 X3 HI1 HF1 b0 b1 z0 z1 d0 d1 BC hne hne2
 generalize ((w4.setCell ⟨b, 0, none⟩ (.int .i64 ep)).setCell ⟨b, 1, none⟩ (.slice a1 mem.length c1)).drew = w5 at *
 go_wp2_with fail
 refine (K3.out _ HR5.out).mono ?_
 rintro e w6 ⟨rfl, x2, hR⟩
 have HB6 := hI_ (HB5.out.ext x2 (fun q => HNE.out.1 q))
 have HM6 := hI_ (HM5.out.ext x2 (fun q => HNE.out.2.1 q))
 have X6 := hI_ (X5.out.trans (x2.mono (fun k _ q => .inr (.inr q))))
 have I6 := hI_ (I5.out.extT (fun k o e => (F5.out k o e).2) x2 HR5.out.noInt)
 have F6 := hI_ (fresh_up F5.out x2 (fun k hk q => by have q : k = rb := q; have := HLT.out; omega))
 have HR6 := hI_ hR
 have HN6 : Hid (n2 ≤ w6.heap.size) := hI_ (by have h2 := x2.size; have := HN5.out; omega)
 clear x2 hR HB5 HM5 X5 HR5 I5 F5 HN5 w5 w4
 obtain ⟨B', hB'⟩ : ∃ B', B' = w6.heap.size := ⟨_, rfl⟩
 have HL6 : Hid (b < B' ∧ rb < B' ∧ m < B' ∧ ∀ k o, a1 = some ⟨k, o, none⟩ → k < B') := hI_ ⟨by rw [hB']; exact HB6.out.lt, by rw [hB']; exact HR6.out.lt, by rw [hB']; exact HM6.out.lt, fun k o e => by
  obtain ⟨_, vs, fr, hh⟩ := F6.out k o e
  rw [hB']; exact (Array.getElem?_eq_some_iff.1 hh).1⟩
 have HBS : Hid (B' ≤ w6.heap.size) := hI_ (Nat.le_of_eq hB')
 have HLW : Hid (w.heap.size ≤ B') := hI_ (by rw [hB']; exact X6.out.size)
 clear hB'
 go_wp2_with fail
 go_loopg [8] N (fun n iv wr => ∃ (i : Nat) (v : Value) (xs : List Int) (r : Rd), i ≤ N ∧ n = N - i ∧ iv = .int .i64 ((N - i : Nat) : Int) ∧ Hid (xs.length = i) ∧ Hid (∀ x ∈ xs, 0 ≤ x ∧ x ≤ 255) ∧ Hid (RdG wr rb r) ∧ Hid (Bx wr b (rowR ep (.slice a1 mem.length c1) v 0 m) 64) ∧ Hid (MapW wr m []) ∧ Hid (wr.ownsRow B' 3 1 v i (xs.map (Value.int .i64))) ∧ Hid (Ints wr a1 c1 mem) ∧ Hid (fresh n2 wr a1) ∧ Hid (Ext (fun k => k = b ∨ k = m ∨ k = rb) w wr) ∧ Hid (B' ≤ wr.heap.size))
 case atStart => exact ⟨0, .slice none 0 0, [], q3, Nat.zero_le _, rfl, rfl, hI_ rfl, hI_ (fun x hx => nomatch hx), HR6, HB6, HM6, hI_ (World.ownsRow_nil _ _ _ _), I6, F6, X6, HBS⟩
 case round =>
  obtain ⟨i, v, xs, r, hi, hn, rfl, HXL, HXB, HWi, HBi, HMi, ROW, Ii, Fi, XZ, HSi⟩ := hrel
  have HG := hI_ hn; clear hn
  clear HR6 HB6 HM6 I6 F6 X6 HBS K1 K2 K3 KC
  by_cases hlt : i < N ∧ 0 < r.s.length
  ·have HRV := hI_ (own_row ROW.out)
   have hpos : decide ((0 : Nat) < N - i) = true := decide_eq_true (by omega)
   have hrl := HWi.out.small
   obtain ⟨q, hq⟩ : ∃ q, q = N - i := ⟨_, rfl⟩
   obtain ⟨ql, hql⟩ : ∃ ql, ql = r.s.length := ⟨_, rfl⟩
   obtain ⟨num, hnum⟩ : ∃ num : Int, num = (numV 1 r : Nat) := ⟨_, rfl⟩
   obtain ⟨r', hr'⟩ : ∃ r', r' = numR 1 r := ⟨_, rfl⟩
   have KL1 : Hid (∀ w', RdG w' rb r → Calls Tryz.prog 75 #[.pointer (some ⟨rb, 0, none⟩)] w' fun e w'' => e = .returned (.int .i64 (ql : Int)) ∧ ∃ n, w'' = w'.drewN n) := hI_ (fun w' h => by rw [hql]; exact rdg_Left rb r w' h)
   have hpos2 : decide ((0 : Nat) < ql) = true := decide_eq_true (by omega)
   have CN : Hid (∀ w', RdG w' rb r → Calls Tryz.prog 72 #[.pointer (some ⟨rb, 0, none⟩)] w' fun e w'' => e = .returned (.int .i64 num) ∧ Ext (One rb) w' w'' ∧ RdG w'' rb r') := hI_ (fun w' h => by rw [hnum, hr']; exact rdg_Byte rb r w' h)
   have NSV : Hid ((xs ++ [num]).map (Value.int .i64) = xs.map (Value.int .i64) ++ [.int .i64 num]) := hI_ (by rw [List.map_append]; rfl)
   have HXB2 : Hid (∀ x ∈ xs ++ [num], 0 ≤ x ∧ x ≤ 255) := hI_ (fun x hx => by
    rcases List.mem_append.1 hx with h | h
    ·exact HXB.out x h
    ·have h : x = num := by simpa using h
     have := numV_lt 1 r
     omega)
   have HXL2 : Hid ((xs ++ [num]).length = i + 1) := hI_ (by rw [List.length_append, HXL.out]; rfl)
   rw [← hq] at hpos ⊢
   have HQ := hI_ hq
   obtain ⟨row, hrow⟩ : ∃ row, row = xs.map (Value.int .i64) := ⟨_, rfl⟩
   obtain ⟨row2, hrow2⟩ : ∃ row2, row2 = (xs ++ [num]).map (Value.int .i64) := ⟨_, rfl⟩
   rw [← hrow, ← hrow2] at NSV
   rw [← hrow] at ROW
   have HRW2 := hI_ hrow2
   have hi6 : i ≤ 1000000 := by have := HN10.out; omega
   have HRB : Hid (¬ Row v rb) := hI_ (fun q => by have := (HRV.out _ q).1; have := HL6.out; omega)
   have hq10 : q ≤ 255 ∧ 1 ≤ q := by have := HN10.out; omega
   have w1 : IntKind.i64.wrap ((q : Int) - 1) = ((q - 1 : Nat) : Int) := (IntWalk.i64_in _ (by omega)).trans (by omega)
   have hqm : ql ≤ 4611686018427387904 := by omega
   have HLT0 := hI_ hlt.1
   clear hrow hrow2 hnum hq hql hq10 hr' hrl hlt
   go_wp2_with fail
   refine (KL1.out _ HWi.out).mono ?_
   rintro e _ ⟨rfl, nd, rfl⟩
   have ED := hI_ ((Ext.refl Non wr).drewN nd)
   have HWj := hI_ (HWi.out.extN ED.out); have HBj := hI_ (HBi.out.extN ED.out); have HMj := hI_ (HMi.out.ext ED.out (fun f => f)); have ROWj := hI_ (ownR_extN ROW.out ED.out); have XZj := hI_ (XZ.out.drewN nd)
   have Ij := hI_ (Ii.out.extN ED.out); have Fj := hI_ (fresh_up Fi.out ED.out (fun _ _ f => f))
   have HSj : Hid (B' ≤ (wr.drewN nd).heap.size) := HSi
   have HRVj : Hid (∀ k, Row v k → B' ≤ k ∧ k < (wr.drewN nd).heap.size) := hI_ (fun k q => HRV.out k q)
   clear HWi HBi HMi ROW XZ HRV KL1 Ii Fi HSi ED
   generalize wr.drewN nd = wj at *
   have q1 : wj.cell? ⟨b, 2, none⟩ = some v := HBj.out.cell rfl
   have n1 : One rb b = False := by have := HNE.out.1; unfold One; simp; omega
   have n2' : Row v b = False := by simp only [eq_iff_iff, iff_false]; intro q; have := (HRVj.out b q).1; have := HL6.out; omega
   have hr1 : ∀ k, One rb k → k < wj.heap.size := fun k q => by have q : k = rb := q; have := HL6.out; have := HSj.out; omega
   have hr2 : ∀ k, Row v k → k < wj.heap.size := fun k q => (HRVj.out k q).2
   have hr3 : ∀ k, One rb k → ¬ Row v k := fun k q r => by have q : k = rb := q; subst q; exact HRB.out r
   have HR1 := hI_ hr1; have HR2 := hI_ hr2; have HR3 := hI_ hr3
   have hbw : B' ≤ wj.heap.size := HSj.out
   clear hr1 hr2 hr3
   go_upto_region 9 with fail
   apply wp_region_wr 11 [Mo.is _, Mo.is _, Mo.is _, Mo.is _, Mo.is _, Mo.is _, moSt (.int .i64 num) (fun w' => RdG w' rb r') (fun _ _ x h => RdG.extN h x), moOne wj.heap.size [.int .i64 num] 3, moRow v wj.heap.size B' 3 1 (i + 1) row2, Mo.is _, Mo.is _] (One rb) 6 (fun w' => RdG w' rb r) (Row v) 8 (fun w' => w'.ownsRow B' 3 1 v i row) (by kernel_rfl) (by kernel_rfl) (by kernel_rfl) (by kernel_rfl) (by kernel_rfl) (by decide) (by kernel_rfl) (by decide) ?ta6 ?tb6 ?ha6 ?hb6 ?hc6 ?hd6 ?ma6 ?mb6 ?st6 ?q6
   case ta6 => exact HWj.out
   case tb6 => exact ROWj.out
   case ha6 => exact fun _ _ x h => RdG.extN h x
   case hb6 => exact fun _ _ x h => RdG.ext h x HRB.out
   case hc6 => exact fun _ _ x h => ownR_extN h x
   case hd6 => exact fun _ _ x h => ownR_ext h x (fun k hk hs => HR3.out k hs hk)
   case st6 =>
    refine ⟨?_, ?_, ?_, ?_, ?_, ?_, ?_, ?_, ?_, ?_, ?_, trivial⟩
    ·refine .inl ⟨by decide, by decide, ?_⟩
     intro a' w' hx hs hd
     obtain ⟨y, rfl⟩ := hx.ew
     have e0 : a'.tmps[0]?.getD undef = _ := hs 0 rfl
     simp only [aL, aS, aZ] at e0
     refine .inl ⟨rfl, ?_⟩
     clear hs hd hx
     go_simp
     exact ⟨Ext.refl _ _, rfl⟩
    ·refine .inl ⟨by decide, by decide, ?_⟩
     intro a' w' hx hs hd
     obtain ⟨y, rfl⟩ := hx.ew
     have e0 : a'.tmps[0]?.getD undef = _ := hs 0 rfl
     simp only [aL, aS, aZ] at e0
     refine .inl ⟨rfl, ?_⟩
     clear hs hd hx
     go_simp
     exact ⟨Ext.refl _ _, rfl⟩
    ·refine .inl ⟨by decide, by decide, ?_⟩
     intro a' w' hx hs hd
     obtain ⟨y, rfl⟩ := hx.ew
     have e49 : a'.tmps[49]?.getD undef = _ := hd 1 49 rfl rfl
     refine .inl ⟨rfl, ?_⟩
     clear hs hd hx
     go_simp
     exact ⟨Ext.refl _ _, rfl⟩
    ·refine .inl ⟨by decide, by decide, ?_⟩
     intro a' w' hx hs hd
     obtain ⟨y, rfl⟩ := hx.ew
     have e50 : a'.tmps[50]?.getD undef = _ := hd 2 50 rfl rfl
     refine .inl ⟨rfl, ?_⟩
     clear hs hd hx
     go_simp
     exact ⟨Ext.refl _ _, rfl⟩
    ·refine .inl ⟨by decide, by decide, ?_⟩
     intro a' w' hx hs hd
     obtain ⟨y, rfl⟩ := hx.ew
     have e51 : a'.tmps[51]?.getD undef = _ := hd 3 51 rfl rfl
     refine .inl ⟨rfl, ?_⟩
     clear hs hd hx
     go_simp
     exact ⟨Ext.refl _ _, rfl⟩
    ·refine .inl ⟨by decide, by decide, ?_⟩
     intro a' w' hx hs hd
     obtain ⟨y, rfl⟩ := hx.ew
     have e1 : a'.tmps[1]?.getD undef = _ := hs 1 rfl
     simp only [aL, aS, aZ] at e1
     refine .inl ⟨rfl, ?_⟩
     clear hs hd hx
     go_simp
     exact ⟨Ext.refl _ _, rfl⟩
    ·refine .inr (.inl ⟨rfl, ?_⟩)
     intro a' w' hx hst hs hd
     obtain ⟨y, rfl⟩ := hx.ew
     have e53 : a'.tmps[53]?.getD undef = _ := hd 5 53 rfl rfl
     refine ⟨rfl, ?_⟩
     clear hs hd hx
     go_simp
     exact (CN.out _ hst).mono (fun e w'' ⟨he, hx, hr⟩ => ⟨_, he, hx, rfl, hr⟩)
    ·refine .inl ⟨by decide, by decide, ?_⟩
     intro a' w' hx hs hd
     obtain ⟨y, rfl⟩ := hx.ew
     obtain ⟨e54, hR3⟩ : a'.tmps[54]?.getD undef = .int .i64 num ∧ RdG y.on rb r' := hd 6 54 rfl rfl
     refine .inl ⟨rfl, ?_⟩
     clear hs hd hx
     go_simp
     exact ⟨(Ext.refl _ _).alloc _, _, rfl, y.ext.size, Bx.newAt _ _ _ _ rfl⟩
    ·refine .inr (.inr ⟨rfl, ?_⟩)
     intro a' w' hx hst hs hd
     obtain ⟨y, rfl⟩ := hx.ew
     have e52 : a'.tmps[52]?.getD undef = _ := hd 4 52 rfl rfl
     obtain ⟨k4, e55, hk4, hB4⟩ : ∃ k, a'.tmps[55]?.getD undef = .slice (some ⟨k, 0, none⟩) 1 1 ∧ wj.heap.size ≤ k ∧ Bx y.on k [.int .i64 num] 3 := hd 7 55 rfl rfl
     refine ⟨rfl, ?_⟩
     clear hs hd hx
     exact rel_append_row _ _ 22 rfl B' 3 1 8 _ Tryz.underlying22 info_intG (by rfl) (by omega) (by omega) v i row ((eval_tmp _ _).trans e52) hst k4 _ _ ((eval_tmp _ _).trans e55) hB4 rfl (by intro u hu; simp at hu; subst hu; rfl) (by omega) (by have := y.ext.size; omega) (fun v' w' x o r => ⟨v', rfl, by rw [NSV.out]; exact o, fun k hk => (r k hk).imp id (fun z => Nat.le_trans y.ext.size z)⟩)
    ·refine .inl ⟨by decide, by decide, ?_⟩
     intro a' w' hx hs hd
     obtain ⟨y, rfl⟩ := hx.ew
     have e48 : a'.tmps[48]?.getD undef = _ := hd 0 48 rfl rfl
     refine .inl ⟨rfl, ?_⟩
     clear hs hd hx
     go_simp
     exact ⟨Ext.refl _ _, rfl⟩
    ·refine .inl ⟨by decide, by decide, ?_⟩
     intro a' w' hx hs hd
     obtain ⟨y, rfl⟩ := hx.ew
     have e57 : a'.tmps[57]?.getD undef = _ := hd 9 57 rfl rfl
     refine .inl ⟨rfl, ?_⟩
     clear hs hd hx
     go_simp
     exact ⟨Ext.refl _ _, rfl⟩
   case ma6 => exact ⟨.inr (Mo.is_still _ _), .inr (Mo.is_still _ _), .inr (Mo.is_still _ _), .inr (Mo.is_still _ _), .inr (Mo.is_still _ _), .inr (Mo.is_still _ _), .inl rfl, .inr (moOne_still HR1.out), .inr (moRow_still HR1.out HR3.out), .inr (Mo.is_still _ _), .inr (Mo.is_still _ _), trivial⟩
   case mb6 => exact ⟨.inr (Mo.is_still _ _), .inr (Mo.is_still _ _), .inr (Mo.is_still _ _), .inr (Mo.is_still _ _), .inr (Mo.is_still _ _), .inr (Mo.is_still _ _), .inr (moSt_still (fun _ _ x h => RdG.ext h x HRB.out)), .inr (moOne_still HR2.out), .inl rfl, .inr (Mo.is_still _ _), .inr (Mo.is_still _ _), trivial⟩
   case' q6 =>
    intro vs w' hx hRR
    obtain ⟨x9, rfl⟩ := hx.ew
    have q0 : vs 0 = _ := hRR 0 (by decide)
    have q1 : vs 1 = _ := hRR 1 (by decide)
    have q2 : vs 2 = _ := hRR 2 (by decide)
    have q3 : vs 3 = _ := hRR 3 (by decide)
    have q4 : vs 4 = _ := hRR 4 (by decide)
    have q5 : vs 5 = _ := hRR 5 (by decide)
    obtain ⟨q6, hR3⟩ : vs 6 = .int .i64 num ∧ RdG x9.on rb r' := hRR 6 (by decide)
    obtain ⟨k4, q7, hk4, hB4⟩ : ∃ k, vs 7 = .slice (some ⟨k, 0, none⟩) 1 1 ∧ wj.heap.size ≤ k ∧ Bx x9.on k [.int .i64 num] 3 := hRR 7 (by decide)
    obtain ⟨u5, q8, hO5, hr5⟩ : ∃ u, vs 8 = u ∧ x9.on.ownsRow B' 3 1 u (i + 1) row2 ∧ ∀ k, Row u k → Row v k ∨ wj.heap.size ≤ k := hRR 8 (by decide)
    have q9 : vs 9 = _ := hRR 9 (by decide)
    have q10 : vs 10 = _ := hRR 10 (by decide)
    clear hRR hx
    simp only [putAll, List.take_succ_cons, List.take_zero, List.drop_succ_cons, List.drop_zero, Act.put, List.setIfInBounds_toArray, List.set_cons_zero, List.set_cons_succ, Nat.reduceAdd, Nat.zero_add]
    simp only [q0, q1, q2, q3, q4, q5, q6, q7, q8, q9, q10]
    clear q0 q1 q2 q3 q4 q5 q6 q7 q8 q9 q10 vs
   obtain ⟨ua, uc, hus⟩ := row_slice hO5
   subst hus
   have nofoot : ∀ j, j ≠ rb → j < B' → ¬ Or2 (One rb) (Row v) j := fun j hj hl q => by rcases q with q | q; exact hj q; have := (HRVj.out j q).1; omega
   have HB9 := hI_ (HBj.out.ext x9.ext (nofoot _ HNE.out.1 HL6.out.1))
   have HM9 := hI_ (HMj.out.ext x9.ext (nofoot _ HNE.out.2.1 HL6.out.2.2.1))
   have I9 := hI_ (Ij.out.ext x9.ext (fun k o e => nofoot k (fun q => by have := (Fj.out k o e).1; have := HLT.out; omega) (HL6.out.2.2.2 k o e)))
   have F9 : Hid (fresh n2 x9.on a1) := hI_ (fun k o e => ⟨(Fj.out k o e).1, by
    obtain ⟨h1, vs, fr, hh⟩ := Fj.out k o e
    exact ⟨vs, fr, (x9.ext.block k (Array.getElem?_eq_some_iff.1 hh).1 (nofoot k (fun q => by have := HLT.out; omega) (HL6.out.2.2.2 k o e))).trans hh⟩⟩)
   have XZ9 := hI_ (XZj.out.step x9.ext (fun j hj q => by rcases q with q | q; exact .inr (.inr q); have := (HRVj.out j q).1; have := HLW.out; omega))
   have HS9 : Hid (B' ≤ x9.on.heap.size) := hI_ (Nat.le_trans HSj.out x9.ext.size)
   have HR9 := hI_ hR3; have HO9 := hI_ hO5
   have HU5 : Hid (¬ Row (.slice ua (i + 1) uc) b) := hI_ (fun q => by rcases hr5 b q with z | z; rw [n2'] at z; exact z; have := HL6.out; omega)
   clear hR3 hO5 hk4 hB4 hr5 n1 n2' q1 nofoot HBj HMj Ij Fj XZj HWj ROWj
   generalize x9.on = w9 at *
   have p1 : w9.cell? ⟨b, 2, none⟩ = some v := HB9.out.cell rfl
   have f1 : w9.frozen? ⟨b, 2, none⟩ = false := froz_of_heap HB9.out.h
   go_wp2_with fail
   have X1 : Ext (One b) w9 (w9.setCell ⟨b, 2, none⟩ (.slice ua (i + 1) uc)) := (Ext.refl _ _).set1 _
   have HM1 : Hid (q - 1 = N - (i + 1)) := hI_ (by have := HQ.out; omega)
   rw [HM1.out]
   go_roundg (N - (i + 1))
   case measure => have := HG.out; have := HLT0.out; omega
   case rel => exact ⟨i + 1, .slice ua (i + 1) uc, xs ++ [num], r', HLT0.out, rfl, rfl, HXL2, HXB2, hI_ (HR9.out.ext X1 (fun q => HNE.out.1 q.symm)), hI_ (HB9.out.set (j := 2) (.slice ua (i + 1) uc)), hI_ (HM9.out.ext X1 (fun q => HNE.out.2.2 q.symm)), hI_ (by rw [← HRW2.out]; exact ownR_ext HO9.out X1 (fun k hk hs => by have hs : k = b := hs; subst hs; exact HU5.out hk)), hI_ (I9.out.ext X1 (fun k o e q => by have q : k = b := q; have := (F9.out k o e).1; have := HLT.out; omega)), hI_ (fresh_up F9.out X1 (fun k hk q => by have q : k = b := q; have := HLT.out; omega)), hI_ (XZ9.out.trans (X1.mono (fun k _ q => .inl q))), hI_ (Nat.le_trans HS9.out X1.size)⟩
  ·have hrl := HWi.out.small
   by_cases hlt2 : i < N
   ·have hr0 : r.s.length = 0 := by omega
    have hpos : decide ((0 : Nat) < N - i) = true := decide_eq_true (by omega)
    have KL1 : Hid (∀ w', RdG w' rb r → Calls Tryz.prog 75 #[.pointer (some ⟨rb, 0, none⟩)] w' fun e w'' => e = .returned (.int .i64 0) ∧ ∃ n, w'' = w'.drewN n) := hI_ (fun w' h => by have := rdg_Left rb r w' h; rw [hr0] at this; exact this)
    obtain ⟨mq, hmq⟩ : ∃ mq, mq = N - i := ⟨_, rfl⟩
    rw [← hmq] at hpos ⊢
    clear hmq hr0 hrl hlt hlt2
    go_wp2_with fail
    refine (KL1.out _ HWi.out).mono ?_
    rintro e _ ⟨rfl, nd, rfl⟩
    have ED := hI_ ((Ext.refl Non wr).drewN nd)
    replace HWi := hI_ (HWi.out.extN ED.out); replace HBi := hI_ (HBi.out.extN ED.out); replace HMi := hI_ (HMi.out.ext ED.out (fun f => f)); replace ROW := hI_ (ownR_extN ROW.out ED.out); replace XZ := hI_ (XZ.out.drewN nd)
    replace Ii := hI_ (Ii.out.extN ED.out); replace Fi := hI_ (fresh_up Fi.out ED.out (fun _ _ f => f))
    replace HSi : Hid (B' ≤ (wr.drewN nd).heap.size) := HSi
    clear KL1 ED
    generalize wr.drewN nd = wr at *
    have hro : wr.ownsRow B' 3 1 v xs.length (xs.map (Value.int .i64)) := by rw [HXL.out]; exact ROW.out
    obtain ⟨a2, c2, rfl, hI2, hf2⟩ := ints_own hro (fun x hx => by have := HXB.out x hx; unfold I64; omega)
    have I2i := hI_ hI2; have F2i := hI_ hf2
    clear hro hI2 hf2 ROW
    obtain ⟨dn, hdn⟩ : ∃ dn : Int, dn = (numV 4 r : Nat) := ⟨_, rfl⟩
    obtain ⟨q5, hq5⟩ : ∃ q5, q5 = numR 4 r := ⟨_, rfl⟩
    have HDB : Hid (0 ≤ dn ∧ dn ≤ 4294967295) := hI_ (by have := numV_lt 4 r; omega)
    have K4 : Hid (Calls Tryz.prog 76 #[.pointer (some ⟨rb, 0, none⟩)] wr fun e w'' => e = .returned (.int .i64 dn) ∧ Ext (One rb) wr w'' ∧ RdG w'' rb q5) := hI_ (by rw [hdn, hq5]; exact rdg_Long rb r wr HWi.out)
    clear hdn hq5
    go_wp2_with fail
    refine K4.out.mono ?_
    rintro e w1 ⟨rfl, x2, hR⟩
    have HB1 := hI_ (HBi.out.ext x2 (fun q => HNE.out.1 q)); have HM1 := hI_ (HMi.out.ext x2 (fun q => HNE.out.2.1 q))
    have I1 := hI_ (Ii.out.ext x2 (fun k o e q => by have q : k = rb := q; have := (Fi.out k o e).1; have := HLT.out; omega))
    have F1 := hI_ (fresh_up Fi.out x2 (fun k hk q => by have q : k = rb := q; have := HLT.out; omega))
    have J1 := hI_ (I2i.out.ext x2 (fun k o e q => by have q : k = rb := q; have := (F2i.out k o e).1; have := HL6.out; omega))
    have G1 := hI_ (fresh_up F2i.out x2 (fun k hk q => by have q : k = rb := q; have := HL6.out; omega))
    have Z1 := hI_ (XZ.out.trans (x2.mono (fun k _ q => .inr (.inr q))))
    have R1 := hI_ hR
    clear x2 hR HWi HBi HMi Ii Fi I2i F2i XZ HSi
    have b3 : w1.cell? ⟨b, 3, none⟩ = some (.int .i64 0) := HB1.out.cell rfl
    have z3 : w1.frozen? ⟨b, 3, none⟩ = false := froz_of_heap HB1.out.h
    go_upto_region 11 with fail
    have Y : Ext (One b) w1 (w1.setCell ⟨b, 3, none⟩ (.int .i64 dn)) := (Ext.refl _ _).set1 _
    have HB2 : Hid (Bx _ b (rowR ep (.slice a1 mem.length c1) (.slice a2 xs.length c2) dn m) 64) := hI_ (HB1.out.set (j := 3) (.int .i64 dn))
    have HM2 := hI_ (HM1.out.ext Y (fun q => HNE.out.2.2 q.symm))
    have I2 := hI_ (I1.out.ext Y (fun k o e q => by have q : k = b := q; have := (F1.out k o e).1; have := HLT.out; omega))
    have F2 := hI_ (fresh_up F1.out Y (fun k hk q => by have q : k = b := q; have := HLT.out; omega))
    have J2 := hI_ (J1.out.ext Y (fun k o e q => by have q : k = b := q; have := (G1.out k o e).1; have := HL6.out; omega))
    have G2 := hI_ (fresh_up G1.out Y (fun k hk q => by have q : k = b := q; have := HL6.out; omega))
    have Z2 := hI_ (Z1.out.trans (Y.mono (fun k _ q => .inl q)))
    have R2 := hI_ (R1.out.ext Y (fun q => HNE.out.1 q.symm))
    clear Y HB1 HM1 I1 F1 J1 G1 Z1 R1 b3 z3
    generalize w1.setCell ⟨b, 3, none⟩ (.int .i64 dn) = w2 at *
    clear w1
    have KR0 : Hid (∀ w', Ext Non w2 w' → Calls Tryz.prog 16 #[.agg #[.int .i64 0, .slice a2 xs.length c2]] w' fun e w'' => e = .returned (.bool (Go.Proofs.YtfefeepljbfcdaaGreat.confB 0 xs)) ∧ Ext Non w' w'') := hI_ (fun w' x => council_Right 0 a2 c2 xs w' (J2.out.extN x))
    have t0 : w2.cell? ⟨b, 0, none⟩ = some (.int .i64 ep) := HB2.out.cell rfl
    have t2 : w2.cell? ⟨b, 2, none⟩ = some (.slice a2 xs.length c2) := HB2.out.cell rfl
    have t3 : w2.cell? ⟨b, 3, none⟩ = some (.int .i64 dn) := HB2.out.cell rfl
    have hep := HEP.out
    have v1 : IntKind.i64.wrap (ep * 4) = ep * 4 := IntWalk.i64_in _ (by omega)
    have v2 : IntKind.i64.wrap (ep + 1) = ep + 1 := IntWalk.i64_in _ (by omega)
    have v3 : IntKind.i64.wrap ((ep + 1) * 4) = (ep + 1) * 4 := IntWalk.i64_in _ (by omega)
    have CASE3 : Hid (Go.Proofs.YtfefeepljbfcdaaGreat.confB 0 xs = false ∨ Go.Proofs.YtfefeepljbfcdaaGreat.confB 0 xs = true ∧ decide (dn < ep * 4) = true ∨ Go.Proofs.YtfefeepljbfcdaaGreat.confB 0 xs = true ∧ decide (dn < ep * 4) = false ∧ decide ((ep + 1) * 4 < dn) = true ∨ Go.Proofs.YtfefeepljbfcdaaGreat.confB 0 xs = true ∧ decide (dn < ep * 4) = false ∧ decide ((ep + 1) * 4 < dn) = false) := hI_ (by
     cases Go.Proofs.YtfefeepljbfcdaaGreat.confB 0 xs
     ·exact .inl rfl
     ·by_cases h1 : dn < ep * 4
      ·exact .inr (.inl ⟨rfl, decide_eq_true h1⟩)
      ·by_cases h2 : (ep + 1) * 4 < dn
       ·exact .inr (.inr (.inl ⟨rfl, decide_eq_false h1, decide_eq_true h2⟩))
       ·exact .inr (.inr (.inr ⟨rfl, decide_eq_false h1, decide_eq_false h2⟩)))
    rcases CASE3.out with hc | ⟨hc, e1⟩ | ⟨hc, e1, e2⟩ | ⟨hc, e1, e2⟩
    ·have KR : Hid (∀ w', Ext Non w2 w' → Calls Tryz.prog 16 #[.agg #[.int .i64 0, .slice a2 xs.length c2]] w' fun e w'' => e = .returned (.bool false) ∧ Ext Non w' w'') := hI_ (fun w' x => by rw [← hc]; exact KR0.out w' x)
     (refine wp_region_ext_lit (by kernel_rfl) (by kernel_rfl) ?_)
     ((try simp only [Bool.not_true, Bool.not_false, Bool.or_false, Bool.or_true, Bool.false_or, Bool.true_or, Bool.and_true, Bool.true_and, Bool.and_false, Bool.false_and]); (repeat (go_big_quiet_step ((go_at_call 16; exact Calls.ext_of (KR.out _ (exG0)))))))
     (refine wpQuiet_nil ?_; intro _ hw'; obtain ⟨x3, hw''⟩ := hw'; subst hw'')
     go_wp2
     go_returns
     exact ⟨false, rfl, Z2.out.trans x3.ext.ofNon, fun h => nomatch h⟩
    ·have KR : Hid (∀ w', Ext Non w2 w' → Calls Tryz.prog 16 #[.agg #[.int .i64 0, .slice a2 xs.length c2]] w' fun e w'' => e = .returned (.bool true) ∧ Ext Non w' w'') := hI_ (fun w' x => by rw [← hc]; exact KR0.out w' x)
     (refine wp_region_ext_lit (by kernel_rfl) (by kernel_rfl) ?_)
     ((try simp only [Bool.not_true, Bool.not_false, Bool.or_false, Bool.or_true, Bool.false_or, Bool.true_or, Bool.and_true, Bool.true_and, Bool.and_false, Bool.false_and]); (repeat (go_big_quiet_step ((go_at_call 16; exact Calls.ext_of (KR.out _ (exG0)))))))
     (refine wpQuiet_nil ?_; intro _ hw'; obtain ⟨x3, hw''⟩ := hw'; subst hw'')
     go_wp2
     go_returns
     exact ⟨false, rfl, Z2.out.trans x3.ext.ofNon, fun h => nomatch h⟩
    ·have KR : Hid (∀ w', Ext Non w2 w' → Calls Tryz.prog 16 #[.agg #[.int .i64 0, .slice a2 xs.length c2]] w' fun e w'' => e = .returned (.bool true) ∧ Ext Non w' w'') := hI_ (fun w' x => by rw [← hc]; exact KR0.out w' x)
     (refine wp_region_ext_lit (by kernel_rfl) (by kernel_rfl) ?_)
     ((try simp only [Bool.not_true, Bool.not_false, Bool.or_false, Bool.or_true, Bool.false_or, Bool.true_or, Bool.and_true, Bool.true_and, Bool.and_false, Bool.false_and]); (repeat (go_big_quiet_step ((go_at_call 16; exact Calls.ext_of (KR.out _ (exG0)))))))
     (refine wpQuiet_nil ?_; intro _ hw'; obtain ⟨x3, hw''⟩ := hw'; subst hw'')
     go_wp2
     go_returns
     exact ⟨false, rfl, Z2.out.trans x3.ext.ofNon, fun h => nomatch h⟩
    ·have KR : Hid (∀ w', Ext Non w2 w' → Calls Tryz.prog 16 #[.agg #[.int .i64 0, .slice a2 xs.length c2]] w' fun e w'' => e = .returned (.bool true) ∧ Ext Non w' w'') := hI_ (fun w' x => by rw [← hc]; exact KR0.out w' x)
     (refine wp_region_ext_lit (by kernel_rfl) (by kernel_rfl) ?_)
     ((try simp only [Bool.not_true, Bool.not_false, Bool.or_false, Bool.or_true, Bool.false_or, Bool.true_or, Bool.and_true, Bool.true_and, Bool.and_false, Bool.false_and]); (repeat (go_big_quiet_step ((go_at_call 16; exact Calls.ext_of (KR.out _ (exG0)))))))
     (refine wpQuiet_nil ?_; intro _ hw'; obtain ⟨x3, hw''⟩ := hw'; subst hw'')
     have HB3 := hI_ (HB2.out.extN x3.ext); have HM3 := hI_ (HM2.out.ext x3.ext (fun f => f)); have I3 := hI_ (I2.out.extN x3.ext); have F3 := hI_ (fresh_up F2.out x3.ext (fun _ _ f => f)); have J3 := hI_ (J2.out.extN x3.ext); have G3 := hI_ (fresh_up G2.out x3.ext (fun _ _ f => f)); have Z3 := hI_ (Z2.out.trans x3.ext.ofNon); have R3 := hI_ (R2.out.extN x3.ext)
     have HMN : Hid (Go.Proofs.YtfefeepljbfcdaaGreat.membersB xs = true) := hI_ (by have h := hc; unfold Go.Proofs.YtfefeepljbfcdaaGreat.confB at h; simp only [Bool.and_eq_true] at h; exact h.2)
     have HDN : Hid (4 * ep ≤ dn ∧ dn ≤ 4 * (ep + 1)) := hI_ (by have h1 := of_decide_eq_false e1; have h2 := of_decide_eq_false e2; omega)
     clear HB2 HM2 I2 F2 J2 G2 Z2 R2 t0 t2 t3 v1 v2 v3 e1 e2 KR KR0 CASE3
     generalize x3.on = w3 at *
     go_wp2_with fail
     obtain ⟨M, hM⟩ : ∃ M, M = numV 1 q5 := ⟨_, rfl⟩
     obtain ⟨q6, hq6⟩ : ∃ q6, q6 = numR 1 q5 := ⟨_, rfl⟩
     have HMB : Hid (M ≤ 255) := hI_ (by have := numV_lt 1 q5; omega)
     refine (rdg_Byte rb q5 _ R3.out).mono ?_
     rw [← hM, ← hq6]
     clear hM hq6
     rintro e w4 ⟨rfl, x2, hR⟩
     have HB4 := hI_ (HB3.out.ext x2 (fun q => HNE.out.1 q)); have HM4 := hI_ (HM3.out.ext x2 (fun q => HNE.out.2.1 q))
     have I4 := hI_ (I3.out.ext x2 (fun k o e q => by have q : k = rb := q; have := (F3.out k o e).1; have := HLT.out; omega))
     have F4 := hI_ (fresh_up F3.out x2 (fun k hk q => by have q : k = rb := q; have := HLT.out; omega))
     have J4 := hI_ (J3.out.ext x2 (fun k o e q => by have q : k = rb := q; have := (G3.out k o e).1; have := HL6.out; omega))
     have G4 := hI_ (fresh_up G3.out x2 (fun k hk q => by have q : k = rb := q; have := HL6.out; omega))
     have Z4 := hI_ (Z3.out.trans (x2.mono (fun k _ q => .inr (.inr q))))
     have R4 := hI_ hR
     clear x2 hR HB3 HM3 I3 F3 J3 G3 Z3 R3 K4
     by_cases hM16 : 16 < M
     ·have dM : decide (16 < M) = true := decide_eq_true (by omega)
      have dM' : decide ((16 : Int) < (M : Int)) = true := decide_eq_true (by omega)
      go_wp2
      go_returns
      exact ⟨false, rfl, Z4.out, fun h => nomatch h⟩
     have dM : decide (16 < M) = false := decide_eq_false (by omega)
     have dM' : decide ((16 : Int) < (M : Int)) = false := decide_eq_false (by omega)
     go_wp2_with fail
     go_loopg [10, 11, 12, 101] M (fun n v10 v11 v12 iv wr => ∃ (i : Nat) (ks : Ks) (r : Rd), i ≤ M ∧ n = M - i ∧ iv = .int .i64 i ∧ Hid (∀ p ∈ ks, KeyOk p) ∧ Hid (ks.length ≤ i) ∧ Hid (RdG wr rb r) ∧ Hid (Bx wr b (rowR ep (.slice a1 mem.length c1) (.slice a2 xs.length c2) dn m) 64) ∧ Hid (MapW wr m ks) ∧ Hid (Ints wr a1 c1 mem) ∧ Hid (fresh n2 wr a1) ∧ Hid (Ints wr a2 c2 xs) ∧ Hid (fresh B' wr a2) ∧ Hid (Ext (fun k => k = b ∨ k = m ∨ k = rb) w wr))
     case atStart => exact ⟨0, [], q6, Nat.zero_le _, rfl, rfl, hI_ (fun p hp => nomatch hp), hI_ (Nat.le_refl _), R4, HB4, HM4, I4, F4, J4, G4, Z4⟩
     case round =>
      obtain ⟨i2, ks, r, hi2, hn, rfl, HKO, HKL, HWi, HBi, HMi, Ii, Fi, Ji, Gi, ZZ⟩ := hrel
      have HG2 := hI_ hn; clear hn
      clear R4 HB4 HM4 I4 F4 J4 G4 Z4
      by_cases hlt : i2 < M
      ·obtain ⟨key, hkey⟩ : ∃ key, key = sB (textV r) := ⟨_, rfl⟩
       obtain ⟨r', hr'⟩ : ∃ r', r' = textR r := ⟨_, rfl⟩
       obtain ⟨xv, hxv⟩ : ∃ xv, xv = numV 8 r' := ⟨_, rfl⟩
       obtain ⟨r'', hr''⟩ : ∃ r'', r'' = numR 8 r' := ⟨_, rfl⟩
       have KA : Hid (∀ w', RdG w' rb r → Calls Tryz.prog 74 #[.pointer (some ⟨rb, 0, none⟩)] w' fun e w'' => e = .returned (.string key) ∧ Ext (One rb) w' w'' ∧ RdG w'' rb r') := hI_ (fun w' h => by rw [hkey, hr']; exact rdg_Text rb r w' h)
       have KB : Hid (∀ w', RdG w' rb r' → Calls Tryz.prog 78 #[.pointer (some ⟨rb, 0, none⟩)] w' fun e w'' => e = .returned (.int .u64 (xv : Nat)) ∧ Ext (One rb) w' w'' ∧ RdG w'' rb r'') := hI_ (fun w' h => by rw [hxv, hr'']; exact rdg_Bits rb r' w' h)
       have HXV : Hid (xv < 18446744073709551616) := hI_ (by have := numV_lt 8 r'; omega)
       have KC : Hid (∀ w', Calls Tryz.prog 77 #[.int .u64 (xv : Nat)] w' fun e w'' => e = .returned (.tuple #[.float .f64 (fromN xv), .bool (fromB xv)]) ∧ w' = w'') := hI_ (fun w' => reals_From xv w')
       have hks : key.size ≤ 4611686018427387904 := by have h1 := (textV_len r).1; have h2 := HWi.out.small; rw [hkey, sB_size]; omega
       have CASE4 : Hid (fromB xv = false ∨ fromB xv = true ∧ key.toList.isEmpty = true ∨ fromB xv = true ∧ key.toList.isEmpty = false ∧ decide (16 < key.size) = true ∨ fromB xv = true ∧ key.toList.isEmpty = false ∧ decide (16 < key.size) = false ∧ KeyOk (key, xv)) := hI_ (by
        cases hf : fromB xv
        ·exact .inl rfl
        ·cases he : key.toList.isEmpty
         ·by_cases h : 16 < key.size
          ·exact .inr (.inr (.inl ⟨rfl, rfl, decide_eq_true h⟩))
          ·refine .inr (.inr (.inr ⟨rfl, rfl, decide_eq_false h, ?_, by show key.size ≤ 16; omega, HXV.out, canon_fromB hf⟩))
           show 1 ≤ key.size
           rcases Nat.eq_zero_or_pos key.size with z | z
           ·exfalso
            have : key.toList = [] := (toList_nil key).2 z
            rw [this] at he; cases he
           ·exact z
         ·exact .inr (.inl ⟨rfl, rfl⟩))
       clear hkey hr' hxv hr''
       go_wp2_with fail
       refine (KA.out _ HWi.out).mono ?_
       rintro e w7 ⟨rfl, x2, hR⟩
       have HB7 := hI_ (HBi.out.ext x2 (fun q => HNE.out.1 q)); have HM7 := hI_ (HMi.out.ext x2 (fun q => HNE.out.2.1 q))
       have I7 := hI_ (Ii.out.ext x2 (fun k o e q => by have q : k = rb := q; have := (Fi.out k o e).1; have := HLT.out; omega))
       have F7 := hI_ (fresh_up Fi.out x2 (fun k hk q => by have q : k = rb := q; have := HLT.out; omega))
       have J7 := hI_ (Ji.out.ext x2 (fun k o e q => by have q : k = rb := q; have := (Gi.out k o e).1; have := HL6.out; omega))
       have G7 := hI_ (fresh_up Gi.out x2 (fun k hk q => by have q : k = rb := q; have := HL6.out; omega))
       have Z7 := hI_ (ZZ.out.trans (x2.mono (fun k _ q => .inr (.inr q))))
       have R7 := hI_ hR
       clear x2 hR HBi HMi Ii Fi Ji Gi ZZ HWi KA
       go_wp2_with fail
       refine (KB.out _ R7.out).mono ?_
       rintro e w8 ⟨rfl, x2, hR⟩
       have HB8 := hI_ (HB7.out.ext x2 (fun q => HNE.out.1 q)); have HM8 := hI_ (HM7.out.ext x2 (fun q => HNE.out.2.1 q))
       have I8 := hI_ (I7.out.ext x2 (fun k o e q => by have q : k = rb := q; have := (F7.out k o e).1; have := HLT.out; omega))
       have F8 := hI_ (fresh_up F7.out x2 (fun k hk q => by have q : k = rb := q; have := HLT.out; omega))
       have J8 := hI_ (J7.out.ext x2 (fun k o e q => by have q : k = rb := q; have := (G7.out k o e).1; have := HL6.out; omega))
       have G8 := hI_ (fresh_up G7.out x2 (fun k hk q => by have q : k = rb := q; have := HL6.out; omega))
       have Z8 := hI_ (Z7.out.trans (x2.mono (fun k _ q => .inr (.inr q))))
       have R8 := hI_ hR
       clear x2 hR HB7 HM7 I7 F7 J7 G7 Z7 R7 KB
       go_wp2_with fail
       refine (KC.out _).mono ?_
       rintro e _ ⟨rfl, rfl⟩
       rcases CASE4.out with hf | ⟨hf, he⟩ | ⟨hf, he, hk16⟩ | ⟨hf, he, hk16, hko⟩
       ·rw [hf]
        go_wp2
        go_returns
        exact ⟨false, rfl, Z8.out, fun h => nomatch h⟩
       ·rw [hf]
        go_wp2
        go_returns
        exact ⟨false, rfl, Z8.out, fun h => nomatch h⟩
       ·rw [hf]
        have hk16' : decide ((16 : Int) < (key.size : Int)) = true := decide_eq_true (by have := of_decide_eq_true hk16; omega)
        go_wp2
        go_returns
        exact ⟨false, rfl, Z8.out, fun h => nomatch h⟩
       have hk16' : decide ((16 : Int) < (key.size : Int)) = false := decide_eq_false (by have := of_decide_eq_false hk16; omega)
       have hfn : fromN xv = xv := by unfold fromN; rw [if_pos hf]
       rw [hf, hfn]
       have HKO2 := hI_ (setK_ok HKO.out hko)
       have HKL2 : Hid ((setK ks key xv).length ≤ i2 + 1) := hI_ (by have h1 := setK_len (l := ks) key xv; have h2 := HKL.out; omega)
       clear CASE4 hfn hko
       obtain ⟨w9, hu, hM9, x9⟩ := HM8.out.update Tryz.underlying59 Tryz.underlying9 key xv
       have b4 : w8.cell? ⟨b, 4, none⟩ = some (.map (some m)) := HB8.out.cell rfl
       have HM9 := hI_ hM9
       have HB9 := hI_ (HB8.out.ext x9 (fun q => HNE.out.2.2 q))
       have I9 := hI_ (I8.out.ext x9 (fun k o e q => by have q : k = m := q; have := (F8.out k o e).1; have := HLT.out; omega))
       have F9 := hI_ (fresh_up F8.out x9 (fun k hk q => by have q : k = m := q; have := HLT.out; omega))
       have J9 := hI_ (J8.out.ext x9 (fun k o e q => by have q : k = m := q; have := (G8.out k o e).1; have := HL6.out; omega))
       have G9 := hI_ (fresh_up G8.out x9 (fun k hk q => by have q : k = m := q; have := HL6.out; omega))
       have Z9 := hI_ (Z8.out.trans (x9.mono (fun k _ q => .inr (.inl q))))
       have R9 := hI_ (R8.out.ext x9 (fun q => HNE.out.2.1 q.symm))
       clear x9 hM9 HB8 HM8 I8 F8 J8 G8 Z8 R8 KC
       go_wp2_with fail
       go_roundg (M - (i2 + 1))
       case measure => have := HG2.out; omega
       case rel => exact ⟨i2 + 1, setK ks key xv, r'', hlt, rfl, by go_num, HKO2, HKL2, R9, HB9, HM9, I9, F9, J9, G9, Z9⟩
      ·obtain rfl : i2 = M := by omega
       have hlen := HMi.out.len Tryz.underlying59 3
       have b4 : wr.cell? ⟨b, 4, none⟩ = some (.map (some m)) := HBi.out.cell rfl
       by_cases hkm : ks.length = i2
       ·have HH : Hid (LD wr b m (withCl ⟨ep, mem, xs, dn, ks, clO⟩ clO)) := hI_ ⟨⟨a1, c1, a2, c2, HBi.out.h, Ii.out, Ji.out, fun k o e => (Fi.out k o e).2, fun k o e => (Gi.out k o e).2⟩, HMi.out⟩
        have KF := hI_ (readClients_any b m rb ⟨ep, mem, xs, dn, ks, clO⟩ clO clO_ok r HNE.out.1 HNE.out.2.1 wr HH.out HWi.out)
        rw [hkm] at hlen
        have HKM := hI_ hkm
        clear hkm
        go_wp2_with fail
        refine KF.out.mono ?_
        rintro e w9 ⟨vv, cl, rfl, x9, hL, hC⟩
        have FIN : Hid (RdAP b m rb w (.returned (.bool vv)) w9) := hI_ ⟨vv, rfl, ZZ.out.trans (x9.mono (fun k _ q => by rcases q with q | q; exact .inl q; exact .inr (.inr q))), fun _ => ⟨withCl ⟨ep, mem, xs, dn, ks, clO⟩ cl, ⟨HEP.out, by have h := HCF.out; unfold Go.Proofs.YtfefeepljbfcdaaGreat.confB at h; simp only [Bool.and_eq_true] at h; exact h.2, HMN.out, HDN.out, by have := HKM.out; show ks.length ≤ 16; omega, HKO.out, hC⟩, hL⟩⟩
        clear hL hC x9
        go_wp2
        go_returns
        exact FIN.out
       ·have hkl := HKL.out
        have e1 : ((ks.length : Int) == (i2 : Int)) = false := by simp; omega
        have e2 : decide ((ks.length : Int) = (i2 : Int)) = false := decide_eq_false (by omega)
        have e3 : (ks.length == i2) = false := by simpa using hkm
        go_wp2
        go_returns
        exact ⟨false, rfl, ZZ.out, fun h => nomatch h⟩
   ·obtain rfl : i = N := by omega
    have hz0 : i - i = 0 := by omega
    rw [hz0]
    clear hz0 hlt hlt2 hrl
    have hro : wr.ownsRow B' 3 1 v xs.length (xs.map (Value.int .i64)) := by rw [HXL.out]; exact ROW.out
    obtain ⟨a2, c2, rfl, hI2, hf2⟩ := ints_own hro (fun x hx => by have := HXB.out x hx; unfold I64; omega)
    have I2i := hI_ hI2; have F2i := hI_ hf2
    clear hro hI2 hf2 ROW
    obtain ⟨dn, hdn⟩ : ∃ dn : Int, dn = (numV 4 r : Nat) := ⟨_, rfl⟩
    obtain ⟨q5, hq5⟩ : ∃ q5, q5 = numR 4 r := ⟨_, rfl⟩
    have HDB : Hid (0 ≤ dn ∧ dn ≤ 4294967295) := hI_ (by have := numV_lt 4 r; omega)
    have K4 : Hid (Calls Tryz.prog 76 #[.pointer (some ⟨rb, 0, none⟩)] wr fun e w'' => e = .returned (.int .i64 dn) ∧ Ext (One rb) wr w'' ∧ RdG w'' rb q5) := hI_ (by rw [hdn, hq5]; exact rdg_Long rb r wr HWi.out)
    clear hdn hq5
    go_wp2_with fail
    refine K4.out.mono ?_
    rintro e w1 ⟨rfl, x2, hR⟩
    have HB1 := hI_ (HBi.out.ext x2 (fun q => HNE.out.1 q)); have HM1 := hI_ (HMi.out.ext x2 (fun q => HNE.out.2.1 q))
    have I1 := hI_ (Ii.out.ext x2 (fun k o e q => by have q : k = rb := q; have := (Fi.out k o e).1; have := HLT.out; omega))
    have F1 := hI_ (fresh_up Fi.out x2 (fun k hk q => by have q : k = rb := q; have := HLT.out; omega))
    have J1 := hI_ (I2i.out.ext x2 (fun k o e q => by have q : k = rb := q; have := (F2i.out k o e).1; have := HL6.out; omega))
    have G1 := hI_ (fresh_up F2i.out x2 (fun k hk q => by have q : k = rb := q; have := HL6.out; omega))
    have Z1 := hI_ (XZ.out.trans (x2.mono (fun k _ q => .inr (.inr q))))
    have R1 := hI_ hR
    clear x2 hR HWi HBi HMi Ii Fi I2i F2i XZ HSi
    have b3 : w1.cell? ⟨b, 3, none⟩ = some (.int .i64 0) := HB1.out.cell rfl
    have z3 : w1.frozen? ⟨b, 3, none⟩ = false := froz_of_heap HB1.out.h
    go_upto_region 11 with fail
    have Y : Ext (One b) w1 (w1.setCell ⟨b, 3, none⟩ (.int .i64 dn)) := (Ext.refl _ _).set1 _
    have HB2 : Hid (Bx _ b (rowR ep (.slice a1 mem.length c1) (.slice a2 xs.length c2) dn m) 64) := hI_ (HB1.out.set (j := 3) (.int .i64 dn))
    have HM2 := hI_ (HM1.out.ext Y (fun q => HNE.out.2.2 q.symm))
    have I2 := hI_ (I1.out.ext Y (fun k o e q => by have q : k = b := q; have := (F1.out k o e).1; have := HLT.out; omega))
    have F2 := hI_ (fresh_up F1.out Y (fun k hk q => by have q : k = b := q; have := HLT.out; omega))
    have J2 := hI_ (J1.out.ext Y (fun k o e q => by have q : k = b := q; have := (G1.out k o e).1; have := HL6.out; omega))
    have G2 := hI_ (fresh_up G1.out Y (fun k hk q => by have q : k = b := q; have := HL6.out; omega))
    have Z2 := hI_ (Z1.out.trans (Y.mono (fun k _ q => .inl q)))
    have R2 := hI_ (R1.out.ext Y (fun q => HNE.out.1 q.symm))
    clear Y HB1 HM1 I1 F1 J1 G1 Z1 R1 b3 z3
    generalize w1.setCell ⟨b, 3, none⟩ (.int .i64 dn) = w2 at *
    clear w1
    have KR0 : Hid (∀ w', Ext Non w2 w' → Calls Tryz.prog 16 #[.agg #[.int .i64 0, .slice a2 xs.length c2]] w' fun e w'' => e = .returned (.bool (Go.Proofs.YtfefeepljbfcdaaGreat.confB 0 xs)) ∧ Ext Non w' w'') := hI_ (fun w' x => council_Right 0 a2 c2 xs w' (J2.out.extN x))
    have t0 : w2.cell? ⟨b, 0, none⟩ = some (.int .i64 ep) := HB2.out.cell rfl
    have t2 : w2.cell? ⟨b, 2, none⟩ = some (.slice a2 xs.length c2) := HB2.out.cell rfl
    have t3 : w2.cell? ⟨b, 3, none⟩ = some (.int .i64 dn) := HB2.out.cell rfl
    have hep := HEP.out
    have v1 : IntKind.i64.wrap (ep * 4) = ep * 4 := IntWalk.i64_in _ (by omega)
    have v2 : IntKind.i64.wrap (ep + 1) = ep + 1 := IntWalk.i64_in _ (by omega)
    have v3 : IntKind.i64.wrap ((ep + 1) * 4) = (ep + 1) * 4 := IntWalk.i64_in _ (by omega)
    have CASE3 : Hid (Go.Proofs.YtfefeepljbfcdaaGreat.confB 0 xs = false ∨ Go.Proofs.YtfefeepljbfcdaaGreat.confB 0 xs = true ∧ decide (dn < ep * 4) = true ∨ Go.Proofs.YtfefeepljbfcdaaGreat.confB 0 xs = true ∧ decide (dn < ep * 4) = false ∧ decide ((ep + 1) * 4 < dn) = true ∨ Go.Proofs.YtfefeepljbfcdaaGreat.confB 0 xs = true ∧ decide (dn < ep * 4) = false ∧ decide ((ep + 1) * 4 < dn) = false) := hI_ (by
     cases Go.Proofs.YtfefeepljbfcdaaGreat.confB 0 xs
     ·exact .inl rfl
     ·by_cases h1 : dn < ep * 4
      ·exact .inr (.inl ⟨rfl, decide_eq_true h1⟩)
      ·by_cases h2 : (ep + 1) * 4 < dn
       ·exact .inr (.inr (.inl ⟨rfl, decide_eq_false h1, decide_eq_true h2⟩))
       ·exact .inr (.inr (.inr ⟨rfl, decide_eq_false h1, decide_eq_false h2⟩)))
    rcases CASE3.out with hc | ⟨hc, e1⟩ | ⟨hc, e1, e2⟩ | ⟨hc, e1, e2⟩
    ·have KR : Hid (∀ w', Ext Non w2 w' → Calls Tryz.prog 16 #[.agg #[.int .i64 0, .slice a2 xs.length c2]] w' fun e w'' => e = .returned (.bool false) ∧ Ext Non w' w'') := hI_ (fun w' x => by rw [← hc]; exact KR0.out w' x)
     (refine wp_region_ext_lit (by kernel_rfl) (by kernel_rfl) ?_)
     ((try simp only [Bool.not_true, Bool.not_false, Bool.or_false, Bool.or_true, Bool.false_or, Bool.true_or, Bool.and_true, Bool.true_and, Bool.and_false, Bool.false_and]); (repeat (go_big_quiet_step ((go_at_call 16; exact Calls.ext_of (KR.out _ (exG0)))))))
     (refine wpQuiet_nil ?_; intro _ hw'; obtain ⟨x3, hw''⟩ := hw'; subst hw'')
     go_wp2
     go_returns
     exact ⟨false, rfl, Z2.out.trans x3.ext.ofNon, fun h => nomatch h⟩
    ·have KR : Hid (∀ w', Ext Non w2 w' → Calls Tryz.prog 16 #[.agg #[.int .i64 0, .slice a2 xs.length c2]] w' fun e w'' => e = .returned (.bool true) ∧ Ext Non w' w'') := hI_ (fun w' x => by rw [← hc]; exact KR0.out w' x)
     (refine wp_region_ext_lit (by kernel_rfl) (by kernel_rfl) ?_)
     ((try simp only [Bool.not_true, Bool.not_false, Bool.or_false, Bool.or_true, Bool.false_or, Bool.true_or, Bool.and_true, Bool.true_and, Bool.and_false, Bool.false_and]); (repeat (go_big_quiet_step ((go_at_call 16; exact Calls.ext_of (KR.out _ (exG0)))))))
     (refine wpQuiet_nil ?_; intro _ hw'; obtain ⟨x3, hw''⟩ := hw'; subst hw'')
     go_wp2
     go_returns
     exact ⟨false, rfl, Z2.out.trans x3.ext.ofNon, fun h => nomatch h⟩
    ·have KR : Hid (∀ w', Ext Non w2 w' → Calls Tryz.prog 16 #[.agg #[.int .i64 0, .slice a2 xs.length c2]] w' fun e w'' => e = .returned (.bool true) ∧ Ext Non w' w'') := hI_ (fun w' x => by rw [← hc]; exact KR0.out w' x)
     (refine wp_region_ext_lit (by kernel_rfl) (by kernel_rfl) ?_)
     ((try simp only [Bool.not_true, Bool.not_false, Bool.or_false, Bool.or_true, Bool.false_or, Bool.true_or, Bool.and_true, Bool.true_and, Bool.and_false, Bool.false_and]); (repeat (go_big_quiet_step ((go_at_call 16; exact Calls.ext_of (KR.out _ (exG0)))))))
     (refine wpQuiet_nil ?_; intro _ hw'; obtain ⟨x3, hw''⟩ := hw'; subst hw'')
     go_wp2
     go_returns
     exact ⟨false, rfl, Z2.out.trans x3.ext.ofNon, fun h => nomatch h⟩
    ·have KR : Hid (∀ w', Ext Non w2 w' → Calls Tryz.prog 16 #[.agg #[.int .i64 0, .slice a2 xs.length c2]] w' fun e w'' => e = .returned (.bool true) ∧ Ext Non w' w'') := hI_ (fun w' x => by rw [← hc]; exact KR0.out w' x)
     (refine wp_region_ext_lit (by kernel_rfl) (by kernel_rfl) ?_)
     ((try simp only [Bool.not_true, Bool.not_false, Bool.or_false, Bool.or_true, Bool.false_or, Bool.true_or, Bool.and_true, Bool.true_and, Bool.and_false, Bool.false_and]); (repeat (go_big_quiet_step ((go_at_call 16; exact Calls.ext_of (KR.out _ (exG0)))))))
     (refine wpQuiet_nil ?_; intro _ hw'; obtain ⟨x3, hw''⟩ := hw'; subst hw'')
     have HB3 := hI_ (HB2.out.extN x3.ext); have HM3 := hI_ (HM2.out.ext x3.ext (fun f => f)); have I3 := hI_ (I2.out.extN x3.ext); have F3 := hI_ (fresh_up F2.out x3.ext (fun _ _ f => f)); have J3 := hI_ (J2.out.extN x3.ext); have G3 := hI_ (fresh_up G2.out x3.ext (fun _ _ f => f)); have Z3 := hI_ (Z2.out.trans x3.ext.ofNon); have R3 := hI_ (R2.out.extN x3.ext)
     have HMN : Hid (Go.Proofs.YtfefeepljbfcdaaGreat.membersB xs = true) := hI_ (by have h := hc; unfold Go.Proofs.YtfefeepljbfcdaaGreat.confB at h; simp only [Bool.and_eq_true] at h; exact h.2)
     have HDN : Hid (4 * ep ≤ dn ∧ dn ≤ 4 * (ep + 1)) := hI_ (by have h1 := of_decide_eq_false e1; have h2 := of_decide_eq_false e2; omega)
     clear HB2 HM2 I2 F2 J2 G2 Z2 R2 t0 t2 t3 v1 v2 v3 e1 e2 KR KR0 CASE3
     generalize x3.on = w3 at *
     go_wp2_with fail
     obtain ⟨M, hM⟩ : ∃ M, M = numV 1 q5 := ⟨_, rfl⟩
     obtain ⟨q6, hq6⟩ : ∃ q6, q6 = numR 1 q5 := ⟨_, rfl⟩
     have HMB : Hid (M ≤ 255) := hI_ (by have := numV_lt 1 q5; omega)
     refine (rdg_Byte rb q5 _ R3.out).mono ?_
     rw [← hM, ← hq6]
     clear hM hq6
     rintro e w4 ⟨rfl, x2, hR⟩
     have HB4 := hI_ (HB3.out.ext x2 (fun q => HNE.out.1 q)); have HM4 := hI_ (HM3.out.ext x2 (fun q => HNE.out.2.1 q))
     have I4 := hI_ (I3.out.ext x2 (fun k o e q => by have q : k = rb := q; have := (F3.out k o e).1; have := HLT.out; omega))
     have F4 := hI_ (fresh_up F3.out x2 (fun k hk q => by have q : k = rb := q; have := HLT.out; omega))
     have J4 := hI_ (J3.out.ext x2 (fun k o e q => by have q : k = rb := q; have := (G3.out k o e).1; have := HL6.out; omega))
     have G4 := hI_ (fresh_up G3.out x2 (fun k hk q => by have q : k = rb := q; have := HL6.out; omega))
     have Z4 := hI_ (Z3.out.trans (x2.mono (fun k _ q => .inr (.inr q))))
     have R4 := hI_ hR
     clear x2 hR HB3 HM3 I3 F3 J3 G3 Z3 R3 K4
     by_cases hM16 : 16 < M
     ·have dM : decide (16 < M) = true := decide_eq_true (by omega)
      have dM' : decide ((16 : Int) < (M : Int)) = true := decide_eq_true (by omega)
      go_wp2
      go_returns
      exact ⟨false, rfl, Z4.out, fun h => nomatch h⟩
     have dM : decide (16 < M) = false := decide_eq_false (by omega)
     have dM' : decide ((16 : Int) < (M : Int)) = false := decide_eq_false (by omega)
     go_wp2_with fail
     go_loopg [10, 11, 12, 101] M (fun n v10 v11 v12 iv wr => ∃ (i : Nat) (ks : Ks) (r : Rd), i ≤ M ∧ n = M - i ∧ iv = .int .i64 i ∧ Hid (∀ p ∈ ks, KeyOk p) ∧ Hid (ks.length ≤ i) ∧ Hid (RdG wr rb r) ∧ Hid (Bx wr b (rowR ep (.slice a1 mem.length c1) (.slice a2 xs.length c2) dn m) 64) ∧ Hid (MapW wr m ks) ∧ Hid (Ints wr a1 c1 mem) ∧ Hid (fresh n2 wr a1) ∧ Hid (Ints wr a2 c2 xs) ∧ Hid (fresh B' wr a2) ∧ Hid (Ext (fun k => k = b ∨ k = m ∨ k = rb) w wr))
     case atStart => exact ⟨0, [], q6, Nat.zero_le _, rfl, rfl, hI_ (fun p hp => nomatch hp), hI_ (Nat.le_refl _), R4, HB4, HM4, I4, F4, J4, G4, Z4⟩
     case round =>
      obtain ⟨i2, ks, r, hi2, hn, rfl, HKO, HKL, HWi, HBi, HMi, Ii, Fi, Ji, Gi, ZZ⟩ := hrel
      have HG2 := hI_ hn; clear hn
      clear R4 HB4 HM4 I4 F4 J4 G4 Z4
      by_cases hlt : i2 < M
      ·obtain ⟨key, hkey⟩ : ∃ key, key = sB (textV r) := ⟨_, rfl⟩
       obtain ⟨r', hr'⟩ : ∃ r', r' = textR r := ⟨_, rfl⟩
       obtain ⟨xv, hxv⟩ : ∃ xv, xv = numV 8 r' := ⟨_, rfl⟩
       obtain ⟨r'', hr''⟩ : ∃ r'', r'' = numR 8 r' := ⟨_, rfl⟩
       have KA : Hid (∀ w', RdG w' rb r → Calls Tryz.prog 74 #[.pointer (some ⟨rb, 0, none⟩)] w' fun e w'' => e = .returned (.string key) ∧ Ext (One rb) w' w'' ∧ RdG w'' rb r') := hI_ (fun w' h => by rw [hkey, hr']; exact rdg_Text rb r w' h)
       have KB : Hid (∀ w', RdG w' rb r' → Calls Tryz.prog 78 #[.pointer (some ⟨rb, 0, none⟩)] w' fun e w'' => e = .returned (.int .u64 (xv : Nat)) ∧ Ext (One rb) w' w'' ∧ RdG w'' rb r'') := hI_ (fun w' h => by rw [hxv, hr'']; exact rdg_Bits rb r' w' h)
       have HXV : Hid (xv < 18446744073709551616) := hI_ (by have := numV_lt 8 r'; omega)
       have KC : Hid (∀ w', Calls Tryz.prog 77 #[.int .u64 (xv : Nat)] w' fun e w'' => e = .returned (.tuple #[.float .f64 (fromN xv), .bool (fromB xv)]) ∧ w' = w'') := hI_ (fun w' => reals_From xv w')
       have hks : key.size ≤ 4611686018427387904 := by have h1 := (textV_len r).1; have h2 := HWi.out.small; rw [hkey, sB_size]; omega
       have CASE4 : Hid (fromB xv = false ∨ fromB xv = true ∧ key.toList.isEmpty = true ∨ fromB xv = true ∧ key.toList.isEmpty = false ∧ decide (16 < key.size) = true ∨ fromB xv = true ∧ key.toList.isEmpty = false ∧ decide (16 < key.size) = false ∧ KeyOk (key, xv)) := hI_ (by
        cases hf : fromB xv
        ·exact .inl rfl
        ·cases he : key.toList.isEmpty
         ·by_cases h : 16 < key.size
          ·exact .inr (.inr (.inl ⟨rfl, rfl, decide_eq_true h⟩))
          ·refine .inr (.inr (.inr ⟨rfl, rfl, decide_eq_false h, ?_, by show key.size ≤ 16; omega, HXV.out, canon_fromB hf⟩))
           show 1 ≤ key.size
           rcases Nat.eq_zero_or_pos key.size with z | z
           ·exfalso
            have : key.toList = [] := (toList_nil key).2 z
            rw [this] at he; cases he
           ·exact z
         ·exact .inr (.inl ⟨rfl, rfl⟩))
       clear hkey hr' hxv hr''
       go_wp2_with fail
       refine (KA.out _ HWi.out).mono ?_
       rintro e w7 ⟨rfl, x2, hR⟩
       have HB7 := hI_ (HBi.out.ext x2 (fun q => HNE.out.1 q)); have HM7 := hI_ (HMi.out.ext x2 (fun q => HNE.out.2.1 q))
       have I7 := hI_ (Ii.out.ext x2 (fun k o e q => by have q : k = rb := q; have := (Fi.out k o e).1; have := HLT.out; omega))
       have F7 := hI_ (fresh_up Fi.out x2 (fun k hk q => by have q : k = rb := q; have := HLT.out; omega))
       have J7 := hI_ (Ji.out.ext x2 (fun k o e q => by have q : k = rb := q; have := (Gi.out k o e).1; have := HL6.out; omega))
       have G7 := hI_ (fresh_up Gi.out x2 (fun k hk q => by have q : k = rb := q; have := HL6.out; omega))
       have Z7 := hI_ (ZZ.out.trans (x2.mono (fun k _ q => .inr (.inr q))))
       have R7 := hI_ hR
       clear x2 hR HBi HMi Ii Fi Ji Gi ZZ HWi KA
       go_wp2_with fail
       refine (KB.out _ R7.out).mono ?_
       rintro e w8 ⟨rfl, x2, hR⟩
       have HB8 := hI_ (HB7.out.ext x2 (fun q => HNE.out.1 q)); have HM8 := hI_ (HM7.out.ext x2 (fun q => HNE.out.2.1 q))
       have I8 := hI_ (I7.out.ext x2 (fun k o e q => by have q : k = rb := q; have := (F7.out k o e).1; have := HLT.out; omega))
       have F8 := hI_ (fresh_up F7.out x2 (fun k hk q => by have q : k = rb := q; have := HLT.out; omega))
       have J8 := hI_ (J7.out.ext x2 (fun k o e q => by have q : k = rb := q; have := (G7.out k o e).1; have := HL6.out; omega))
       have G8 := hI_ (fresh_up G7.out x2 (fun k hk q => by have q : k = rb := q; have := HL6.out; omega))
       have Z8 := hI_ (Z7.out.trans (x2.mono (fun k _ q => .inr (.inr q))))
       have R8 := hI_ hR
       clear x2 hR HB7 HM7 I7 F7 J7 G7 Z7 R7 KB
       go_wp2_with fail
       refine (KC.out _).mono ?_
       rintro e _ ⟨rfl, rfl⟩
       rcases CASE4.out with hf | ⟨hf, he⟩ | ⟨hf, he, hk16⟩ | ⟨hf, he, hk16, hko⟩
       ·rw [hf]
        go_wp2
        go_returns
        exact ⟨false, rfl, Z8.out, fun h => nomatch h⟩
       ·rw [hf]
        go_wp2
        go_returns
        exact ⟨false, rfl, Z8.out, fun h => nomatch h⟩
       ·rw [hf]
        have hk16' : decide ((16 : Int) < (key.size : Int)) = true := decide_eq_true (by have := of_decide_eq_true hk16; omega)
        go_wp2
        go_returns
        exact ⟨false, rfl, Z8.out, fun h => nomatch h⟩
       have hk16' : decide ((16 : Int) < (key.size : Int)) = false := decide_eq_false (by have := of_decide_eq_false hk16; omega)
       have hfn : fromN xv = xv := by unfold fromN; rw [if_pos hf]
       rw [hf, hfn]
       have HKO2 := hI_ (setK_ok HKO.out hko)
       have HKL2 : Hid ((setK ks key xv).length ≤ i2 + 1) := hI_ (by have h1 := setK_len (l := ks) key xv; have h2 := HKL.out; omega)
       clear CASE4 hfn hko
       obtain ⟨w9, hu, hM9, x9⟩ := HM8.out.update Tryz.underlying59 Tryz.underlying9 key xv
       have b4 : w8.cell? ⟨b, 4, none⟩ = some (.map (some m)) := HB8.out.cell rfl
       have HM9 := hI_ hM9
       have HB9 := hI_ (HB8.out.ext x9 (fun q => HNE.out.2.2 q))
       have I9 := hI_ (I8.out.ext x9 (fun k o e q => by have q : k = m := q; have := (F8.out k o e).1; have := HLT.out; omega))
       have F9 := hI_ (fresh_up F8.out x9 (fun k hk q => by have q : k = m := q; have := HLT.out; omega))
       have J9 := hI_ (J8.out.ext x9 (fun k o e q => by have q : k = m := q; have := (G8.out k o e).1; have := HL6.out; omega))
       have G9 := hI_ (fresh_up G8.out x9 (fun k hk q => by have q : k = m := q; have := HL6.out; omega))
       have Z9 := hI_ (Z8.out.trans (x9.mono (fun k _ q => .inr (.inl q))))
       have R9 := hI_ (R8.out.ext x9 (fun q => HNE.out.2.1 q.symm))
       clear x9 hM9 HB8 HM8 I8 F8 J8 G8 Z8 R8 KC
       go_wp2_with fail
       go_roundg (M - (i2 + 1))
       case measure => have := HG2.out; omega
       case rel => exact ⟨i2 + 1, setK ks key xv, r'', hlt, rfl, by go_num, HKO2, HKL2, R9, HB9, HM9, I9, F9, J9, G9, Z9⟩
      ·obtain rfl : i2 = M := by omega
       have hlen := HMi.out.len Tryz.underlying59 3
       have b4 : wr.cell? ⟨b, 4, none⟩ = some (.map (some m)) := HBi.out.cell rfl
       by_cases hkm : ks.length = i2
       ·have HH : Hid (LD wr b m (withCl ⟨ep, mem, xs, dn, ks, clO⟩ clO)) := hI_ ⟨⟨a1, c1, a2, c2, HBi.out.h, Ii.out, Ji.out, fun k o e => (Fi.out k o e).2, fun k o e => (Gi.out k o e).2⟩, HMi.out⟩
        have KF := hI_ (readClients_any b m rb ⟨ep, mem, xs, dn, ks, clO⟩ clO clO_ok r HNE.out.1 HNE.out.2.1 wr HH.out HWi.out)
        rw [hkm] at hlen
        have HKM := hI_ hkm
        clear hkm
        go_wp2_with fail
        refine KF.out.mono ?_
        rintro e w9 ⟨vv, cl, rfl, x9, hL, hC⟩
        have FIN : Hid (RdAP b m rb w (.returned (.bool vv)) w9) := hI_ ⟨vv, rfl, ZZ.out.trans (x9.mono (fun k _ q => by rcases q with q | q; exact .inl q; exact .inr (.inr q))), fun _ => ⟨withCl ⟨ep, mem, xs, dn, ks, clO⟩ cl, ⟨HEP.out, by have h := HCF.out; unfold Go.Proofs.YtfefeepljbfcdaaGreat.confB at h; simp only [Bool.and_eq_true] at h; exact h.2, HMN.out, HDN.out, by have := HKM.out; show ks.length ≤ 16; omega, HKO.out, hC⟩, hL⟩⟩
        clear hL hC x9
        go_wp2
        go_returns
        exact FIN.out
       ·have hkl := HKL.out
        have e1 : ((ks.length : Int) == (i2 : Int)) = false := by simp; omega
        have e2 : decide ((ks.length : Int) = (i2 : Int)) = false := decide_eq_false (by omega)
        have e3 : (ks.length == i2) = false := by simpa using hkm
        go_wp2
        go_returns
        exact ⟨false, rfl, ZZ.out, fun h => nomatch h⟩
end Go.Proofs.YtfefeepljbfcdaaGreat
