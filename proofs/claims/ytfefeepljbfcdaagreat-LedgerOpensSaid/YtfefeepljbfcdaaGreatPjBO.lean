/- Joined texts: Read12. What each proves stands at its head; no conditions beside those in its theorems. -/
import Derived.Deep.MidRow
import Derived.Deep.WholeRow
import Derived.Shelf.SlMaps.Clone
import Derived.Test.YtfefeepljbfcdaaGreatPjBN
/- Layer 12: the program reads a ledger's bytes. -/
namespace Go.Proofs.YtfefeepljbfcdaaGreat
open Go.RowKit Go.Lib F64
set_option linter.unusedSimpArgs false
set_option linter.unusedVariables false
attribute [local go_sem] run_store_float
attribute [local go_sem low] EW.cellN EW.frozN alloc_cell_or alloc_froz_or EW.cellF EW.frozF EW.cell1 EW.froz1
attribute [local go_sem] relAt relUpon relAtT relUponT
attribute [local go_sem low] EW.cellO EW.frozO
def clO : Nat → Cl := fun _ => ⟨0, 0, 0⟩
def rowR (ep : Int) (v1 v2 : Value) (dn : Int) (m : Nat) : List Value := .int .i64 ep :: v1 :: v2 :: .int .i64 dn :: .map (some m) :: clRow clO
theorem setK_take {l : Ks} (h : RiseK l) {i : Nat} (hi : i < l.length) : setK (l.take i) (l[i]).1 (l[i]).2 = l.take (i + 1) := by
 have hno : hasK (l.take i) (l[i]).1 = false := by
  have : getK (l.take i) (l[i]).1 = none := getK_none.2 (fun p hp e => by
   obtain ⟨j, hj, rfl⟩ := List.getElem_of_mem hp
   rw [List.length_take] at hj
   rw [List.getElem_take] at e
   have hlt : kl l[j] < kl l[i] := List.pairwise_iff_getElem.1 h j i (by omega) hi (by omega)
   unfold kl at hlt
   rw [e] at hlt
   exact absurd hlt (List.lt_irrefl _))
  unfold hasK
  rw [this]; rfl
 unfold setK
 rw [hno, List.take_succ_eq_append_getElem hi]
 rfl
set_option maxHeartbeats 4000000 in
set_option maxRecDepth 100000 in
theorem read_ok (b m rb : Nat) (g : Lg) (I : Inv g) (nd : NdK g.keys) (hbm : b ≠ rb) (hmr : m ≠ rb) (hne : b ≠ m) (w : World) (hb : Bx w b (rowR 0 (.slice none 0 0) (.slice none 0 0) 0 m) 64) (hm : MapW w m []) (hr : RdG w rb ⟨ledgT g, false⟩) : Calls Tryz.prog 33 #[.pointer (some ⟨b, 0, none⟩), .pointer (some ⟨rb, 0, none⟩)] w fun e w' =>
  e = .returned (.bool true) ∧ Ext (fun k => k = b ∨ k = m ∨ k = rb) w w' ∧ LD w' b m ⟨g.epoch, g.mem, g.next, g.done, sortK g.keys, fun i => if i < 8 then g.cl i else ⟨0, 0, 0⟩⟩ := by
 obtain ⟨q1, q2, q5, T4, a1, a2, a3, a4, a5, a6, a7, a8, a9, a10, t4, t5⟩ := led_chain I
 have hcf : confB g.epoch g.mem = true := by unfold confB; rw [I.mm]; simp [I.ep.1, I.ep.2]
 obtain ⟨m1, -, -, m10⟩ := members_facts I.mn
 have hxb : ∀ x ∈ g.next, 0 ≤ x ∧ x ≤ 255 := fun x hx => by have := m1 x hx; omega
 have K1 : Hid (∀ w', RdG w' rb ⟨ledgT g, false⟩ → Calls Tryz.prog 72 #[.pointer (some ⟨rb, 0, none⟩)] w' fun e w'' => e = .returned (.int .i64 76) ∧ Ext (One rb) w' w'' ∧ RdG w'' rb q1) := hI_ (fun w' h => (rdg_Byte rb _ w' h).mono fun e' w'' ⟨h1, h2, h3⟩ => by rw [a1] at h1; rw [a2] at h3; exact ⟨h1, h2, h3⟩)
 have K2 : Hid (∀ w', RdG w' rb q1 → Calls Tryz.prog 74 #[.pointer (some ⟨rb, 0, none⟩)] w' fun e w'' => e = .returned (.string (sB (confT g.epoch g.mem))) ∧ Ext (One rb) w' w'' ∧ RdG w'' rb q2) := hI_ (fun w' h => (rdg_Text rb _ w' h).mono fun e' w'' ⟨h1, h2, h3⟩ => by rw [a3] at h1; rw [a4] at h3; exact ⟨h1, h2, h3⟩)
 have KC : Hid (∀ w', Calls Tryz.prog 73 #[.string (sB (confT g.epoch g.mem))] w' fun e w'' => ∃ a cap, e = .returned (.tuple #[.agg #[.int .i64 g.epoch, .slice a g.mem.length cap], .int .i64 0]) ∧ Ints w'' a cap g.mem ∧ Ext Non w' w'' ∧ fresh w'.heap.size w'' a) := hI_ (fun w' => council_Read_ok g.epoch g.mem hcf w')
 have K3 : Hid (∀ w', RdG w' rb q2 → Calls Tryz.prog 72 #[.pointer (some ⟨rb, 0, none⟩)] w' fun e w'' => e = .returned (.int .i64 (g.next.length : Int)) ∧ Ext (One rb) w' w'' ∧ RdG w'' rb (rsN g.next T4 0)) := hI_ (fun w' h => (rdg_Byte rb _ w' h).mono fun e' w'' ⟨h1, h2, h3⟩ => by rw [a5] at h1; rw [a6] at h3; exact ⟨h1, h2, h3⟩)
 have KL : Hid (∀ i w', RdG w' rb (rsN g.next T4 i) → Calls Tryz.prog 75 #[.pointer (some ⟨rb, 0, none⟩)] w' fun e w'' => e = .returned (.int .i64 ((g.next.length - i + T4.length : Nat) : Int)) ∧ ∃ n, w'' = w'.drewN n) := hI_ (fun i w' h => by have := rdg_Left rb _ w' h; rw [rsN_len] at this; exact this)
 have KN : Hid (∀ i w' (hi : i < g.next.length), RdG w' rb (rsN g.next T4 i) → Calls Tryz.prog 72 #[.pointer (some ⟨rb, 0, none⟩)] w' fun e w'' => e = .returned (.int .i64 g.next[i]) ∧ Ext (One rb) w' w'' ∧ RdG w'' rb (rsN g.next T4 (i + 1))) := hI_ (fun i w' hi h => (rdg_Byte rb _ w' h).mono fun e' w'' ⟨h1, h2, h3⟩ => by
  obtain ⟨z1, z2⟩ := rsN_step T4 hxb hi; rw [z1] at h1; rw [z2] at h3; exact ⟨h1, h2, h3⟩)
 have K4 : Hid (∀ w', RdG w' rb (rsN g.next T4 g.next.length) → Calls Tryz.prog 76 #[.pointer (some ⟨rb, 0, none⟩)] w' fun e w'' => e = .returned (.int .i64 g.done) ∧ Ext (One rb) w' w'' ∧ RdG w'' rb q5) := hI_ (fun w' h => (rdg_Long rb _ w' h).mono fun e' w'' ⟨h1, h2, h3⟩ => by rw [a7] at h1; rw [a8] at h3; exact ⟨h1, h2, h3⟩)
 obtain ⟨C, hC⟩ : ∃ C, C = (List.range 8).flatMap (fun i => cliT (g.cl i)) := ⟨_, rfl⟩
 rw [← hC] at a10
 obtain ⟨sk, hsk⟩ : ∃ sk, sk = sortK g.keys := ⟨_, rfl⟩
 rw [← hsk] at a9 a10
 have hkb : ∀ p ∈ sk, 1 ≤ p.1.size ∧ p.1.size ≤ 16 ∧ p.2 < 18446744073709551616 ∧ canonN p.2 = p.2 := fun p hp => by rw [hsk] at hp; exact I.kb p (mem_sortK hp)
 have hkb2 : ∀ p ∈ sk, p.1.size ≤ 65535 ∧ p.2 < 18446744073709551616 := fun p hp => by have := hkb p hp; omega
 have HSET : Hid (∀ i (hi : i < sk.length), setK (sk.take i) (sk[i]).1 (sk[i]).2 = sk.take (i + 1)) := hI_ (fun i hi => setK_take (by rw [hsk]; exact sortK_rise nd) hi)
 have hkl : sk.length ≤ 16 := by rw [hsk, sortK_len]; exact I.kl
 have K5 : Hid (∀ w', RdG w' rb q5 → Calls Tryz.prog 72 #[.pointer (some ⟨rb, 0, none⟩)] w' fun e w'' => e = .returned (.int .i64 (sk.length : Int)) ∧ Ext (One rb) w' w'' ∧ RdG w'' rb (rsK sk C 0)) := hI_ (fun w' h => (rdg_Byte rb _ w' h).mono fun e' w'' ⟨h1, h2, h3⟩ => by rw [a9] at h1; rw [a10] at h3; exact ⟨h1, h2, h3⟩)
 have K6 : Hid (∀ i w' (hi : i < sk.length), RdG w' rb (rsK sk C i) → Calls Tryz.prog 74 #[.pointer (some ⟨rb, 0, none⟩)] w' fun e w'' => e = .returned (.string (sk[i]).1) ∧ Ext (One rb) w' w'' ∧ RdG w'' rb (rrK sk C i)) := hI_ (fun i w' hi h => (rdg_Text rb _ w' h).mono fun e' w'' ⟨h1, h2, h3⟩ => by
  obtain ⟨z1, z2, z3⟩ := rsK_step C hkb2 hi; rw [z1] at h1; exact ⟨h1, h2, h3⟩)
 have K7 : Hid (∀ i w' (hi : i < sk.length), RdG w' rb (rrK sk C i) → Calls Tryz.prog 78 #[.pointer (some ⟨rb, 0, none⟩)] w' fun e w'' => e = .returned (.int .u64 ((sk[i]).2 : Nat)) ∧ Ext (One rb) w' w'' ∧ RdG w'' rb (rsK sk C (i + 1))) := hI_ (fun i w' hi h => (rdg_Bits rb _ w' h).mono fun e' w'' ⟨h1, h2, h3⟩ => by
  obtain ⟨z1, z2, z3⟩ := rsK_step C hkb2 hi; rw [z2] at h1; rw [z3] at h3; exact ⟨h1, h2, h3⟩)
 have K8 : Hid (∀ i w' (hi : i < sk.length), Calls Tryz.prog 77 #[.int .u64 ((sk[i]).2 : Nat)] w' fun e w'' => e = .returned (.tuple #[.float .f64 (sk[i]).2, .bool true]) ∧ w' = w'') := hI_ (fun i w' hi => (reals_From (sk[i]).2 w').mono fun e w'' ⟨h1, h2⟩ => by
  have hf := fromB_canon (hkb _ (List.getElem_mem hi)).2.2.2
  exact ⟨by rw [h1, hf]; unfold fromN; rw [if_pos hf], h2⟩)
 have KEND : Hid (rsK sk C sk.length = rsC g.cl 0) := hI_ (by unfold rsK rsC; rw [List.drop_length, hC]; rfl)
 have HNE := hI_ (And.intro hbm (And.intro hmr hne))
 have hep := I.ep; have hdn := I.dn
 have HMN := hI_ I.mn
 have HI := hI_ I
 have HKB := hI_ hkb
 have HSK := hI_ hsk
 have HCF := hI_ hcf
 have HT4 := hI_ (And.intro t4 t5)
 have HX64 := hI_ (fun x (hx : x ∈ g.next) => (by have := m1 x hx; unfold I64; omega : I64 x))
 have TM : Hid (∀ i (hi : i < g.next.length), (g.next.take (i + 1)).map (Value.int .i64) = (g.next.take i).map (Value.int .i64) ++ [.int .i64 g.next[i]]) := hI_ (fun i hi => take_map hi)
 have TA : Hid ((g.next.take g.next.length).map (Value.int .i64) = g.next.map (Value.int .i64)) := hI_ (by rw [List.take_length])
 have HB0 := hI_ hb; have HM0 := hI_ hm; have HR0 := hI_ hr
 have X0 : Hid (Ext (fun k => k = b ∨ k = m ∨ k = rb) w w) := hI_ (Ext.refl _ _)
 have HN10 : Hid (g.next.length ≤ 10) := hI_ m10
 clear nd hb hm hr hbm hmr hne I a1 a2 a3 a4 a5 a6 a7 a8 a9 a10 t4 t5 hkb hkb2 hsk hC hcf hxb m1 m10
 go_enter Tryz.func33, Tryz.ntmps33
 go_wp2_with fail
 refine (K1.out _ HR0.out).mono ?_
 rintro e w1 ⟨rfl, x2, hR⟩
 have HB1 := hI_ (HB0.out.ext x2 (fun q => HNE.out.1 q))
 have HM1 := hI_ (HM0.out.ext x2 (fun q => HNE.out.2.1 q))
 have X1 := hI_ (X0.out.trans (x2.mono (fun k _ q => .inr (.inr q))))
 have HR1 := hI_ hR
 clear x2 hR HB0 HM0 X0 HR0
 go_wp2_with fail
 refine (K2.out _ HR1.out).mono ?_
 rintro e w2 ⟨rfl, x2, hR⟩
 have HB2 := hI_ (HB1.out.ext x2 (fun q => HNE.out.1 q))
 have HM2 := hI_ (HM1.out.ext x2 (fun q => HNE.out.2.1 q))
 have X2 := hI_ (X1.out.trans (x2.mono (fun k _ q => .inr (.inr q))))
 have HR2 := hI_ hR
 clear x2 hR HB1 HM1 X1 HR1
 go_wp2_with fail
 refine (KC.out _).mono ?_
 rintro e w3 ⟨a1, c1, rfl, hI1, x3, hf1⟩
 go_upto_region 3 with fail
 have x4 : Ext Non w2 (w3.alloc (.cells #[.int .i64 g.epoch, .slice a1 g.mem.length c1] 24)) := x3.alloc _
 have BC := hI_ (Bx.newAt w3 [.int .i64 g.epoch, .slice a1 g.mem.length c1] 24 _ rfl)
 have HI1 := hI_ (hI1.extN ((Ext.refl Non w3).alloc (.cells #[.int .i64 g.epoch, .slice a1 g.mem.length c1] 24)))
 have HF1 := hI_ (fresh_up hf1 ((Ext.refl Non w3).alloc (.cells #[.int .i64 g.epoch, .slice a1 g.mem.length c1] 24)) (fun _ _ f => f))
 have HB3 := hI_ (HB2.out.extN x4); have HM3 := hI_ (HM2.out.ext x4 (fun f => f)); have X3 := hI_ (X2.out.trans x4.ofNon); have HR3 := hI_ (HR2.out.extN x4)
 have HLT : Hid (b < w2.heap.size ∧ rb < w2.heap.size ∧ m < w2.heap.size ∧ w2.heap.size ≤ w3.heap.size) := hI_ ⟨HB2.out.lt, HR2.out.lt, HM2.out.lt, x3.size⟩
 clear hI1 x3 x4 hf1 HB2 HM2 X2 HR2
 obtain ⟨kc, hkc⟩ : ∃ kc, kc = w3.heap.size := ⟨_, rfl⟩
 obtain ⟨n2, hn2⟩ : ∃ n2, n2 = w2.heap.size := ⟨_, rfl⟩
 rw [← hkc] at BC HLT ⊢
 rw [← hn2] at HLT HF1
 clear hkc hn2
 generalize w3.alloc (.cells #[.int .i64 g.epoch, .slice a1 g.mem.length c1] 24) = w4 at *
 go_upto_region 5 with fail
 have d0 : w4.cell? ⟨kc, 0, none⟩ = some (.int .i64 g.epoch) := BC.out.cell rfl
 have d1 : w4.cell? ⟨kc, 1, none⟩ = some (.slice a1 g.mem.length c1) := BC.out.cell rfl
 have b0 : w4.cell? ⟨b, 0, none⟩ = some (.int .i64 0) := HB3.out.cell rfl
 have b1 : w4.cell? ⟨b, 1, none⟩ = some (.slice none 0 0) := HB3.out.cell rfl
 have z0 : w4.frozen? ⟨b, 0, none⟩ = false := froz_of_heap HB3.out.h
 have z1 : w4.frozen? ⟨b, 1, none⟩ = false := froz_of_heap HB3.out.h
 have hne : b ≠ kc := by have := HLT.out; omega
 have hne2 : kc ≠ b := by have := HLT.out; omega
 go_region
 have Y5 : Ext (One b) w4 ((w4.setCell ⟨b, 0, none⟩ (.int .i64 g.epoch)).setCell ⟨b, 1, none⟩ (.slice a1 g.mem.length c1)).drew := (((Ext.refl _ _).set1 _).set1 _).drew
 have NI : Hid (∀ wx ep v1 v2 dn, Bx wx b (rowR ep v1 v2 dn m) 64 → NoInts (One b) wx) := hI_ (fun wx ep v1 v2 dn h k hk vs fr e => by
  have hk : k = b := hk
  subst hk
  rw [h.h] at e; injection e with e; injection e with _ e _; revert e; decide)
 have HB5 : Hid (Bx _ b (rowR g.epoch (.slice a1 g.mem.length c1) (.slice none 0 0) 0 m) 64) := hI_ (((HB3.out.set (j := 0) (.int .i64 g.epoch)).set (j := 1) (.slice a1 g.mem.length c1)).drew)
 have HM5 := hI_ (HM3.out.ext Y5 (fun q => HNE.out.2.2 q.symm))
 have HR5 := hI_ (HR3.out.ext Y5 (fun q => HNE.out.1 q.symm))
 have X5 := hI_ (X3.out.trans (Y5.mono (fun k _ q => .inl q)))
 have I5 := hI_ (HI1.out.extT (fun k o e => (HF1.out k o e).2) Y5 (NI.out _ _ _ _ _ HB3.out))
 have F5 := hI_ (fresh_up HF1.out Y5 (fun k hk q => by have q : k = b := q; have := HLT.out; omega))
 have HN5 : Hid (n2 ≤ ((w4.setCell ⟨b, 0, none⟩ (.int .i64 g.epoch)).setCell ⟨b, 1, none⟩ (.slice a1 g.mem.length c1)).drew.heap.size) := hI_ (by have h1 := Y5.size; have h2 := BC.out.lt; have := HLT.out; omega)
 clear Y5 HB3 HM3 HR3 X3 HI1 HF1 b0 b1 z0 z1 d0 d1 BC hne hne2
 generalize ((w4.setCell ⟨b, 0, none⟩ (.int .i64 g.epoch)).setCell ⟨b, 1, none⟩ (.slice a1 g.mem.length c1)).drew = w5 at *
 go_wp2_with fail
 refine (K3.out _ HR5.out).mono ?_
 rintro e w6 ⟨rfl, x2, hR⟩
 have HB6 := hI_ (HB5.out.ext x2 (fun q => HNE.out.1 q))
 have HM6 := hI_ (HM5.out.ext x2 (fun q => HNE.out.2.1 q))
 have X6 := hI_ (X5.out.trans (x2.mono (fun k _ q => .inr (.inr q))))
 have I6 := hI_ (I5.out.extT (fun k o e => (F5.out k o e).2) x2 HR5.out.noInt)
 have F6 := hI_ (fresh_up F5.out x2 (fun k hk q => by have q : k = rb := q; have := HLT.out; omega))
 have HR6 := hI_ hR
 have HN6 : Hid (n2 ≤ w6.heap.size) := hI_ (by have h2 := x2.size; have := HN5.out; omega)
 clear x2 hR HB5 HM5 X5 HR5 I5 F5 HN5 w5 w4
 obtain ⟨B', hB'⟩ : ∃ B', B' = w6.heap.size := ⟨_, rfl⟩
 have HL6 : Hid (b < B' ∧ rb < B' ∧ m < B' ∧ ∀ k o, a1 = some ⟨k, o, none⟩ → k < B') := hI_ ⟨by rw [hB']; exact HB6.out.lt, by rw [hB']; exact HR6.out.lt, by rw [hB']; exact HM6.out.lt, fun k o e => by
  obtain ⟨_, vs, fr, hh⟩ := F6.out k o e
  rw [hB']; exact (Array.getElem?_eq_some_iff.1 hh).1⟩
 have HBS : Hid (B' ≤ w6.heap.size) := hI_ (Nat.le_of_eq hB')
 have HLW : Hid (w.heap.size ≤ B') := hI_ (by rw [hB']; exact X6.out.size)
 clear hB'
 obtain ⟨N, hN⟩ : ∃ N, N = g.next.length := ⟨_, rfl⟩
 have HN := hI_ hN
 rw [← hN]
 rw [← hN] at KL TA HN10 K4
 clear hN
 go_wp2_with fail
 go_loopg [8] N (fun n iv wr => ∃ (i : Nat) (v : Value), i ≤ N ∧ n = N - i ∧ iv = .int .i64 ((N - i : Nat) : Int) ∧ Hid (RdG wr rb (rsN g.next T4 i)) ∧ Hid (Bx wr b (rowR g.epoch (.slice a1 g.mem.length c1) v 0 m) 64) ∧ Hid (MapW wr m []) ∧ Hid (wr.ownsRow B' 3 1 v i ((g.next.take i).map (Value.int .i64))) ∧ Hid (Ints wr a1 c1 g.mem) ∧ Hid (fresh n2 wr a1) ∧ Hid (Ext (fun k => k = b ∨ k = m ∨ k = rb) w wr) ∧ Hid (B' ≤ wr.heap.size))
 case atStart => exact ⟨0, .slice none 0 0, Nat.zero_le _, rfl, rfl, HR6, HB6, HM6, hI_ (World.ownsRow_nil _ _ _ _), I6, F6, X6, HBS⟩
 case round =>
  obtain ⟨i, v, hi, hn, rfl, HWi, HBi, HMi, ROW, Ii, Fi, XZ, HSi⟩ := hrel
  have HG := hI_ hn; clear hn
  clear HR6 HB6 HM6 I6 F6 X6 HBS K1 K2 K3 KC
  by_cases hlt : i < N
  ·have HRV := hI_ (own_row ROW.out)
   have hpos : decide ((0 : Nat) < N - i) = true := decide_eq_true (by omega)
   have hix : i < g.next.length := by have := HN.out; omega
   obtain ⟨q, hq⟩ : ∃ q, q = N - i := ⟨_, rfl⟩
   obtain ⟨ql, hql⟩ : ∃ ql, ql = N - i + T4.length := ⟨_, rfl⟩
   obtain ⟨num, hnum⟩ : ∃ num : Int, num = g.next[i] := ⟨_, rfl⟩
   have KL1 : Hid (∀ w', RdG w' rb (rsN g.next T4 i) → Calls Tryz.prog 75 #[.pointer (some ⟨rb, 0, none⟩)] w' fun e w'' => e = .returned (.int .i64 (ql : Int)) ∧ ∃ n, w'' = w'.drewN n) := hI_ (fun w' h => by rw [hql]; exact KL.out i w' h)
   have hpos2 : decide ((0 : Nat) < ql) = true := decide_eq_true (by omega)
   have CN : Hid (∀ w', RdG w' rb (rsN g.next T4 i) → Calls Tryz.prog 72 #[.pointer (some ⟨rb, 0, none⟩)] w' fun e w'' => e = .returned (.int .i64 num) ∧ Ext (One rb) w' w'' ∧ RdG w'' rb (rsN g.next T4 (i + 1))) := hI_ (fun w' h => by rw [hnum]; exact KN.out i w' hix h)
   have NSV := hI_ (TM.out i hix)
   rw [← hnum] at NSV
   rw [← hq] at hpos ⊢
   have HQ := hI_ hq
   obtain ⟨row, hrow⟩ : ∃ row, row = (g.next.take i).map (Value.int .i64) := ⟨_, rfl⟩
   obtain ⟨row2, hrow2⟩ : ∃ row2, row2 = (g.next.take (i + 1)).map (Value.int .i64) := ⟨_, rfl⟩
   rw [← hrow, ← hrow2] at NSV
   rw [← hrow] at ROW
   have HRW2 := hI_ hrow2
   have hi6 : i ≤ 1000000 := by have := HN10.out; omega
   have HRB : Hid (¬ Row v rb) := hI_ (fun q => by have := (HRV.out _ q).1; have := HL6.out; omega)
   have hq10 : q ≤ 10 ∧ 1 ≤ q := by have := HN10.out; omega
   have w1 : IntKind.i64.wrap ((q : Int) - 1) = ((q - 1 : Nat) : Int) := (IntWalk.i64_in _ (by omega)).trans (by omega)
   clear hrow hrow2 hnum hq hql hix hq10
   go_wp2_with fail
   refine (KL1.out _ HWi.out).mono ?_
   rintro e _ ⟨rfl, nd, rfl⟩
   have ED := hI_ ((Ext.refl Non wr).drewN nd)
   have HWj := hI_ (HWi.out.extN ED.out); have HBj := hI_ (HBi.out.extN ED.out); have HMj := hI_ (HMi.out.ext ED.out (fun f => f)); have ROWj := hI_ (ownR_extN ROW.out ED.out); have XZj := hI_ (XZ.out.drewN nd)
   have Ij := hI_ (Ii.out.extN ED.out); have Fj := hI_ (fresh_up Fi.out ED.out (fun _ _ f => f))
   have HSj : Hid (B' ≤ (wr.drewN nd).heap.size) := HSi
   have HRVj : Hid (∀ k, Row v k → B' ≤ k ∧ k < (wr.drewN nd).heap.size) := hI_ (fun k q => HRV.out k q)
   clear HWi HBi HMi ROW XZ HRV KL1 Ii Fi HSi ED
   generalize wr.drewN nd = wj at *
   have q1 : wj.cell? ⟨b, 2, none⟩ = some v := HBj.out.cell rfl
   have n1 : One rb b = False := by have := HNE.out.1; unfold One; simp; omega
   have n2' : Row v b = False := by simp only [eq_iff_iff, iff_false]; intro q; have := (HRVj.out b q).1; have := HL6.out; omega
   have hr1 : ∀ k, One rb k → k < wj.heap.size := fun k q => by have q : k = rb := q; have := HL6.out; have := HSj.out; omega
   have hr2 : ∀ k, Row v k → k < wj.heap.size := fun k q => (HRVj.out k q).2
   have hr3 : ∀ k, One rb k → ¬ Row v k := fun k q r => by have q : k = rb := q; subst q; exact HRB.out r
   have HR1 := hI_ hr1; have HR2 := hI_ hr2; have HR3 := hI_ hr3
   have hbw : B' ≤ wj.heap.size := HSj.out
   clear hr1 hr2 hr3
   go_upto_region 9 with fail
   apply wp_region_wr 11 [Mo.is _, Mo.is _, Mo.is _, Mo.is _, Mo.is _, Mo.is _, moSt (.int .i64 num) (fun w' => RdG w' rb (rsN g.next T4 (i + 1))) (fun _ _ x h => RdG.extN h x), moOne wj.heap.size [.int .i64 num] 3, moRow v wj.heap.size B' 3 1 (i + 1) row2, Mo.is _, Mo.is _] (One rb) 6 (fun w' => RdG w' rb (rsN g.next T4 i)) (Row v) 8 (fun w' => w'.ownsRow B' 3 1 v i row) (by kernel_rfl) (by kernel_rfl) (by kernel_rfl) (by kernel_rfl) (by kernel_rfl) (by decide) (by kernel_rfl) (by decide) ?ta9 ?tb9 ?ha9 ?hb9 ?hc9 ?hd9 ?ma9 ?mb9 ?st9 ?q9
   case ta9 => exact HWj.out
   case tb9 => exact ROWj.out
   case ha9 => exact fun _ _ x h => RdG.extN h x
   case hb9 => exact fun _ _ x h => RdG.ext h x HRB.out
   case hc9 => exact fun _ _ x h => ownR_extN h x
   case hd9 => exact fun _ _ x h => ownR_ext h x (fun k hk hs => HR3.out k hs hk)
   case st9 =>
    refine ⟨?_, ?_, ?_, ?_, ?_, ?_, ?_, ?_, ?_, ?_, ?_, trivial⟩
    ·refine .inl ⟨by decide, by decide, ?_⟩
     intro a' w' hx hs hd
     obtain ⟨y, rfl⟩ := hx.ew
     have e0 : a'.tmps[0]?.getD undef = _ := hs 0 rfl
     simp only [aL, aS, aZ] at e0
     refine .inl ⟨rfl, ?_⟩
     clear hs hd hx
     go_simp
     exact ⟨Ext.refl _ _, rfl⟩
    ·refine .inl ⟨by decide, by decide, ?_⟩
     intro a' w' hx hs hd
     obtain ⟨y, rfl⟩ := hx.ew
     have e0 : a'.tmps[0]?.getD undef = _ := hs 0 rfl
     simp only [aL, aS, aZ] at e0
     refine .inl ⟨rfl, ?_⟩
     clear hs hd hx
     go_simp
     exact ⟨Ext.refl _ _, rfl⟩
    ·refine .inl ⟨by decide, by decide, ?_⟩
     intro a' w' hx hs hd
     obtain ⟨y, rfl⟩ := hx.ew
     have e49 : a'.tmps[49]?.getD undef = _ := hd 1 49 rfl rfl
     refine .inl ⟨rfl, ?_⟩
     clear hs hd hx
     go_simp
     exact ⟨Ext.refl _ _, rfl⟩
    ·refine .inl ⟨by decide, by decide, ?_⟩
     intro a' w' hx hs hd
     obtain ⟨y, rfl⟩ := hx.ew
     have e50 : a'.tmps[50]?.getD undef = _ := hd 2 50 rfl rfl
     refine .inl ⟨rfl, ?_⟩
     clear hs hd hx
     go_simp
     exact ⟨Ext.refl _ _, rfl⟩
    ·refine .inl ⟨by decide, by decide, ?_⟩
     intro a' w' hx hs hd
     obtain ⟨y, rfl⟩ := hx.ew
     have e51 : a'.tmps[51]?.getD undef = _ := hd 3 51 rfl rfl
     refine .inl ⟨rfl, ?_⟩
     clear hs hd hx
     go_simp
     exact ⟨Ext.refl _ _, rfl⟩
    ·refine .inl ⟨by decide, by decide, ?_⟩
     intro a' w' hx hs hd
     obtain ⟨y, rfl⟩ := hx.ew
     have e1 : a'.tmps[1]?.getD undef = _ := hs 1 rfl
     simp only [aL, aS, aZ] at e1
     refine .inl ⟨rfl, ?_⟩
     clear hs hd hx
     go_simp
     exact ⟨Ext.refl _ _, rfl⟩
    ·refine .inr (.inl ⟨rfl, ?_⟩)
     intro a' w' hx hst hs hd
     obtain ⟨y, rfl⟩ := hx.ew
     have e53 : a'.tmps[53]?.getD undef = _ := hd 5 53 rfl rfl
     refine ⟨rfl, ?_⟩
     clear hs hd hx
     go_simp
     exact (CN.out _ hst).mono (fun e w'' ⟨he, hx, hr⟩ => ⟨_, he, hx, rfl, hr⟩)
    ·refine .inl ⟨by decide, by decide, ?_⟩
     intro a' w' hx hs hd
     obtain ⟨y, rfl⟩ := hx.ew
     obtain ⟨e54, hR3⟩ : a'.tmps[54]?.getD undef = .int .i64 num ∧ RdG y.on rb (rsN g.next T4 (i + 1)) := hd 6 54 rfl rfl
     refine .inl ⟨rfl, ?_⟩
     clear hs hd hx
     go_simp
     exact ⟨(Ext.refl _ _).alloc _, _, rfl, y.ext.size, Bx.newAt _ _ _ _ rfl⟩
    ·refine .inr (.inr ⟨rfl, ?_⟩)
     intro a' w' hx hst hs hd
     obtain ⟨y, rfl⟩ := hx.ew
     have e52 : a'.tmps[52]?.getD undef = _ := hd 4 52 rfl rfl
     obtain ⟨k4, e55, hk4, hB4⟩ : ∃ k, a'.tmps[55]?.getD undef = .slice (some ⟨k, 0, none⟩) 1 1 ∧ wj.heap.size ≤ k ∧ Bx y.on k [.int .i64 num] 3 := hd 7 55 rfl rfl
     refine ⟨rfl, ?_⟩
     clear hs hd hx
     exact rel_append_row _ _ 22 rfl B' 3 1 8 _ Tryz.underlying22 info_intG (by rfl) (by omega) (by omega) v i row ((eval_tmp _ _).trans e52) hst k4 _ _ ((eval_tmp _ _).trans e55) hB4 rfl (by intro u hu; simp at hu; subst hu; rfl) (by omega) (by have := y.ext.size; omega) (fun v' w' x o r => ⟨v', rfl, by rw [NSV.out]; exact o, fun k hk => (r k hk).imp id (fun z => Nat.le_trans y.ext.size z)⟩)
    ·refine .inl ⟨by decide, by decide, ?_⟩
     intro a' w' hx hs hd
     obtain ⟨y, rfl⟩ := hx.ew
     have e48 : a'.tmps[48]?.getD undef = _ := hd 0 48 rfl rfl
     refine .inl ⟨rfl, ?_⟩
     clear hs hd hx
     go_simp
     exact ⟨Ext.refl _ _, rfl⟩
    ·refine .inl ⟨by decide, by decide, ?_⟩
     intro a' w' hx hs hd
     obtain ⟨y, rfl⟩ := hx.ew
     have e57 : a'.tmps[57]?.getD undef = _ := hd 9 57 rfl rfl
     refine .inl ⟨rfl, ?_⟩
     clear hs hd hx
     go_simp
     exact ⟨Ext.refl _ _, rfl⟩
   case ma9 => exact ⟨.inr (Mo.is_still _ _), .inr (Mo.is_still _ _), .inr (Mo.is_still _ _), .inr (Mo.is_still _ _), .inr (Mo.is_still _ _), .inr (Mo.is_still _ _), .inl rfl, .inr (moOne_still HR1.out), .inr (moRow_still HR1.out HR3.out), .inr (Mo.is_still _ _), .inr (Mo.is_still _ _), trivial⟩
   case mb9 => exact ⟨.inr (Mo.is_still _ _), .inr (Mo.is_still _ _), .inr (Mo.is_still _ _), .inr (Mo.is_still _ _), .inr (Mo.is_still _ _), .inr (Mo.is_still _ _), .inr (moSt_still (fun _ _ x h => RdG.ext h x HRB.out)), .inr (moOne_still HR2.out), .inl rfl, .inr (Mo.is_still _ _), .inr (Mo.is_still _ _), trivial⟩
   case' q9 =>
    intro vs w' hx hRR
    obtain ⟨x9, rfl⟩ := hx.ew
    have q0 : vs 0 = _ := hRR 0 (by decide)
    have q1 : vs 1 = _ := hRR 1 (by decide)
    have q2 : vs 2 = _ := hRR 2 (by decide)
    have q3 : vs 3 = _ := hRR 3 (by decide)
    have q4 : vs 4 = _ := hRR 4 (by decide)
    have q5 : vs 5 = _ := hRR 5 (by decide)
    obtain ⟨q6, hR3⟩ : vs 6 = .int .i64 num ∧ RdG x9.on rb (rsN g.next T4 (i + 1)) := hRR 6 (by decide)
    obtain ⟨k4, q7, hk4, hB4⟩ : ∃ k, vs 7 = .slice (some ⟨k, 0, none⟩) 1 1 ∧ wj.heap.size ≤ k ∧ Bx x9.on k [.int .i64 num] 3 := hRR 7 (by decide)
    obtain ⟨u5, q8, hO5, hr5⟩ : ∃ u, vs 8 = u ∧ x9.on.ownsRow B' 3 1 u (i + 1) row2 ∧ ∀ k, Row u k → Row v k ∨ wj.heap.size ≤ k := hRR 8 (by decide)
    have q9 : vs 9 = _ := hRR 9 (by decide)
    have q10 : vs 10 = _ := hRR 10 (by decide)
    clear hRR hx
    simp only [putAll, List.take_succ_cons, List.take_zero, List.drop_succ_cons, List.drop_zero, Act.put, List.setIfInBounds_toArray, List.set_cons_zero, List.set_cons_succ, Nat.reduceAdd, Nat.zero_add]
    simp only [q0, q1, q2, q3, q4, q5, q6, q7, q8, q9, q10]
    clear q0 q1 q2 q3 q4 q5 q6 q7 q8 q9 q10 vs
   obtain ⟨ua, uc, hus⟩ := row_slice hO5
   subst hus
   have nofoot : ∀ j, j ≠ rb → j < B' → ¬ Or2 (One rb) (Row v) j := fun j hj hl q => by rcases q with q | q; exact hj q; have := (HRVj.out j q).1; omega
   have HB9 := hI_ (HBj.out.ext x9.ext (nofoot _ HNE.out.1 HL6.out.1))
   have HM9 := hI_ (HMj.out.ext x9.ext (nofoot _ HNE.out.2.1 HL6.out.2.2.1))
   have I9 := hI_ (Ij.out.ext x9.ext (fun k o e => nofoot k (fun q => by have := (Fj.out k o e).1; have := HLT.out; omega) (HL6.out.2.2.2 k o e)))
   have F9 : Hid (fresh n2 x9.on a1) := hI_ (fun k o e => ⟨(Fj.out k o e).1, by
    obtain ⟨h1, vs, fr, hh⟩ := Fj.out k o e
    exact ⟨vs, fr, (x9.ext.block k (Array.getElem?_eq_some_iff.1 hh).1 (nofoot k (fun q => by have := HLT.out; omega) (HL6.out.2.2.2 k o e))).trans hh⟩⟩)
   have XZ9 := hI_ (XZj.out.step x9.ext (fun j hj q => by rcases q with q | q; exact .inr (.inr q); have := (HRVj.out j q).1; have := HLW.out; omega))
   have HS9 : Hid (B' ≤ x9.on.heap.size) := hI_ (Nat.le_trans HSj.out x9.ext.size)
   have HR9 := hI_ hR3; have HO9 := hI_ hO5
   have HU5 : Hid (¬ Row (.slice ua (i + 1) uc) b) := hI_ (fun q => by rcases hr5 b q with z | z; rw [n2'] at z; exact z; have := HL6.out; omega)
   clear hR3 hO5 hk4 hB4 hr5 n1 n2' q1 nofoot HBj HMj Ij Fj XZj HWj ROWj
   generalize x9.on = w9 at *
   have p1 : w9.cell? ⟨b, 2, none⟩ = some v := HB9.out.cell rfl
   have f1 : w9.frozen? ⟨b, 2, none⟩ = false := froz_of_heap HB9.out.h
   go_wp2_with fail
   have X1 : Ext (One b) w9 (w9.setCell ⟨b, 2, none⟩ (.slice ua (i + 1) uc)) := (Ext.refl _ _).set1 _
   have HM1 : Hid (q - 1 = N - (i + 1)) := hI_ (by have := HQ.out; omega)
   rw [HM1.out]
   go_roundg (N - (i + 1))
   case measure => have := HG.out; omega
   case rel => exact ⟨i + 1, .slice ua (i + 1) uc, hlt, rfl, rfl, hI_ (HR9.out.ext X1 (fun q => HNE.out.1 q.symm)), hI_ (HB9.out.set (j := 2) (.slice ua (i + 1) uc)), hI_ (HM9.out.ext X1 (fun q => HNE.out.2.2 q.symm)), hI_ (by rw [← HRW2.out]; exact ownR_ext HO9.out X1 (fun k hk hs => by have hs : k = b := hs; subst hs; exact HU5.out hk)), hI_ (I9.out.ext X1 (fun k o e q => by have q : k = b := q; have := (F9.out k o e).1; have := HLT.out; omega)), hI_ (fresh_up F9.out X1 (fun k hk q => by have q : k = b := q; have := HLT.out; omega)), hI_ (XZ9.out.trans (X1.mono (fun k _ q => .inl q))), hI_ (Nat.le_trans HS9.out X1.size)⟩
  ·obtain rfl : i = N := by omega
   have hro : wr.ownsRow B' 3 1 v g.next.length (g.next.map (Value.int .i64)) := by rw [← TA.out, ← HN.out]; exact ROW.out
   obtain ⟨a2, c2, rfl, hI2, hf2⟩ := ints_own hro HX64.out
   have I2i := hI_ hI2; have F2i := hI_ hf2
   clear hro hI2 hf2 ROW KL KN TM TA
   have hz0 : i - i = 0 := by omega
   rw [hz0]
   clear hz0
   go_wp2_with fail
   refine (K4.out _ HWi.out).mono ?_
   rintro e w1 ⟨rfl, x2, hR⟩
   have HB1 := hI_ (HBi.out.ext x2 (fun q => HNE.out.1 q)); have HM1 := hI_ (HMi.out.ext x2 (fun q => HNE.out.2.1 q))
   have I1 := hI_ (Ii.out.ext x2 (fun k o e q => by have q : k = rb := q; have := (Fi.out k o e).1; have := HLT.out; omega))
   have F1 := hI_ (fresh_up Fi.out x2 (fun k hk q => by have q : k = rb := q; have := HLT.out; omega))
   have J1 := hI_ (I2i.out.ext x2 (fun k o e q => by have q : k = rb := q; have := (F2i.out k o e).1; have := HL6.out; omega))
   have G1 := hI_ (fresh_up F2i.out x2 (fun k hk q => by have q : k = rb := q; have := HL6.out; omega))
   have Z1 := hI_ (XZ.out.trans (x2.mono (fun k _ q => .inr (.inr q))))
   have R1 := hI_ hR
   clear x2 hR HWi HBi HMi Ii Fi I2i F2i XZ HSi
   have b3 : w1.cell? ⟨b, 3, none⟩ = some (.int .i64 0) := HB1.out.cell rfl
   have z3 : w1.frozen? ⟨b, 3, none⟩ = false := froz_of_heap HB1.out.h
   go_upto_region 11 with fail
   have Y : Ext (One b) w1 (w1.setCell ⟨b, 3, none⟩ (.int .i64 g.done)) := (Ext.refl _ _).set1 _
   have HB2 : Hid (Bx _ b (rowR g.epoch (.slice a1 g.mem.length c1) (.slice a2 g.next.length c2) g.done m) 64) := hI_ (HB1.out.set (j := 3) (.int .i64 g.done))
   have HM2 := hI_ (HM1.out.ext Y (fun q => HNE.out.2.2 q.symm))
   have I2 := hI_ (I1.out.ext Y (fun k o e q => by have q : k = b := q; have := (F1.out k o e).1; have := HLT.out; omega))
   have F2 := hI_ (fresh_up F1.out Y (fun k hk q => by have q : k = b := q; have := HLT.out; omega))
   have J2 := hI_ (J1.out.ext Y (fun k o e q => by have q : k = b := q; have := (G1.out k o e).1; have := HL6.out; omega))
   have G2 := hI_ (fresh_up G1.out Y (fun k hk q => by have q : k = b := q; have := HL6.out; omega))
   have Z2 := hI_ (Z1.out.trans (Y.mono (fun k _ q => .inl q)))
   have R2 := hI_ (R1.out.ext Y (fun q => HNE.out.1 q.symm))
   clear Y HB1 HM1 I1 F1 J1 G1 Z1 R1 b3 z3
   generalize w1.setCell ⟨b, 3, none⟩ (.int .i64 g.done) = w2 at *
   clear w1
   have KR : Hid (∀ w', Ext Non w2 w' → Calls Tryz.prog 16 #[.agg #[.int .i64 0, .slice a2 g.next.length c2]] w' fun e w'' => e = .returned (.bool true) ∧ Ext Non w' w'') := hI_ (fun w' x => by
    have := council_Right 0 a2 c2 g.next w' (J2.out.extN x)
    rw [show confB 0 g.next = true by unfold confB; rw [HMN.out]; rfl] at this
    exact this)
   have t0 : w2.cell? ⟨b, 0, none⟩ = some (.int .i64 g.epoch) := HB2.out.cell rfl
   have t2 : w2.cell? ⟨b, 2, none⟩ = some (.slice a2 g.next.length c2) := HB2.out.cell rfl
   have t3 : w2.cell? ⟨b, 3, none⟩ = some (.int .i64 g.done) := HB2.out.cell rfl
   have v1 : IntKind.i64.wrap (g.epoch * 4) = g.epoch * 4 := IntWalk.i64_in _ (by omega)
   have v2 : IntKind.i64.wrap (g.epoch + 1) = g.epoch + 1 := IntWalk.i64_in _ (by omega)
   have v3 : IntKind.i64.wrap ((g.epoch + 1) * 4) = (g.epoch + 1) * 4 := IntWalk.i64_in _ (by omega)
   have e1 : decide (g.done < g.epoch * 4) = false := decide_eq_false (by omega)
   have e2 : decide ((g.epoch + 1) * 4 < g.done) = false := decide_eq_false (by omega)
   apply wp_region_rel (relR [Mo.is _, Mo.is _, Mo.is _, Mo.is _, Mo.is _, Mo.is _, Mo.is _, Mo.is _, Mo.is _, Mo.is _, Mo.is _, Mo.is _, Mo.is _, Mo.is _, Mo.is _, Mo.is _, Mo.is _, Mo.is _, Mo.is _, Mo.is _, Mo.is _, Mo.is _, Mo.is _, Mo.is _, Mo.is _, Mo.is _, Mo.is _, Mo.is _, Mo.is _, Mo.is _, Mo.is _, Mo.is _]) (by kernel_rfl) (by kernel_rfl) (by kernel_rfl) (relR_mono _) (StepD.all ?st10) ?q10
   case st10 =>
    refine ⟨?_, ?_, ?_, ?_, ?_, ?_, ?_, ?_, ?_, ?_, ?_, ?_, ?_, ?_, ?_, ?_, ?_, ?_, ?_, ?_, ?_, ?_, ?_, ?_, ?_, ?_, ?_, ?_, ?_, ?_, ?_, ?_, trivial⟩
    ·intro a' w' hx hs hd
     obtain ⟨y, rfl⟩ := hx.ew
     have e0 : a'.tmps[0]?.getD undef = _ := hs 0 rfl
     simp only [aL, aS, aZ] at e0
     refine .inl ⟨rfl, ?_⟩
     clear hs hd hx
     go_simp
     exact ⟨Ext.refl _ _, rfl⟩
    ·intro a' w' hx hs hd
     obtain ⟨y, rfl⟩ := hx.ew
     have e64 : a'.tmps[64]?.getD undef = _ := hd 0 64 rfl rfl
     refine .inl ⟨rfl, ?_⟩
     clear hs hd hx
     go_simp
     exact ⟨Ext.refl _ _, rfl⟩
    ·intro a' w' hx hs hd
     obtain ⟨y, rfl⟩ := hx.ew
     have e65 : a'.tmps[65]?.getD undef = _ := hd 1 65 rfl rfl
     refine .inl ⟨rfl, ?_⟩
     clear hs hd hx
     go_simp
     exact ⟨Ext.refl _ _, rfl⟩
    ·intro a' w' hx hs hd
     obtain ⟨y, rfl⟩ := hx.ew
     have e66 : a'.tmps[66]?.getD undef = _ := hd 2 66 rfl rfl
     refine .inl ⟨rfl, ?_⟩
     clear hs hd hx
     go_simp
     exact ⟨Ext.refl _ _, rfl⟩
    ·intro a' w' hx hs hd
     obtain ⟨y, rfl⟩ := hx.ew
     have e67 : a'.tmps[67]?.getD undef = _ := hd 3 67 rfl rfl
     refine .inl ⟨rfl, ?_⟩
     clear hs hd hx
     go_simp
     exact ⟨Ext.refl _ _, rfl⟩
    ·intro a' w' hx hs hd
     obtain ⟨y, rfl⟩ := hx.ew
     have e68 : a'.tmps[68]?.getD undef = _ := hd 4 68 rfl rfl
     refine .inl ⟨rfl, ?_⟩
     clear hs hd hx
     go_simp
     exact (KR.out _ (exG0)).mono (fun e w'' ⟨he, hx⟩ => ⟨_, he, hx, rfl⟩)
    ·intro a' w' hx hs hd
     obtain ⟨y, rfl⟩ := hx.ew
     have e69 : a'.tmps[69]?.getD undef = _ := hd 5 69 rfl rfl
     refine .inl ⟨rfl, ?_⟩
     clear hs hd hx
     go_simp
     exact ⟨Ext.refl _ _, rfl⟩
    ·intro a' w' hx hs hd
     obtain ⟨y, rfl⟩ := hx.ew
     have e70 : a'.tmps[70]?.getD undef = _ := hd 6 70 rfl rfl
     refine .inl ⟨rfl, ?_⟩
     clear hs hd hx
     go_simp
     exact ⟨Ext.refl _ _, rfl⟩
    ·intro a' w' hx hs hd
     obtain ⟨y, rfl⟩ := hx.ew
     have eg : a'.tmps[71]?.getD undef = _ := hd 7 71 rfl rfl
     first
     | exact unA 7 71 eg
     | (have e0 : a'.tmps[0]?.getD undef = _ := hs 0 rfl; simp only [aL, aS, aZ] at e0; refine .inl ⟨wanted_of (j := 7) (d := 71) rfl rfl eg, ?_⟩; clear hs hd hx eg; go_simp; exact ⟨Ext.refl _ _, rfl⟩)
    ·intro a' w' hx hs hd
     obtain ⟨y, rfl⟩ := hx.ew
     have eg : a'.tmps[71]?.getD undef = _ := hd 7 71 rfl rfl
     first
     | exact unA 7 71 eg
     | (have e72 : a'.tmps[72]?.getD undef = _ := hd 8 72 rfl rfl; refine .inl ⟨wanted_of (j := 7) (d := 71) rfl rfl eg, ?_⟩; clear hs hd hx eg; go_simp; exact ⟨Ext.refl _ _, rfl⟩)
    ·intro a' w' hx hs hd
     obtain ⟨y, rfl⟩ := hx.ew
     have eg : a'.tmps[71]?.getD undef = _ := hd 7 71 rfl rfl
     first
     | exact unA 7 71 eg
     | (have e73 : a'.tmps[73]?.getD undef = _ := hd 9 73 rfl rfl; refine .inl ⟨wanted_of (j := 7) (d := 71) rfl rfl eg, ?_⟩; clear hs hd hx eg; go_simp; exact ⟨Ext.refl _ _, rfl⟩)
    ·intro a' w' hx hs hd
     obtain ⟨y, rfl⟩ := hx.ew
     have eg : a'.tmps[71]?.getD undef = _ := hd 7 71 rfl rfl
     first
     | exact unA 7 71 eg
     | (have e74 : a'.tmps[74]?.getD undef = _ := hd 10 74 rfl rfl; refine .inl ⟨wanted_of (j := 7) (d := 71) rfl rfl eg, ?_⟩; clear hs hd hx eg; go_simp; exact ⟨Ext.refl _ _, rfl⟩)
    ·intro a' w' hx hs hd
     obtain ⟨y, rfl⟩ := hx.ew
     have eg : a'.tmps[71]?.getD undef = _ := hd 7 71 rfl rfl
     first
     | exact unA 7 71 eg
     | (have e0 : a'.tmps[0]?.getD undef = _ := hs 0 rfl; simp only [aL, aS, aZ] at e0; refine .inl ⟨wanted_of (j := 7) (d := 71) rfl rfl eg, ?_⟩; clear hs hd hx eg; go_simp; exact ⟨Ext.refl _ _, rfl⟩)
    ·intro a' w' hx hs hd
     obtain ⟨y, rfl⟩ := hx.ew
     have eg : a'.tmps[71]?.getD undef = _ := hd 7 71 rfl rfl
     first
     | exact unA 7 71 eg
     | (have e76 : a'.tmps[76]?.getD undef = _ := hd 12 76 rfl rfl; refine .inl ⟨wanted_of (j := 7) (d := 71) rfl rfl eg, ?_⟩; clear hs hd hx eg; go_simp; exact ⟨Ext.refl _ _, rfl⟩)
    ·intro a' w' hx hs hd
     obtain ⟨y, rfl⟩ := hx.ew
     have eg : a'.tmps[71]?.getD undef = _ := hd 7 71 rfl rfl
     first
     | exact unA 7 71 eg
     | (have e77 : a'.tmps[77]?.getD undef = _ := hd 13 77 rfl rfl; refine .inl ⟨wanted_of (j := 7) (d := 71) rfl rfl eg, ?_⟩; clear hs hd hx eg; go_simp; exact ⟨Ext.refl _ _, rfl⟩)
    ·intro a' w' hx hs hd
     obtain ⟨y, rfl⟩ := hx.ew
     have eg : a'.tmps[71]?.getD undef = _ := hd 7 71 rfl rfl
     first
     | exact unA 7 71 eg
     | (have e78 : a'.tmps[78]?.getD undef = _ := hd 14 78 rfl rfl; refine .inl ⟨wanted_of (j := 7) (d := 71) rfl rfl eg, ?_⟩; clear hs hd hx eg; go_simp; exact ⟨Ext.refl _ _, rfl⟩)
    ·intro a' w' hx hs hd
     obtain ⟨y, rfl⟩ := hx.ew
     have eg : a'.tmps[71]?.getD undef = _ := hd 7 71 rfl rfl
     first
     | exact unA 7 71 eg
     | (have e79 : a'.tmps[79]?.getD undef = _ := hd 15 79 rfl rfl; refine .inl ⟨wanted_of (j := 7) (d := 71) rfl rfl eg, ?_⟩; clear hs hd hx eg; go_simp; exact ⟨Ext.refl _ _, rfl⟩)
    ·intro a' w' hx hs hd
     obtain ⟨y, rfl⟩ := hx.ew
     have eg : a'.tmps[71]?.getD undef = _ := hd 7 71 rfl rfl
     first
     | exact unA 7 71 eg
     | (have e75 : a'.tmps[75]?.getD undef = _ := hd 11 75 rfl rfl; have e80 : a'.tmps[80]?.getD undef = _ := hd 16 80 rfl rfl; refine .inl ⟨wanted_of (j := 7) (d := 71) rfl rfl eg, ?_⟩; clear hs hd hx eg; go_simp; exact ⟨Ext.refl _ _, rfl⟩)
    ·intro a' w' hx hs hd
     obtain ⟨y, rfl⟩ := hx.ew
     have e71 : a'.tmps[71]?.getD undef = _ := hd 7 71 rfl rfl
     have e81 : a'.tmps[81]?.getD undef = _ := hd 17 81 rfl rfl
     refine .inl ⟨rfl, ?_⟩
     clear hs hd hx
     go_simp
     exact ⟨Ext.refl _ _, rfl⟩
    ·intro a' w' hx hs hd
     obtain ⟨y, rfl⟩ := hx.ew
     have e82 : a'.tmps[82]?.getD undef = _ := hd 18 82 rfl rfl
     refine .inl ⟨rfl, ?_⟩
     clear hs hd hx
     go_simp
     exact ⟨Ext.refl _ _, rfl⟩
    ·intro a' w' hx hs hd
     obtain ⟨y, rfl⟩ := hx.ew
     have eg : a'.tmps[83]?.getD undef = _ := hd 19 83 rfl rfl
     first
     | exact unA 19 83 eg
     | (have e0 : a'.tmps[0]?.getD undef = _ := hs 0 rfl; simp only [aL, aS, aZ] at e0; refine .inl ⟨wanted_of (j := 19) (d := 83) rfl rfl eg, ?_⟩; clear hs hd hx eg; go_simp; exact ⟨Ext.refl _ _, rfl⟩)
    ·intro a' w' hx hs hd
     obtain ⟨y, rfl⟩ := hx.ew
     have eg : a'.tmps[83]?.getD undef = _ := hd 19 83 rfl rfl
     first
     | exact unA 19 83 eg
     | (have e84 : a'.tmps[84]?.getD undef = _ := hd 20 84 rfl rfl; refine .inl ⟨wanted_of (j := 19) (d := 83) rfl rfl eg, ?_⟩; clear hs hd hx eg; go_simp; exact ⟨Ext.refl _ _, rfl⟩)
    ·intro a' w' hx hs hd
     obtain ⟨y, rfl⟩ := hx.ew
     have eg : a'.tmps[83]?.getD undef = _ := hd 19 83 rfl rfl
     first
     | exact unA 19 83 eg
     | (have e85 : a'.tmps[85]?.getD undef = _ := hd 21 85 rfl rfl; refine .inl ⟨wanted_of (j := 19) (d := 83) rfl rfl eg, ?_⟩; clear hs hd hx eg; go_simp; exact ⟨Ext.refl _ _, rfl⟩)
    ·intro a' w' hx hs hd
     obtain ⟨y, rfl⟩ := hx.ew
     have eg : a'.tmps[83]?.getD undef = _ := hd 19 83 rfl rfl
     first
     | exact unA 19 83 eg
     | (have e86 : a'.tmps[86]?.getD undef = _ := hd 22 86 rfl rfl; refine .inl ⟨wanted_of (j := 19) (d := 83) rfl rfl eg, ?_⟩; clear hs hd hx eg; go_simp; exact ⟨Ext.refl _ _, rfl⟩)
    ·intro a' w' hx hs hd
     obtain ⟨y, rfl⟩ := hx.ew
     have eg : a'.tmps[83]?.getD undef = _ := hd 19 83 rfl rfl
     first
     | exact unA 19 83 eg
     | (have e0 : a'.tmps[0]?.getD undef = _ := hs 0 rfl; simp only [aL, aS, aZ] at e0; refine .inl ⟨wanted_of (j := 19) (d := 83) rfl rfl eg, ?_⟩; clear hs hd hx eg; go_simp; exact ⟨Ext.refl _ _, rfl⟩)
    ·intro a' w' hx hs hd
     obtain ⟨y, rfl⟩ := hx.ew
     have eg : a'.tmps[83]?.getD undef = _ := hd 19 83 rfl rfl
     first
     | exact unA 19 83 eg
     | (have e88 : a'.tmps[88]?.getD undef = _ := hd 24 88 rfl rfl; refine .inl ⟨wanted_of (j := 19) (d := 83) rfl rfl eg, ?_⟩; clear hs hd hx eg; go_simp; exact ⟨Ext.refl _ _, rfl⟩)
    ·intro a' w' hx hs hd
     obtain ⟨y, rfl⟩ := hx.ew
     have eg : a'.tmps[83]?.getD undef = _ := hd 19 83 rfl rfl
     first
     | exact unA 19 83 eg
     | (have e89 : a'.tmps[89]?.getD undef = _ := hd 25 89 rfl rfl; refine .inl ⟨wanted_of (j := 19) (d := 83) rfl rfl eg, ?_⟩; clear hs hd hx eg; go_simp; exact ⟨Ext.refl _ _, rfl⟩)
    ·intro a' w' hx hs hd
     obtain ⟨y, rfl⟩ := hx.ew
     have eg : a'.tmps[83]?.getD undef = _ := hd 19 83 rfl rfl
     first
     | exact unA 19 83 eg
     | (have e90 : a'.tmps[90]?.getD undef = _ := hd 26 90 rfl rfl; refine .inl ⟨wanted_of (j := 19) (d := 83) rfl rfl eg, ?_⟩; clear hs hd hx eg; go_simp; exact ⟨Ext.refl _ _, rfl⟩)
    ·intro a' w' hx hs hd
     obtain ⟨y, rfl⟩ := hx.ew
     have eg : a'.tmps[83]?.getD undef = _ := hd 19 83 rfl rfl
     first
     | exact unA 19 83 eg
     | (have e91 : a'.tmps[91]?.getD undef = _ := hd 27 91 rfl rfl; refine .inl ⟨wanted_of (j := 19) (d := 83) rfl rfl eg, ?_⟩; clear hs hd hx eg; go_simp; exact ⟨Ext.refl _ _, rfl⟩)
    ·intro a' w' hx hs hd
     obtain ⟨y, rfl⟩ := hx.ew
     have eg : a'.tmps[83]?.getD undef = _ := hd 19 83 rfl rfl
     first
     | exact unA 19 83 eg
     | (have e92 : a'.tmps[92]?.getD undef = _ := hd 28 92 rfl rfl; refine .inl ⟨wanted_of (j := 19) (d := 83) rfl rfl eg, ?_⟩; clear hs hd hx eg; go_simp; exact ⟨Ext.refl _ _, rfl⟩)
    ·intro a' w' hx hs hd
     obtain ⟨y, rfl⟩ := hx.ew
     have eg : a'.tmps[83]?.getD undef = _ := hd 19 83 rfl rfl
     first
     | exact unA 19 83 eg
     | (have e87 : a'.tmps[87]?.getD undef = _ := hd 23 87 rfl rfl; have e93 : a'.tmps[93]?.getD undef = _ := hd 29 93 rfl rfl; refine .inl ⟨wanted_of (j := 19) (d := 83) rfl rfl eg, ?_⟩; clear hs hd hx eg; go_simp; exact ⟨Ext.refl _ _, rfl⟩)
    ·intro a' w' hx hs hd
     obtain ⟨y, rfl⟩ := hx.ew
     have e83 : a'.tmps[83]?.getD undef = _ := hd 19 83 rfl rfl
     have e94 : a'.tmps[94]?.getD undef = _ := hd 30 94 rfl rfl
     refine .inl ⟨rfl, ?_⟩
     clear hs hd hx
     go_simp
     exact ⟨Ext.refl _ _, rfl⟩
   case' q10 =>
    intro vs w' hx hRR
    obtain ⟨x3, rfl⟩ := hx.ew
    have q0 : vs 0 = _ := hRR 0 (by decide)
    have q1 : vs 1 = _ := hRR 1 (by decide)
    have q2 : vs 2 = _ := hRR 2 (by decide)
    have q3 : vs 3 = _ := hRR 3 (by decide)
    have q4 : vs 4 = _ := hRR 4 (by decide)
    have q5 : vs 5 = _ := hRR 5 (by decide)
    have q6 : vs 6 = _ := hRR 6 (by decide)
    have q7 : vs 7 = _ := hRR 7 (by decide)
    have q8 : vs 8 = _ := hRR 8 (by decide)
    have q9 : vs 9 = _ := hRR 9 (by decide)
    have q10 : vs 10 = _ := hRR 10 (by decide)
    have q11 : vs 11 = _ := hRR 11 (by decide)
    have q12 : vs 12 = _ := hRR 12 (by decide)
    have q13 : vs 13 = _ := hRR 13 (by decide)
    have q14 : vs 14 = _ := hRR 14 (by decide)
    have q15 : vs 15 = _ := hRR 15 (by decide)
    have q16 : vs 16 = _ := hRR 16 (by decide)
    have q17 : vs 17 = _ := hRR 17 (by decide)
    have q18 : vs 18 = _ := hRR 18 (by decide)
    have q19 : vs 19 = _ := hRR 19 (by decide)
    have q20 : vs 20 = _ := hRR 20 (by decide)
    have q21 : vs 21 = _ := hRR 21 (by decide)
    have q22 : vs 22 = _ := hRR 22 (by decide)
    have q23 : vs 23 = _ := hRR 23 (by decide)
    have q24 : vs 24 = _ := hRR 24 (by decide)
    have q25 : vs 25 = _ := hRR 25 (by decide)
    have q26 : vs 26 = _ := hRR 26 (by decide)
    have q27 : vs 27 = _ := hRR 27 (by decide)
    have q28 : vs 28 = _ := hRR 28 (by decide)
    have q29 : vs 29 = _ := hRR 29 (by decide)
    have q30 : vs 30 = _ := hRR 30 (by decide)
    have q31 : vs 31 = _ := hRR 31 (by decide)
    clear hRR hx
    simp only [putAll, List.take_succ_cons, List.take_zero, List.drop_succ_cons, List.drop_zero, Act.put, List.setIfInBounds_toArray, List.set_cons_zero, List.set_cons_succ, Nat.reduceAdd, Nat.zero_add]
    simp only [q0, q1, q2, q3, q4, q5, q6, q7, q8, q9, q10, q11, q12, q13, q14, q15, q16, q17, q18, q19, q20, q21, q22, q23, q24, q25, q26, q27, q28, q29, q30, q31]
    clear q0 q1 q2 q3 q4 q5 q6 q7 q8 q9 q10 q11 q12 q13 q14 q15 q16 q17 q18 q19 q20 q21 q22 q23 q24 q25 q26 q27 q28 q29 q30 q31 vs
   have HB3 := hI_ (HB2.out.extN x3.ext); have HM3 := hI_ (HM2.out.ext x3.ext (fun f => f)); have I3 := hI_ (I2.out.extN x3.ext); have F3 := hI_ (fresh_up F2.out x3.ext (fun _ _ f => f)); have J3 := hI_ (J2.out.extN x3.ext); have G3 := hI_ (fresh_up G2.out x3.ext (fun _ _ f => f)); have Z3 := hI_ (Z2.out.trans x3.ext.ofNon); have R3 := hI_ (R2.out.extN x3.ext)
   clear HB2 HM2 I2 F2 J2 G2 Z2 R2 t0 t2 t3 v1 v2 v3 e1 e2 KR
   generalize x3.on = w3 at *
   go_wp2_with fail
   refine (K5.out _ R3.out).mono ?_
   rintro e w4 ⟨rfl, x2, hR⟩
   have HB4 := hI_ (HB3.out.ext x2 (fun q => HNE.out.1 q)); have HM4 := hI_ (HM3.out.ext x2 (fun q => HNE.out.2.1 q))
   have I4 := hI_ (I3.out.ext x2 (fun k o e q => by have q : k = rb := q; have := (F3.out k o e).1; have := HLT.out; omega))
   have F4 := hI_ (fresh_up F3.out x2 (fun k hk q => by have q : k = rb := q; have := HLT.out; omega))
   have J4 := hI_ (J3.out.ext x2 (fun k o e q => by have q : k = rb := q; have := (G3.out k o e).1; have := HL6.out; omega))
   have G4 := hI_ (fresh_up G3.out x2 (fun k hk q => by have q : k = rb := q; have := HL6.out; omega))
   have Z4 := hI_ (Z3.out.trans (x2.mono (fun k _ q => .inr (.inr q))))
   have R4 := hI_ hR
   clear x2 hR HB3 HM3 I3 F3 J3 G3 Z3 R3 K4 K5
   obtain ⟨M, hM⟩ : ∃ M, M = sk.length := ⟨_, rfl⟩
   have HMM := hI_ hM
   rw [← hM] at hkl KEND ⊢
   clear hM
   have dM : decide (16 < M) = false := decide_eq_false (by omega)
   have dM' : decide ((16 : Int) < (M : Int)) = false := decide_eq_false (by omega)
   go_wp2_with fail
   go_loopg [10, 11, 12, 101] M (fun n v10 v11 v12 iv wr => ∃ (i : Nat), i ≤ M ∧ n = M - i ∧ iv = .int .i64 i ∧ Hid (RdG wr rb (rsK sk C i)) ∧ Hid (Bx wr b (rowR g.epoch (.slice a1 g.mem.length c1) (.slice a2 g.next.length c2) g.done m) 64) ∧ Hid (MapW wr m (sk.take i)) ∧ Hid (Ints wr a1 c1 g.mem) ∧ Hid (fresh n2 wr a1) ∧ Hid (Ints wr a2 c2 g.next) ∧ Hid (fresh B' wr a2) ∧ Hid (Ext (fun k => k = b ∨ k = m ∨ k = rb) w wr))
   case atStart => exact ⟨0, Nat.zero_le _, rfl, rfl, R4, HB4, HM4, I4, F4, J4, G4, Z4⟩
   case round =>
    obtain ⟨i2, hi2, hn, rfl, HWi, HBi, HMi, Ii, Fi, Ji, Gi, ZZ⟩ := hrel
    have HG2 := hI_ hn; clear hn
    clear R4 HB4 HM4 I4 F4 J4 G4 Z4
    by_cases hlt : i2 < M
    ·have hix : i2 < sk.length := by have := HMM.out; omega
     have HS1 := hI_ (HSET.out i2 hix)
     have KA := hI_ (fun w' h => K6.out i2 w' hix h)
     have KB := hI_ (fun w' h => K7.out i2 w' hix h)
     have KC := hI_ (fun w' => K8.out i2 w' hix)
     obtain ⟨k1, k16, x64, xc⟩ := HKB.out _ (List.getElem_mem hix)
     generalize (sk[i2]).1 = key at *
     generalize (sk[i2]).2 = xv at *
     have hke : ¬ key.toList = [] := fun h => by have := (toList_nil key).1 h; omega
     have hke2 : key.toList.isEmpty = false := by
      cases h : key.toList.isEmpty
      ·rfl
      ·exact absurd (List.isEmpty_iff.1 h) hke
     have hk16 : decide (16 < key.size) = false := decide_eq_false (by omega)
     have hk16' : decide ((16 : Int) < (key.size : Int)) = false := decide_eq_false (by omega)
     clear k1 k16 x64 xc hix
     go_wp2_with fail
     refine (KA.out _ HWi.out).mono ?_
     rintro e w7 ⟨rfl, x2, hR⟩
     have HB7 := hI_ (HBi.out.ext x2 (fun q => HNE.out.1 q)); have HM7 := hI_ (HMi.out.ext x2 (fun q => HNE.out.2.1 q))
     have I7 := hI_ (Ii.out.ext x2 (fun k o e q => by have q : k = rb := q; have := (Fi.out k o e).1; have := HLT.out; omega))
     have F7 := hI_ (fresh_up Fi.out x2 (fun k hk q => by have q : k = rb := q; have := HLT.out; omega))
     have J7 := hI_ (Ji.out.ext x2 (fun k o e q => by have q : k = rb := q; have := (Gi.out k o e).1; have := HL6.out; omega))
     have G7 := hI_ (fresh_up Gi.out x2 (fun k hk q => by have q : k = rb := q; have := HL6.out; omega))
     have Z7 := hI_ (ZZ.out.trans (x2.mono (fun k _ q => .inr (.inr q))))
     have R7 := hI_ hR
     clear x2 hR HBi HMi Ii Fi Ji Gi ZZ HWi KA
     go_wp2_with fail
     refine (KB.out _ R7.out).mono ?_
     rintro e w8 ⟨rfl, x2, hR⟩
     have HB8 := hI_ (HB7.out.ext x2 (fun q => HNE.out.1 q)); have HM8 := hI_ (HM7.out.ext x2 (fun q => HNE.out.2.1 q))
     have I8 := hI_ (I7.out.ext x2 (fun k o e q => by have q : k = rb := q; have := (F7.out k o e).1; have := HLT.out; omega))
     have F8 := hI_ (fresh_up F7.out x2 (fun k hk q => by have q : k = rb := q; have := HLT.out; omega))
     have J8 := hI_ (J7.out.ext x2 (fun k o e q => by have q : k = rb := q; have := (G7.out k o e).1; have := HL6.out; omega))
     have G8 := hI_ (fresh_up G7.out x2 (fun k hk q => by have q : k = rb := q; have := HL6.out; omega))
     have Z8 := hI_ (Z7.out.trans (x2.mono (fun k _ q => .inr (.inr q))))
     have R8 := hI_ hR
     clear x2 hR HB7 HM7 I7 F7 J7 G7 Z7 R7 KB
     go_wp2_with fail
     refine (KC.out _).mono ?_
     rintro e _ ⟨rfl, rfl⟩
     obtain ⟨w9, hu, hM9, x9⟩ := HM8.out.update Tryz.underlying59 Tryz.underlying9 key xv
     rw [HS1.out] at hM9
     have b4 : w8.cell? ⟨b, 4, none⟩ = some (.map (some m)) := HB8.out.cell rfl
     have HM9 := hI_ hM9
     have HB9 := hI_ (HB8.out.ext x9 (fun q => HNE.out.2.2 q))
     have I9 := hI_ (I8.out.ext x9 (fun k o e q => by have q : k = m := q; have := (F8.out k o e).1; have := HLT.out; omega))
     have F9 := hI_ (fresh_up F8.out x9 (fun k hk q => by have q : k = m := q; have := HLT.out; omega))
     have J9 := hI_ (J8.out.ext x9 (fun k o e q => by have q : k = m := q; have := (G8.out k o e).1; have := HL6.out; omega))
     have G9 := hI_ (fresh_up G8.out x9 (fun k hk q => by have q : k = m := q; have := HL6.out; omega))
     have Z9 := hI_ (Z8.out.trans (x9.mono (fun k _ q => .inr (.inl q))))
     have R9 := hI_ (R8.out.ext x9 (fun q => HNE.out.2.1 q.symm))
     clear x9 hM9 HB8 HM8 I8 F8 J8 G8 Z8 R8 KC
     go_wp2_with fail
     go_roundg (M - (i2 + 1))
     case measure => have := HG2.out; omega
     case rel => exact ⟨i2 + 1, hlt, rfl, by go_num, R9, HB9, HM9, I9, F9, J9, G9, Z9⟩
    ·obtain rfl : i2 = M := by omega
     rw [KEND.out] at HWi
     have HMf : Hid (MapW wr m sk) := hI_ (by have := HMi.out; rw [HMM.out, List.take_length] at this; exact this)
     have hlen := HMf.out.len Tryz.underlying59 3
     rw [← HMM.out] at hlen
     have b4 : wr.cell? ⟨b, 4, none⟩ = some (.map (some m)) := HBi.out.cell rfl
     have HH : Hid (LD wr b m ⟨g.epoch, g.mem, g.next, g.done, sk, clO⟩) := hI_ ⟨⟨a1, c1, a2, c2, HBi.out.h, Ii.out, Ji.out, fun k o e => (Fi.out k o e).2, fun k o e => (Gi.out k o e).2⟩, HMf.out⟩
     have KF := hI_ (readClients_ok b m rb ⟨g.epoch, g.mem, g.next, g.done, sk, clO⟩ g.cl (fun i => HI.out.cb i) HNE.out.1 HNE.out.2.1 wr HH.out HWi.out)
     go_wp2_with fail
     refine KF.out.mono ?_
     rintro e w9 ⟨rfl, x9, hL⟩
     go_wp2
     go_returns
     rw [← HSK.out]
     exact ⟨rfl, ZZ.out.trans (x9.mono (fun k _ q => by rcases q with q | q; exact .inl q; exact .inr (.inr q))), hL⟩
end Go.Proofs.YtfefeepljbfcdaaGreat
