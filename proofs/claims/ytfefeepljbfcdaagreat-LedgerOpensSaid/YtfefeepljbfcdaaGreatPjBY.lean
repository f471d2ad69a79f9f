/- Joined texts: Plays12. What each proves stands at its head; no conditions beside those in its theorems. -/
import Derived.Deep.MidRow
import Derived.Deep.WholeRow
import Derived.Shelf.SlMaps.Clone
import Derived.Test.YtfefeepljbfcdaaGreatPjAZ
import Derived.Test.YtfefeepljbfcdaaGreatPjBX
/- The law LedgerPlays: a step on both; the walk. -/
namespace Go.Proofs.YtfefeepljbfcdaaGreat
open Go.RowKit Go.Lib F64
set_option linter.unusedSimpArgs false
set_option linter.unusedVariables false
attribute [local go_sem] run_store_float
attribute [local go_sem low] EW.cellN EW.frozN alloc_cell_or alloc_froz_or EW.cellF EW.frozF EW.cell1 EW.froz1
attribute [local go_sem] relAt relUpon
theorem bx_ledg {w : World} {b m : Nat} {g : Lg} (h : LD w b m g) {k : Nat} {vs : List Value} {t : TypeId} (hb : Bx w k vs t) (ht : t ≠ 64) : ¬ Two b m k := by
 obtain ⟨_, _, _, _, h1, _⟩ := h.ex
 obtain ⟨_, _, h2, _⟩ := h.mp.ex
 rintro (rfl | rfl)
 ·rw [hb.h] at h1; injection h1 with h1; injection h1 with _ h1 _; exact ht h1
 ·rw [hb.h] at h2; injection h2 with h2; cases h2
theorem RL.two {w w' : World} {b m rl sb rb : Nat} {g g' : Lg} (h : RL w rl sb rb g) (l : LD w b m g') (x : Ext (Two b m) w w') : RL w' rl sb rb g := by
 obtain ⟨a1, c1, a2, c2, v, h1, h2, h3, h4, h5, h6⟩ := h.ex
 have n1 : ∀ {n a}, avT n w a → ∀ k o, a = some ⟨k, o, none⟩ → ¬ Two b m k := fun {n a} h k o e q => by
  obtain ⟨-, vs, fr, hh⟩ := h k o e
  exact l.noInts k q vs fr hh
 have iE : ∀ {n a c xs}, Ints w a c xs → avT n w a → Ints w' a c xs := fun {n a c xs} hi ha => hi.extT (fun k o e => (ha k o e).2) x l.noInts
 refine ⟨⟨a1, c1, a2, c2, v, h1.ext x (bx_ledg l h1 (by decide)), iE h2 h4, iE h3 h5, h4.ext x (n1 h4), h5.ext x (n1 h5), ownR_ext h6 x (fun k e q => ?_)⟩, h.st.ext x (bx_ledg l h.st (by decide)), h.rs.ext x (bx_ledg l h.rs (by decide)), h.nd⟩
 rcases h6.2 with ⟨rfl, _⟩ | ⟨g2, cap, cur, rfl, _, hg, _⟩
 ·cases e
 ·have e1 : g2 = k := by simpa [Value.ownBlock] using e
  subst e1
  obtain ⟨_, _, _, _, z1, _⟩ := l.ex
  obtain ⟨_, _, z2, _⟩ := l.mp.ex
  rcases q with rfl | rfl
  ·rw [hg] at z1; injection z1 with z1; injection z1 with _ z1 _; exact absurd z1 (by decide)
  ·rw [hg] at z2; injection z2 with z2; cases z2
theorem Z.LD.tri {w w' : World} {b m rl sb rb : Nat} {g g' : Lg} (l : Z.LD sb w b m g) (h : RL w rl sb rb g') (x : Ext (Tri rl sb rb) w w') : Z.LD sb w' b m g := by
 obtain ⟨a1, c1, a2, c2, hh, i1, i2, f1, f2⟩ := l.ex
 obtain ⟨_, _, _, _, _, hb, -⟩ := h.ex
 have n2 : ∀ k, Two b m k → ¬ Tri rl sb rb k := fun k q t => by
  rcases t with rfl | rfl | rfl
  ·exact bx_ledg l.to hb (by decide) q
  ·exact bx_ledg l.to h.st (by decide) q
  ·exact bx_ledg l.to h.rs (by decide) q
 have n1 : ∀ {a}, Z.intZ sb w a → ∀ k o, a = some ⟨k, o, none⟩ → ¬ Tri rl sb rb k := fun {a} ha k o e t => by
  obtain ⟨hne, vs, fr, h3⟩ := ha k o e
  rcases t with rfl | rfl | rfl
  ·rw [hb.h] at h3; injection h3 with h3; injection h3 with _ h3 _; exact absurd h3 (by decide)
  ·exact hne rfl
  ·rw [h.rs.h] at h3; injection h3 with h3; injection h3 with _ h3 _; exact absurd h3 (by decide)
 have zE : ∀ {a}, Z.intZ sb w a → Z.intZ sb w' a := fun {a} ha k o e => by
  obtain ⟨hne, vs, fr, h3⟩ := ha k o e
  exact ⟨hne, vs, fr, (x.block k (Array.getElem?_eq_some_iff.1 h3).1 (n1 ha k o e)).trans h3⟩
 exact ⟨⟨a1, c1, a2, c2, (x.block b l.to.lt (n2 b (.inl rfl))).trans hh, i1.ext x (n1 f1), i2.ext x (n1 f2), zE f1, zE f2⟩, l.mp.ext x (n2 m (.inr rfl)), Nat.lt_of_lt_of_le l.zlt x.size⟩
def Five (b m rl sb rb : Nat) : Nat → Prop := fun k => Two b m k ∨ Tri rl sb rb k
set_option maxHeartbeats 2000000 in
set_option maxRecDepth 100000 in
theorem law12_step (b m rl sb rb : Nat) (g : Lg) (I : Inv g) (tn : Bool) (c s k : Int) (key : ByteArray) (n id : Int) (hc : I64 c) (hs : I64 s) (hk : I64 k) (hid : I64 id) (hn : n.toNat < 18446744073709551616) (w : World) (l : Z.LD sb w b m g) (h : RL w rl sb rb g) :
  Calls Tryz.prog 8 #[.pointer (some ⟨b, 0, none⟩), .pointer (some ⟨rl, 0, none⟩), .agg #[.bool tn, .int .i64 c, .int .i64 s, .int .i64 k, .string key, .int .u64 n, .int .i64 id]] w fun e w' =>
   ∃ g', e = .returned (.bool true) ∧ Inv g' ∧ Z.LD sb w' b m g' ∧ RL w' rl sb rb g' ∧ Ext (Five b m rl sb rb) w w' := by
 have II := hI_ I; have HL := hI_ l; have HR := hI_ h
 have hlb := l.to.lt; have hlm := l.mp.lt; have hlr := h.lt
 have HLT := hI_ (And.intro hlb (And.intro hlm hlr))
 have H4 := hI_ (And.intro hc (And.intro hs (And.intro hk hid)))
 have HN := hI_ hn
 clear I l h hlb hlm hlr hc hs hk hid hn
 have X0 : Ext Non w (w.alloc (.cells #[.bool tn, .int .i64 c, .int .i64 s, .int .i64 k, .string key, .int .u64 n, .int .i64 id] 39)) := (Ext.refl _ _).alloc _
 cases tn
 ·have B0 := hI_ (Bx.newAt w [.bool false, .int .i64 c, .int .i64 s, .int .i64 k, .string key, .int .u64 n, .int .i64 id] 39 _ rfl)
  go_enter Tryz.func8, Tryz.ntmps8
  go_wp2_with fail
  refine Calls.ew (ask_Request c s k key n id _) ?_
  rintro e x1 rfl
  have HL1 := hI_ (HL.out.extN (exG0 : Ext Non w x1.on))
  have HR1 := hI_ (HR.out.extN (exG0 : Ext Non w x1.on))
  have B1 := hI_ (B0.out.extN x1.ext)
  have HX1 := hI_ (exG0 : Ext Non w x1.on)
  have ID := hI_ (inv_do II.out ⟨c, s, ⟨k, key, n.toNat, id⟩⟩ HN.out).1
  go_wp2_with fail
  refine (Z.ledger_Do b m g II.out c s k key n.toNat id H4.out.1 H4.out.2.1 H4.out.2.2.1 H4.out.2.2.2 HN.out _ HL1.out).mono ?_
  rintro e w2 ⟨rfl, hx2, hL2⟩
  have HR2 := hI_ (HR1.out.two HL1.out.to hx2)
  have HL2 := hI_ hL2
  have B2 := hI_ (B1.out.ext hx2 (fun q => by have := HLT.out; rcases q with q | q <;> omega))
  have X2 := hI_ (HX1.out.ofNon.trans (hx2.mono (fun k _ q => (.inl q : Five b m rl sb rb k))))
  clear hx2 hL2 HL1 HR1 B1 B0
  obtain ⟨cd, hcd⟩ : ∃ cd, cd = (doR g ⟨c, s, ⟨k, key, n.toNat, id⟩⟩).code := ⟨_, rfl⟩
  obtain ⟨re, hre⟩ : ∃ re, re = (doR g ⟨c, s, ⟨k, key, n.toNat, id⟩⟩).real := ⟨_, rfl⟩
  obtain ⟨de, hde⟩ : ∃ de, de = doE g ⟨c, s, ⟨k, key, n.toNat, id⟩⟩ := ⟨_, rfl⟩
  have CD : Hid (∀ w', RL w' rl sb rb g → Calls Tryz.prog 22 #[.pointer (some ⟨rl, 0, none⟩), .agg #[.int .i64 c, .int .i64 s, .int .i64 k, .string key, .float .f64 n.toNat, .int .i64 id]] w' fun e w'' => e = .returned (.tuple #[.agg #[.int .i64 cd, .float .f64 re], .int .i64 de]) ∧ Ext (Tri rl sb rb) w' w'' ∧ RL w'' rl sb rb (doL g ⟨c, s, ⟨k, key, n.toNat, id⟩⟩)) := hI_ (fun w' hr => by rw [hcd, hre, hde]; exact ref12_Do rl sb rb g II.out c s k key n.toNat id HN.out w' hr)
  rw [← hcd, ← hre, ← hde]
  clear hcd hre hde
  generalize doL g ⟨c, s, ⟨k, key, n.toNat, id⟩⟩ = g2 at *
  clear HX1 x1 X0
  go_upto_region 4 with (refine wpList_store_box rfl 48 _ _ rfl w2.heap.size _ [.int .i64 cd, .float .f64 re] _ rfl rfl (Bx.newAt _ _ _ _ rfl) rfl info_result2 (by simp [Value.oneCell']) (fun W hB => ?_); have BX := hI_ hB; clear hB)
  have XW : Ext Non w2 W.on := exG0
  obtain ⟨x3, hx3⟩ := XW.ew
  rw [hx3] at BX ⊢
  clear hx3 XW W
  try simp only [Act.put]
  have hkx : w.heap.size ≤ w2.heap.size := X2.out.size
  have hkx2 : w2.heap.size < x3.on.heap.size := BX.out.lt
  have hkb : w.heap.size < w2.heap.size := B2.out.lt
  generalize hks : w2.heap.size = kx at BX hkx hkx2 hkb ⊢
  have HKS := hI_ hks; clear hks
  have b1 : w2.cell? ⟨w.heap.size, 1, none⟩ = some (.int .i64 c) := B2.out.cell rfl
  have b2 : w2.cell? ⟨w.heap.size, 2, none⟩ = some (.int .i64 s) := B2.out.cell rfl
  have b3 : w2.cell? ⟨w.heap.size, 3, none⟩ = some (.int .i64 k) := B2.out.cell rfl
  have b4 : w2.cell? ⟨w.heap.size, 4, none⟩ = some (.string key) := B2.out.cell rfl
  have b5 : w2.cell? ⟨w.heap.size, 5, none⟩ = some (.int .u64 n) := B2.out.cell rfl
  have b6 : w2.cell? ⟨w.heap.size, 6, none⟩ = some (.int .i64 id) := B2.out.cell rfl
  go_wp2_with fail
  refine Calls.ew (ask_Request c s k key n id _) ?_
  rintro e x4 rfl
  have HX4 := hI_ (exG0 : Ext Non w2 x4.on)
  have BX4 := hI_ (BX.out.extN (exG0 : Ext Non x3.on x4.on))
  have HL4 := hI_ (HL2.out.extN HX4.out)
  have HR4 := hI_ (HR2.out.extN HX4.out)
  go_wp2_with fail
  refine (CD.out _ HR4.out).mono ?_
  rintro e w5 ⟨rfl, hx5, hR5⟩
  have HL5 := hI_ (HL4.out.tri HR4.out hx5)
  have HR5 := hI_ hR5
  have BX5 := hI_ (BX4.out.ext hx5 (fun q => by have := HLT.out; rcases q with q | q | q <;> omega))
  have X5 := hI_ ((X2.out.trans HX4.out.ofNon).trans (hx5.mono (fun k _ q => (.inr q : Five b m rl sb rb k))))
  clear hx5 hR5 HL4 HR4 BX4 BX B2 HL2 HR2 b1 b2 b3 b4 b5 b6 HX4
  clear hkx2 x4 x3
  go_upto_region 5 with (refine wpList_store_box rfl 48 _ _ rfl w5.heap.size _ [.int .i64 cd, .float .f64 re] _ rfl rfl (Bx.newAt _ _ _ _ rfl) rfl info_result2 (by simp [Value.oneCell']) (fun W hB => ?_); have BY := hI_ hB; clear hB)
  have XW : Ext Non w5 W.on := exG0
  obtain ⟨x6, hx6⟩ := XW.ew
  rw [hx6] at BY ⊢
  clear hx6 XW W
  try simp only [Act.put]
  have BX6 := hI_ (BX5.out.extN x6.ext)
  generalize w5.heap.size = ky at BY ⊢
  have z0 : x6.on.cell? ⟨kx, 0, none⟩ = some (.int .i64 cd) := BX6.out.cell rfl
  have z1 : x6.on.cell? ⟨kx, 1, none⟩ = some (.float .f64 re) := BX6.out.cell rfl
  have y0 : x6.on.cell? ⟨ky, 0, none⟩ = some (.int .i64 cd) := BY.out.cell rfl
  have y1 : x6.on.cell? ⟨ky, 1, none⟩ = some (.float .f64 re) := BY.out.cell rfl
  go_wp2_with fail
  refine Calls.ew (same_res cd re _) ?_
  rintro e x7 rfl
  go_wp2
  go_ret
  have XE : Ext Non w5 x7.on := exG0
  exact ⟨g2, rfl, ID.out, HL5.out.extN XE, HR5.out.extN XE, X5.out.trans XE.ofNon⟩
 ·go_enter Tryz.func8, Tryz.ntmps8
  have HL1 := hI_ (HL.out.extN X0)
  have HR1 := hI_ (HR.out.extN X0)
  have HX1 := hI_ X0
  clear X0
  go_wp2_with fail
  refine (Z.ledger_Turn b m g II.out _ HL1.out).mono ?_
  rintro e w2 ⟨rfl, hx2, hL2⟩
  have hxT : Ext (Two b m) _ w2 := hx2.mono (fun k _ q => (.inl q : Two b m k))
  have HR2 := hI_ (HR1.out.two HL1.out.to hxT)
  have HL2 := hI_ hL2
  have X2 := hI_ (HX1.out.ofNon.trans (hxT.mono (fun k _ q => (.inl q : Five b m rl sb rb k))))
  clear hx2 hL2 hxT
  go_wp2_with fail
  refine (ref12_Turn rl sb rb g II.out _ HR2.out).mono ?_
  rintro e w3 ⟨rfl, hx3, hR3⟩
  have hxT : Ext (Tri rl sb rb) _ w3 := hx3.mono (fun k _ q => (.inl q : Tri rl sb rb k))
  have HL3 := hI_ (HL2.out.tri HR2.out hxT)
  have HR3 := hI_ hR3
  have X3 := hI_ (X2.out.trans (hxT.mono (fun k _ q => (.inr q : Five b m rl sb rb k))))
  clear hx3 hR3 hxT
  generalize turnE g = te at *
  go_wp2
  go_ret
  exact ⟨turnL g, by simp, inv_turn II.out, HL3.out, HR3.out, X3.out⟩
end Go.Proofs.YtfefeepljbfcdaaGreat
