/- Joined texts: Plays12. What each proves stands at its head; no conditions beside those in its theorems. -/
import Derived.Deep.MidRow
import Derived.Deep.WholeRow
import Derived.Shelf.SlMaps.Clone
import Derived.Test.YtfefeepljbfcdaaGreatPjAD
import Derived.Test.YtfefeepljbfcdaaGreatPjAA
import Derived.Test.YtfefeepljbfcdaaGreatPjAB
import Derived.Test.YtfefeepljbfcdaaGreatPjAG
import Derived.Test.YtfefeepljbfcdaaGreatPjAO
import Derived.Test.YtfefeepljbfcdaaGreatPjAP
import Derived.Test.YtfefeepljbfcdaaGreatPjAH
import Derived.Test.YtfefeepljbfcdaaGreatPjAI
import Derived.Test.YtfefeepljbfcdaaGreatPjAE
import Derived.Test.YtfefeepljbfcdaaGreatPjAJ
import Derived.Test.YtfefeepljbfcdaaGreatPjAT
import Derived.Test.YtfefeepljbfcdaaGreatPjAU
import Derived.Test.YtfefeepljbfcdaaGreatPjAV
import Derived.Test.YtfefeepljbfcdaaGreatPjAW
import Derived.Test.YtfefeepljbfcdaaGreatPjAX
import Derived.Test.YtfefeepljbfcdaaGreatPjAY
import Derived.Test.YtfefeepljbfcdaaGreatPjAZ
import Derived.Test.YtfefeepljbfcdaaGreatPjAC
import Derived.Test.YtfefeepljbfcdaaGreatPjAL
import Derived.Test.YtfefeepljbfcdaaGreatPjAM
import Derived.Test.YtfefeepljbfcdaaGreatPjAN
import Derived.Test.YtfefeepljbfcdaaGreatPjAQ
import Derived.Test.YtfefeepljbfcdaaGreatPjAS
import Derived.Test.YtfefeepljbfcdaaGreatPjBA
import Derived.Test.YtfefeepljbfcdaaGreatPjBO
import Derived.Test.YtfefeepljbfcdaaGreatPjAK
import Derived.Test.YtfefeepljbfcdaaGreatPjAF
import Derived.Test.YtfefeepljbfcdaaGreatPjBH
import Derived.Test.YtfefeepljbfcdaaGreatPjAR
import Derived.Test.YtfefeepljbfcdaaGreatPjBG
import Derived.Test.YtfefeepljbfcdaaGreatPjBI
import Derived.Test.YtfefeepljbfcdaaGreatPjBJ
import Derived.Test.YtfefeepljbfcdaaGreatPjBP
import Derived.Test.YtfefeepljbfcdaaGreatPjBQ
import Derived.Test.YtfefeepljbfcdaaGreatPjBK
import Derived.Test.YtfefeepljbfcdaaGreatPjBL
import Derived.Test.YtfefeepljbfcdaaGreatPjBE
import Derived.Test.YtfefeepljbfcdaaGreatPjBM
import Derived.Test.YtfefeepljbfcdaaGreatPjBN
import Derived.Test.YtfefeepljbfcdaaGreatPjBB
import Derived.Test.YtfefeepljbfcdaaGreatPjBC
import Derived.Test.YtfefeepljbfcdaaGreatPjBD
import Derived.Test.YtfefeepljbfcdaaGreatPjBR
import Derived.Test.YtfefeepljbfcdaaGreatPjBF
/- The law LedgerPlays: a step on both; the walk. -/
namespace Go.Proofs.YtfefeepljbfcdaaGreat
open Go.RowKit Go.Lib F64
set_option linter.unusedSimpArgs false
set_option linter.unusedVariables false
attribute [local go_sem] run_store_float
attribute [local go_sem low] EW.cellN EW.frozN alloc_cell_or alloc_froz_or EW.cellF EW.frozF EW.cell1 EW.froz1
attribute [local go_sem] relAt relUpon
theorem bx_ledg {w : World} {b m : Nat} {g : Lg} (h : LD w b m g) {k : Nat} {vs : List Value} {t : TypeId} (hb : Bx w k vs t) (ht : t ≠ 64) : ¬ Two b m k := by
  obtain ⟨_, _, _, _, h1, _⟩ := h.ex
  obtain ⟨_, _, h2, _⟩ := h.mp.ex
  rintro (rfl | rfl)
  · rw [hb.h] at h1; injection h1 with h1; injection h1 with _ h1 _; exact ht h1
  · rw [hb.h] at h2; injection h2 with h2; cases h2
/-- What the ledger writes does not touch the reference's. -/
theorem RL.two {w w' : World} {b m rl sb rb : Nat} {g g' : Lg} (h : RL w rl sb rb g) (l : LD w b m g') (x : Ext (Two b m) w w') : RL w' rl sb rb g := by
  obtain ⟨a1, c1, a2, c2, v, h1, h2, h3, h4, h5, h6⟩ := h.ex
  have n1 : ∀ {n a}, avT n w a → ∀ k o, a = some ⟨k, o, none⟩ → ¬ Two b m k := fun {n a} h k o e q => by
    obtain ⟨-, vs, fr, hh⟩ := h k o e
    exact l.noInts k q vs fr hh
  have iE : ∀ {n a c xs}, Ints w a c xs → avT n w a → Ints w' a c xs := fun {n a c xs} hi ha => hi.extT (fun k o e => (ha k o e).2) x l.noInts
  refine ⟨⟨a1, c1, a2, c2, v, h1.ext x (bx_ledg l h1 (by decide)), iE h2 h4, iE h3 h5, h4.ext x (n1 h4), h5.ext x (n1 h5), ownR_ext h6 x (fun k e q => ?_)⟩, h.st.ext x (bx_ledg l h.st (by decide)), h.rs.ext x (bx_ledg l h.rs (by decide)), h.nd⟩
  rcases h6.2 with ⟨rfl, _⟩ | ⟨g2, cap, cur, rfl, _, hg, _⟩
  · cases e
  · have e1 : g2 = k := by simpa [Value.ownBlock] using e
    subst e1
    obtain ⟨_, _, _, _, z1, _⟩ := l.ex
    obtain ⟨_, _, z2, _⟩ := l.mp.ex
    rcases q with rfl | rfl
    · rw [hg] at z1; injection z1 with z1; injection z1 with _ z1 _; exact absurd z1 (by decide)
    · rw [hg] at z2; injection z2 with z2; cases z2
/-- What the reference's writes does not touch the ledger's. -/
theorem Z.LD.tri {w w' : World} {b m rl sb rb : Nat} {g g' : Lg} (l : Z.LD sb w b m g) (h : RL w rl sb rb g') (x : Ext (Tri rl sb rb) w w') : Z.LD sb w' b m g := by
  obtain ⟨a1, c1, a2, c2, hh, i1, i2, f1, f2⟩ := l.ex
  obtain ⟨_, _, _, _, _, hb, -⟩ := h.ex
  have n2 : ∀ k, Two b m k → ¬ Tri rl sb rb k := fun k q t => by
    rcases t with rfl | rfl | rfl
    · exact bx_ledg l.to hb (by decide) q
    · exact bx_ledg l.to h.st (by decide) q
    · exact bx_ledg l.to h.rs (by decide) q
  have n1 : ∀ {a}, Z.intZ sb w a → ∀ k o, a = some ⟨k, o, none⟩ → ¬ Tri rl sb rb k := fun {a} ha k o e t => by
    obtain ⟨hne, vs, fr, h3⟩ := ha k o e
    rcases t with rfl | rfl | rfl
    · rw [hb.h] at h3; injection h3 with h3; injection h3 with _ h3 _; exact absurd h3 (by decide)
    · exact hne rfl
    · rw [h.rs.h] at h3; injection h3 with h3; injection h3 with _ h3 _; exact absurd h3 (by decide)
  have zE : ∀ {a}, Z.intZ sb w a → Z.intZ sb w' a := fun {a} ha k o e => by
    obtain ⟨hne, vs, fr, h3⟩ := ha k o e
    exact ⟨hne, vs, fr, (x.block k (Array.getElem?_eq_some_iff.1 h3).1 (n1 ha k o e)).trans h3⟩
  exact ⟨⟨a1, c1, a2, c2, (x.block b l.to.lt (n2 b (.inl rfl))).trans hh, i1.ext x (n1 f1), i2.ext x (n1 f2), zE f1, zE f2⟩, l.mp.ext x (n2 m (.inr rfl)), Nat.lt_of_lt_of_le l.zlt x.size⟩
/-- What both write. -/
def Five (b m rl sb rb : Nat) : Nat → Prop := fun k => Two b m k ∨ Tri rl sb rb k
set_option maxHeartbeats 2000000 in
set_option maxRecDepth 100000 in
theorem law12_step (b m rl sb rb : Nat) (g : Lg) (I : Inv g) (tn : Bool) (c s k : Int) (key : ByteArray) (n id : Int) (hc : I64 c) (hs : I64 s) (hk : I64 k) (hid : I64 id) (hn : n.toNat < 18446744073709551616) (w : World) (l : Z.LD sb w b m g) (h : RL w rl sb rb g) :
    Calls Tryz.prog 8 #[.pointer (some ⟨b, 0, none⟩), .pointer (some ⟨rl, 0, none⟩), .agg #[.bool tn, .int .i64 c, .int .i64 s, .int .i64 k, .string key, .int .u64 n, .int .i64 id]] w fun e w' =>
      ∃ g', e = .returned (.bool true) ∧ Inv g' ∧ Z.LD sb w' b m g' ∧ RL w' rl sb rb g' ∧ Ext (Five b m rl sb rb) w w' := by
  have II := Go.Lib.hid I; have HL := Go.Lib.hid l; have HR := Go.Lib.hid h
  have hlb := l.to.lt; have hlm := l.mp.lt; have hlr := h.lt
  have HLT := Go.Lib.hid (And.intro hlb (And.intro hlm hlr))
  have H4 := Go.Lib.hid (And.intro hc (And.intro hs (And.intro hk hid)))
  have HN := Go.Lib.hid hn
  clear I l h hlb hlm hlr hc hs hk hid hn
  have X0 : Ext Non w (w.alloc (.cells #[.bool tn, .int .i64 c, .int .i64 s, .int .i64 k, .string key, .int .u64 n, .int .i64 id] 39)) := (Ext.refl _ _).alloc _
  cases tn
  · have B0 := Go.Lib.hid (Bx.newAt w [.bool false, .int .i64 c, .int .i64 s, .int .i64 k, .string key, .int .u64 n, .int .i64 id] 39 _ rfl)
    go_enter Tryz.func8, Tryz.ntmps8
    go_wp2_with fail
    refine Calls.ew (ask_Request c s k key n id _) ?_
    rintro e x1 rfl
    have HL1 := Go.Lib.hid (HL.out.extN (by (repeat (first | with_reducible (first | exact Ext.refl _ _ | assumption | refine Ext.upN ?_ | refine Ext.alloc ?_ _ | refine Ext.drew ?_ | refine Ext.drewN ?_ _ | refine Ext.up1N (by first | omega | simp) ?_) | refine Ext.alloc ?_ _ | refine Ext.setCell ?_ (.inr (by first | omega | simp)) _)) : Ext Non w x1.on))
    have HR1 := Go.Lib.hid (HR.out.extN (by (repeat (first | with_reducible (first | exact Ext.refl _ _ | assumption | refine Ext.upN ?_ | refine Ext.alloc ?_ _ | refine Ext.drew ?_ | refine Ext.drewN ?_ _ | refine Ext.up1N (by first | omega | simp) ?_) | refine Ext.alloc ?_ _ | refine Ext.setCell ?_ (.inr (by first | omega | simp)) _)) : Ext Non w x1.on))
    have B1 := Go.Lib.hid (B0.out.extN x1.ext)
    have HX1 := Go.Lib.hid (by (repeat (first | with_reducible (first | exact Ext.refl _ _ | assumption | refine Ext.upN ?_ | refine Ext.alloc ?_ _ | refine Ext.drew ?_ | refine Ext.drewN ?_ _ | refine Ext.up1N (by first | omega | simp) ?_) | refine Ext.alloc ?_ _ | refine Ext.setCell ?_ (.inr (by first | omega | simp)) _)) : Ext Non w x1.on)
    have ID := Go.Lib.hid (inv_do II.out ⟨c, s, ⟨k, key, n.toNat, id⟩⟩ HN.out).1
    go_wp2_with fail
    refine (Z.ledger_Do b m g II.out c s k key n.toNat id H4.out.1 H4.out.2.1 H4.out.2.2.1 H4.out.2.2.2 HN.out _ HL1.out).mono ?_
    rintro e w2 ⟨rfl, hx2, hL2⟩
    have HR2 := Go.Lib.hid (HR1.out.two HL1.out.to hx2)
    have HL2 := Go.Lib.hid hL2
    have B2 := Go.Lib.hid (B1.out.ext hx2 (fun q => by have := HLT.out; rcases q with q | q <;> omega))
    have X2 := Go.Lib.hid (HX1.out.ofNon.trans (hx2.mono (fun k _ q => (.inl q : Five b m rl sb rb k))))
    clear hx2 hL2 HL1 HR1 B1 B0
    obtain ⟨cd, hcd⟩ : ∃ cd, cd = (doR g ⟨c, s, ⟨k, key, n.toNat, id⟩⟩).code := ⟨_, rfl⟩
    obtain ⟨re, hre⟩ : ∃ re, re = (doR g ⟨c, s, ⟨k, key, n.toNat, id⟩⟩).real := ⟨_, rfl⟩
    obtain ⟨de, hde⟩ : ∃ de, de = doE g ⟨c, s, ⟨k, key, n.toNat, id⟩⟩ := ⟨_, rfl⟩
    have CD : Hid (∀ w', RL w' rl sb rb g → Calls Tryz.prog 22 #[.pointer (some ⟨rl, 0, none⟩), .agg #[.int .i64 c, .int .i64 s, .int .i64 k, .string key, .float .f64 n.toNat, .int .i64 id]] w' fun e w'' => e = .returned (.tuple #[.agg #[.int .i64 cd, .float .f64 re], .int .i64 de]) ∧ Ext (Tri rl sb rb) w' w'' ∧ RL w'' rl sb rb (doL g ⟨c, s, ⟨k, key, n.toNat, id⟩⟩)) := Go.Lib.hid (fun w' hr => by rw [hcd, hre, hde]; exact ref12_Do rl sb rb g II.out c s k key n.toNat id HN.out w' hr)
    rw [← hcd, ← hre, ← hde]
    clear hcd hre hde
    generalize doL g ⟨c, s, ⟨k, key, n.toNat, id⟩⟩ = g2 at *
    clear HX1 x1 X0
    go_upto_region 4 with (refine wpList_store_box rfl 48 _ _ rfl w2.heap.size _ [.int .i64 cd, .float .f64 re] _ rfl rfl (Bx.newAt _ _ _ _ rfl) rfl info_result2 (by simp [Value.oneCell']) (fun W hB => ?_); have BX := Go.Lib.hid hB; clear hB)
    have XW : Ext Non w2 W.on := by (repeat (first | with_reducible (first | exact Ext.refl _ _ | assumption | refine Ext.upN ?_ | refine Ext.alloc ?_ _ | refine Ext.drew ?_ | refine Ext.drewN ?_ _ | refine Ext.up1N (by first | omega | simp) ?_) | refine Ext.alloc ?_ _ | refine Ext.setCell ?_ (.inr (by first | omega | simp)) _))
    obtain ⟨x3, hx3⟩ := XW.ew
    rw [hx3] at BX ⊢
    clear hx3 XW W
    try simp only [Act.put]
    have hkx : w.heap.size ≤ w2.heap.size := X2.out.size
    have hkx2 : w2.heap.size < x3.on.heap.size := BX.out.lt
    have hkb : w.heap.size < w2.heap.size := B2.out.lt
    generalize hks : w2.heap.size = kx at BX hkx hkx2 hkb ⊢
    have HKS := Go.Lib.hid hks; clear hks
    have b1 : w2.cell? ⟨w.heap.size, 1, none⟩ = some (.int .i64 c) := B2.out.cell rfl
    have b2 : w2.cell? ⟨w.heap.size, 2, none⟩ = some (.int .i64 s) := B2.out.cell rfl
    have b3 : w2.cell? ⟨w.heap.size, 3, none⟩ = some (.int .i64 k) := B2.out.cell rfl
    have b4 : w2.cell? ⟨w.heap.size, 4, none⟩ = some (.string key) := B2.out.cell rfl
    have b5 : w2.cell? ⟨w.heap.size, 5, none⟩ = some (.int .u64 n) := B2.out.cell rfl
    have b6 : w2.cell? ⟨w.heap.size, 6, none⟩ = some (.int .i64 id) := B2.out.cell rfl
    go_wp2_with fail
    refine Calls.ew (ask_Request c s k key n id _) ?_
    rintro e x4 rfl
    have HX4 := Go.Lib.hid (by (repeat (first | with_reducible (first | exact Ext.refl _ _ | assumption | refine Ext.upN ?_ | refine Ext.alloc ?_ _ | refine Ext.drew ?_ | refine Ext.drewN ?_ _ | refine Ext.up1N (by first | omega | simp) ?_) | refine Ext.alloc ?_ _ | refine Ext.setCell ?_ (.inr (by first | omega | simp)) _)) : Ext Non w2 x4.on)
    have BX4 := Go.Lib.hid (BX.out.extN (by (repeat (first | with_reducible (first | exact Ext.refl _ _ | assumption | refine Ext.upN ?_ | refine Ext.alloc ?_ _ | refine Ext.drew ?_ | refine Ext.drewN ?_ _ | refine Ext.up1N (by first | omega | simp) ?_) | refine Ext.alloc ?_ _ | refine Ext.setCell ?_ (.inr (by first | omega | simp)) _)) : Ext Non x3.on x4.on))
    have HL4 := Go.Lib.hid (HL2.out.extN HX4.out)
    have HR4 := Go.Lib.hid (HR2.out.extN HX4.out)
    go_wp2_with fail
    refine (CD.out _ HR4.out).mono ?_
    rintro e w5 ⟨rfl, hx5, hR5⟩
    have HL5 := Go.Lib.hid (HL4.out.tri HR4.out hx5)
    have HR5 := Go.Lib.hid hR5
    have BX5 := Go.Lib.hid (BX4.out.ext hx5 (fun q => by have := HLT.out; rcases q with q | q | q <;> omega))
    have X5 := Go.Lib.hid ((X2.out.trans HX4.out.ofNon).trans (hx5.mono (fun k _ q => (.inr q : Five b m rl sb rb k))))
    clear hx5 hR5 HL4 HR4 BX4 BX B2 HL2 HR2 b1 b2 b3 b4 b5 b6 HX4
    clear hkx2 x4 x3
    go_upto_region 5 with (refine wpList_store_box rfl 48 _ _ rfl w5.heap.size _ [.int .i64 cd, .float .f64 re] _ rfl rfl (Bx.newAt _ _ _ _ rfl) rfl info_result2 (by simp [Value.oneCell']) (fun W hB => ?_); have BY := Go.Lib.hid hB; clear hB)
    have XW : Ext Non w5 W.on := by (repeat (first | with_reducible (first | exact Ext.refl _ _ | assumption | refine Ext.upN ?_ | refine Ext.alloc ?_ _ | refine Ext.drew ?_ | refine Ext.drewN ?_ _ | refine Ext.up1N (by first | omega | simp) ?_) | refine Ext.alloc ?_ _ | refine Ext.setCell ?_ (.inr (by first | omega | simp)) _))
    obtain ⟨x6, hx6⟩ := XW.ew
    rw [hx6] at BY ⊢
    clear hx6 XW W
    try simp only [Act.put]
    have BX6 := Go.Lib.hid (BX5.out.extN x6.ext)
    generalize w5.heap.size = ky at BY ⊢
    have z0 : x6.on.cell? ⟨kx, 0, none⟩ = some (.int .i64 cd) := BX6.out.cell rfl
    have z1 : x6.on.cell? ⟨kx, 1, none⟩ = some (.float .f64 re) := BX6.out.cell rfl
    have y0 : x6.on.cell? ⟨ky, 0, none⟩ = some (.int .i64 cd) := BY.out.cell rfl
    have y1 : x6.on.cell? ⟨ky, 1, none⟩ = some (.float .f64 re) := BY.out.cell rfl
    go_wp2_with fail
    refine Calls.ew (same_res cd re _) ?_
    rintro e x7 rfl
    go_wp2
    go_ret
    have XE : Ext Non w5 x7.on := by (repeat (first | with_reducible (first | exact Ext.refl _ _ | assumption | refine Ext.upN ?_ | refine Ext.alloc ?_ _ | refine Ext.drew ?_ | refine Ext.drewN ?_ _ | refine Ext.up1N (by first | omega | simp) ?_) | refine Ext.alloc ?_ _ | refine Ext.setCell ?_ (.inr (by first | omega | simp)) _))
    exact ⟨g2, rfl, ID.out, HL5.out.extN XE, HR5.out.extN XE, X5.out.trans XE.ofNon⟩
  · go_enter Tryz.func8, Tryz.ntmps8
    have HL1 := Go.Lib.hid (HL.out.extN X0)
    have HR1 := Go.Lib.hid (HR.out.extN X0)
    have HX1 := Go.Lib.hid X0
    clear X0
    go_wp2_with fail
    refine (Z.ledger_Turn b m g II.out _ HL1.out).mono ?_
    rintro e w2 ⟨rfl, hx2, hL2⟩
    have hxT : Ext (Two b m) _ w2 := hx2.mono (fun k _ q => (.inl q : Two b m k))
    have HR2 := Go.Lib.hid (HR1.out.two HL1.out.to hxT)
    have HL2 := Go.Lib.hid hL2
    have X2 := Go.Lib.hid (HX1.out.ofNon.trans (hxT.mono (fun k _ q => (.inl q : Five b m rl sb rb k))))
    clear hx2 hL2 hxT
    go_wp2_with fail
    refine (ref12_Turn rl sb rb g II.out _ HR2.out).mono ?_
    rintro e w3 ⟨rfl, hx3, hR3⟩
    have hxT : Ext (Tri rl sb rb) _ w3 := hx3.mono (fun k _ q => (.inl q : Tri rl sb rb k))
    have HL3 := Go.Lib.hid (HL2.out.tri HR2.out hxT)
    have HR3 := Go.Lib.hid hR3
    have X3 := Go.Lib.hid (X2.out.trans (hxT.mono (fun k _ q => (.inr q : Five b m rl sb rb k))))
    clear hx3 hR3 hxT
    generalize turnE g = te at *
    go_wp2
    go_ret
    exact ⟨turnL g, by simp, inv_turn II.out, HL3.out, HR3.out, X3.out⟩
theorem ref12_New_no (ep : Int) (a : Option Addr) (cap : Nat) (xs : List Int) (hn : confB ep xs = false ∨ ep ≠ 0) (w : World) (h : Ints w a cap xs) : Calls Tryz.prog 7 #[.agg #[.int .i64 ep, .slice a xs.length cap]] w fun e w' =>
    e = .returned (.tuple #[.pointer none, .int .i64 1]) ∧ Ext Non w w' := by
  have HI := Go.Lib.hid h
  have B0 := Go.Lib.hid (Bx.newAt w [.int .i64 ep, .slice a xs.length cap] 24 _ rfl)
  cases hc : confB ep xs
  · have HC := Go.Lib.hid hc
    clear hc hn h
    go_enter Tryz.func7, Tryz.ntmps7
    go_wp2_with fail
    refine Calls.ew (ref_Right07 ep a cap xs _ (HI.out.extN (by (repeat (first | with_reducible (first | exact Ext.refl _ _ | assumption | refine Ext.upN ?_ | refine Ext.alloc ?_ _ | refine Ext.drew ?_ | refine Ext.drewN ?_ _ | refine Ext.up1N (by first | omega | simp) ?_) | refine Ext.alloc ?_ _ | refine Ext.setCell ?_ (.inr (by first | omega | simp)) _))))) ?_
    rintro e x1 rfl
    rw [HC.out]
    go_wp2
    go_returns
    exact ⟨rfl, by (repeat (first | with_reducible (first | exact Ext.refl _ _ | assumption | refine Ext.upN ?_ | refine Ext.alloc ?_ _ | refine Ext.drew ?_ | refine Ext.drewN ?_ _ | refine Ext.up1N (by first | omega | simp) ?_) | refine Ext.alloc ?_ _ | refine Ext.setCell ?_ (.inr (by first | omega | simp)) _))⟩
  · have he : ep ≠ 0 := hn.resolve_left (by rw [hc]; simp)
    have HC := Go.Lib.hid hc
    have hb : (ep != 0) = true := by simpa using he
    clear hc hn h he
    go_enter Tryz.func7, Tryz.ntmps7
    go_wp2_with fail
    refine Calls.ew (ref_Right07 ep a cap xs _ (HI.out.extN (by (repeat (first | with_reducible (first | exact Ext.refl _ _ | assumption | refine Ext.upN ?_ | refine Ext.alloc ?_ _ | refine Ext.drew ?_ | refine Ext.drewN ?_ _ | refine Ext.up1N (by first | omega | simp) ?_) | refine Ext.alloc ?_ _ | refine Ext.setCell ?_ (.inr (by first | omega | simp)) _))))) ?_
    rintro e x1 rfl
    have B1 := Go.Lib.hid (B0.out.extN x1.ext)
    have c0 : x1.on.cell? ⟨w.heap.size, 0, none⟩ = some (.int .i64 ep) := B1.out.cell rfl
    rw [HC.out]
    go_wp2
    go_returns
    exact ⟨rfl, by (repeat (first | with_reducible (first | exact Ext.refl _ _ | assumption | refine Ext.upN ?_ | refine Ext.alloc ?_ _ | refine Ext.drew ?_ | refine Ext.drewN ?_ _ | refine Ext.up1N (by first | omega | simp) ?_) | refine Ext.alloc ?_ _ | refine Ext.setCell ?_ (.inr (by first | omega | simp)) _))⟩
set_option maxHeartbeats 2000000 in
set_option maxRecDepth 100000 in
theorem walk_LedgerPlays (ep : Int) (a : Option Addr) (cap : Nat) (xs : List Int) (sa : Option Addr) (len scap : Nat) (F : Nat → Qop) (hl : len ≤ maxLen) (w : World) (h : Ints w a cap xs) (hs : Ops w sa len F) :
    Calls Tryz.prog 3 #[.agg #[.int .i64 ep, .slice a xs.length cap], .slice sa len scap] w fun e w' => e = .returned (.bool true) ∧ Ext Non w w' := by
  unfold maxLen at hl
  have HH := Go.Lib.hid h
  have HS := Go.Lib.hid hs
  clear h hs
  by_cases hne : confB ep xs = true ∧ ep = 0
  · obtain ⟨hc, rfl⟩ := hne
    have hm : membersB xs = true := by unfold confB at hc; simp only [Bool.and_eq_true] at hc; exact hc.2
    have HM := Go.Lib.hid hm
    clear hc hm
    have B0 := Go.Lib.hid (Bx.newAt w [.int .i64 0, .slice a xs.length cap] 24 _ rfl)
    go_enter Tryz.func3, Tryz.ntmps3
    go_wp2_with fail
    refine Calls.ew (law12_lives _) ?_
    rintro e x1 rfl
    have B1 := Go.Lib.hid (B0.out.extN x1.ext)
    have c0 : x1.on.cell? ⟨w.heap.size, 0, none⟩ = some (.int .i64 0) := B1.out.cell rfl
    have c1 : x1.on.cell? ⟨w.heap.size, 1, none⟩ = some (.slice a xs.length cap) := B1.out.cell rfl
    have XA := Go.Lib.hid (by (repeat (first | with_reducible (first | exact Ext.refl _ _ | assumption | refine Ext.upN ?_ | refine Ext.alloc ?_ _ | refine Ext.drew ?_ | refine Ext.drewN ?_ _ | refine Ext.up1N (by first | omega | simp) ?_) | refine Ext.alloc ?_ _ | refine Ext.setCell ?_ (.inr (by first | omega | simp)) _)) : Ext Non w x1.on)
    go_wp2_with fail
    refine (ledger_New_ok a cap xs HM.out _ (HH.out.extN (by (repeat (first | with_reducible (first | exact Ext.refl _ _ | assumption | refine Ext.upN ?_ | refine Ext.alloc ?_ _ | refine Ext.drew ?_ | refine Ext.drewN ?_ _ | refine Ext.up1N (by first | omega | simp) ?_) | refine Ext.alloc ?_ _ | refine Ext.setCell ?_ (.inr (by first | omega | simp)) _))))).mono ?_
    rintro e _ ⟨b, m, rfl, hx, hL, hb, hm⟩
    obtain ⟨x2, rfl⟩ := hx.ew
    have HL2 := Go.Lib.hid hL
    have HBM := Go.Lib.hid (And.intro hb hm)
    clear hx hL hb hm
    go_wp2_with fail
    refine (ref12_New a cap xs HM.out _ (HH.out.extN (by (repeat (first | with_reducible (first | exact Ext.refl _ _ | assumption | refine Ext.upN ?_ | refine Ext.alloc ?_ _ | refine Ext.drew ?_ | refine Ext.drewN ?_ _ | refine Ext.up1N (by first | omega | simp) ?_) | refine Ext.alloc ?_ _ | refine Ext.setCell ?_ (.inr (by first | omega | simp)) _))))).mono ?_
    rintro e _ ⟨rl, sb, rb, rfl, hR, hx, h1, h2, h3⟩
    obtain ⟨x3, rfl⟩ := hx.ew
    have HR3 := Go.Lib.hid hR
    have HL3 := Go.Lib.hid (Z.LD.of HL2.out x3.ext h2 hR.lt.2.1)
    have HFV : Hid (∀ k, Five b m rl sb rb k → w.heap.size ≤ k) := Go.Lib.hid (fun k q => by
      have z1 := XA.out.size; have z2 := x2.ext.size; have := HBM.out
      rcases q with (q | q) | q | q | q <;> omega)
    have X3 := Go.Lib.hid ((XA.out.trans x2.ext).trans x3.ext)
    have I0 := Go.Lib.hid (inv_new HM.out)
    clear hx hR h1 h2 h3 c0 c1
    generalize x3.on = w3 at *
    clear HL2 B1 XA HBM x3 x2 x1
    go_wp2_with fail
    go_loopg [9] len (fun k iv wr => ∃ (i : Nat) (g : Lg), i ≤ len ∧ k = len - i ∧ iv = .int .i64 i ∧ Inv g ∧ Z.LD sb wr b m g ∧ RL wr rl sb rb g ∧ Ext Non w wr)
    case atStart => exact ⟨0, newL xs, Nat.zero_le _, rfl, rfl, I0.out, HL3.out, HR3.out, X3.out⟩
    case round =>
      obtain ⟨i, g, hi, rfl, rfl, I, L, R, x⟩ := hrel
      have II := Go.Lib.hid I; have LL := Go.Lib.hid L; have RR := Go.Lib.hid R; have XX := Go.Lib.hid x
      clear I L R x HL3 HR3 X3
      by_cases hlt : i < len
      · obtain ⟨ob, oo, rfl, hsb, p0, p1, p2, p3, p4, p5, p6⟩ := (HS.out.extN XX.out).at_ i hlt
        have OK := Go.Lib.hid (HS.out.ok i hlt)
        generalize F i = q at *
        obtain ⟨qt, qc, qs, qk, qkey, qn, qid⟩ := q
        simp only at p0 p1 p2 p3 p4 p5 p6
        go_wp2_with fail
        refine (law12_step b m rl sb rb g II.out qt qc qs qk qkey qn qid OK.out.c OK.out.s OK.out.k OK.out.id (by have := OK.out.b0; have := OK.out.b1; simp only at this; omega) _ LL.out RR.out).mono ?_
        rintro e w5 ⟨g2, rfl, hI, hL, hR, hx⟩
        have I5 := Go.Lib.hid hI; have L5 := Go.Lib.hid hL; have R5 := Go.Lib.hid hR
        have X5 := Go.Lib.hid (XX.out.step hx (fun i hi e => by have := HFV.out i e; omega))
        clear hI hL hR hx p0 p1 p2 p3 p4 p5 p6
        go_wp2_with fail
        refine (law12_same b m rl sb rb g2 I5.out _ L5.out.to R5.out).mono ?_
        rintro e w6 ⟨rfl, hx⟩
        have HX6 := Go.Lib.hid hx
        clear hx
        go_wp2_with fail
        go_roundg (len - (i + 1))
        case measure => omega
        case rel => exact ⟨i + 1, g2, hlt, rfl, by go_num, I5.out, L5.out.extN HX6.out, R5.out.extN HX6.out, X5.out.trans HX6.out⟩
      · go_wp2_with fail
        refine (law12_same b m rl sb rb g II.out _ LL.out.to RR.out).mono ?_
        rintro e w6 ⟨rfl, hx⟩
        go_wp2
        go_ret
        exact ⟨rfl, XX.out.trans hx⟩
  · have hn : confB ep xs = false ∨ ep ≠ 0 := by
      rcases Classical.em (ep = 0) with h | h
      · exact .inl (by simpa [h] using hne)
      · exact .inr h
    have HN := Go.Lib.hid hn
    clear hne hn
    have B0 := Go.Lib.hid (Bx.newAt w [.int .i64 ep, .slice a xs.length cap] 24 _ rfl)
    go_enter Tryz.func3, Tryz.ntmps3
    go_wp2_with fail
    refine Calls.ew (law12_lives _) ?_
    rintro e x1 rfl
    have B1 := Go.Lib.hid (B0.out.extN x1.ext)
    have c0 : x1.on.cell? ⟨w.heap.size, 0, none⟩ = some (.int .i64 ep) := B1.out.cell rfl
    have c1 : x1.on.cell? ⟨w.heap.size, 1, none⟩ = some (.slice a xs.length cap) := B1.out.cell rfl
    go_wp2_with fail
    refine Calls.ew (ledger_New_no ep a cap xs HN.out _ (HH.out.extN (by (repeat (first | with_reducible (first | exact Ext.refl _ _ | assumption | refine Ext.upN ?_ | refine Ext.alloc ?_ _ | refine Ext.drew ?_ | refine Ext.drewN ?_ _ | refine Ext.up1N (by first | omega | simp) ?_) | refine Ext.alloc ?_ _ | refine Ext.setCell ?_ (.inr (by first | omega | simp)) _))))) ?_
    rintro e x2 rfl
    go_wp2_with fail
    refine Calls.ew (ref12_New_no ep a cap xs HN.out _ (HH.out.extN (by (repeat (first | with_reducible (first | exact Ext.refl _ _ | assumption | refine Ext.upN ?_ | refine Ext.alloc ?_ _ | refine Ext.drew ?_ | refine Ext.drewN ?_ _ | refine Ext.up1N (by first | omega | simp) ?_) | refine Ext.alloc ?_ _ | refine Ext.setCell ?_ (.inr (by first | omega | simp)) _))))) ?_
    rintro e x3 rfl
    go_wp2
    go_ret
    exact ⟨rfl, by (repeat (first | with_reducible (first | exact Ext.refl _ _ | assumption | refine Ext.upN ?_ | refine Ext.alloc ?_ _ | refine Ext.drew ?_ | refine Ext.drewN ?_ _ | refine Ext.up1N (by first | omega | simp) ?_) | refine Ext.alloc ?_ _ | refine Ext.setCell ?_ (.inr (by first | omega | simp)) _))⟩
set_option maxRecDepth 100000 in
open Go.ChangeShapes Go.WideShapes in
theorem law_LedgerPlays {H : Type} {enc : TypeId × Value → H} (W : World) {base : Nat} (v0 : Value) (d0 : DataW H) (p0 : List MemPlace) (v1 : Value) (d1 : DataW H) (p1 : List MemPlace)
    (h0 : DataW.Trod enc Tryz.prog W 0 (fun _ => true) true 24 v0 d0 p0) (ok0 : Value.okWide Tryz.prog W .any base 24 v0)
    (h1 : DataW.Trod enc Tryz.prog W 0 (fun _ => true) true 25 v1 d1 p1) (ok1 : Value.okWide Tryz.prog W .any base 25 v1) :
    Calls Tryz.prog 3 #[v0, v1] W fun e w' => e = .returned (.bool true) ∧ Below W.heap.size W w' := by
  obtain ⟨ep, a, cap, xs, rfl, _, hi, _⟩ := arg_conf ok0 h0
  obtain ⟨sa, len, scap, F, rfl, hl, hs⟩ := arg_ops ok1 h1
  exact (walk_LedgerPlays ep a cap xs sa len scap F hl W hi hs).mono fun _ _ ⟨a, b⟩ => ⟨a, b.toBelow⟩
end Go.Proofs.YtfefeepljbfcdaaGreat
