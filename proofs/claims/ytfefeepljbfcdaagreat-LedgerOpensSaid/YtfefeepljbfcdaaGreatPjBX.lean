/- Joined texts: Same12. What each proves stands at its head; no conditions beside those in its theorems. -/
import Derived.Deep.MidRow
import Derived.Deep.WholeRow
import Derived.Shelf.SlMaps.Clone
import Derived.Test.YtfefeepljbfcdaaGreatPjAX
import Derived.Test.YtfefeepljbfcdaaGreatPjBH
import Derived.Test.YtfefeepljbfcdaaGreatPjBV
/- The law of layer 12: do a ledger and the reference's stand alike. -/
namespace Go.Proofs.YtfefeepljbfcdaaGreat
open Go.RowKit Go.Lib F64
set_option linter.unusedSimpArgs false
set_option linter.unusedVariables false
attribute [local go_sem] run_store_float
attribute [local go_sem low] EW.cellN EW.frozN alloc_cell_or alloc_froz_or EW.cellF EW.frozF EW.cell1 EW.froz1
attribute [local go_sem] relAt relUpon
def moCfI (ce : Int) (ys : List Int) : Mo := ⟨fun v w => ∃ a cap, v = .agg #[.int .i64 ce, .slice a ys.length cap] ∧ Ints w a cap ys, fun _ _ _ x ⟨a, c, e, h⟩ => ⟨a, c, e, h.extN x⟩⟩
def moIn (ys : List Int) : Mo := ⟨fun v w => ∃ a cap, v = .slice a ys.length cap ∧ Ints w a cap ys, fun _ _ _ x ⟨a, c, e, h⟩ => ⟨a, c, e, h.extN x⟩⟩
theorem same_conf (p : Int) (a1 : Option Addr) (c1 : Nat) (xs : List Int) (a2 : Option Addr) (c2 : Nat) (w : World) (h1 : Ints w a1 c1 xs) (h2 : Ints w a2 c2 xs) :
  Calls Tryz.prog 24 #[.agg #[.int .i64 p, .slice a1 xs.length c1], .agg #[.int .i64 p, .slice a2 xs.length c2]] w fun e w' => e = .returned (.bool true) ∧ Ext Non w w' :=
 (ref_Same p a1 c1 xs p a2 c2 xs w h1 h2).mono fun e w' ⟨he, hx⟩ => ⟨by rw [he]; simp, hx⟩
theorem same_ints (a1 : Option Addr) (c1 : Nat) (xs : List Int) (a2 : Option Addr) (c2 : Nat) (w : World) (h1 : Ints w a1 c1 xs) (h2 : Ints w a2 c2 xs) :
  Calls Tryz.prog 26 #[.slice a1 xs.length c1, .slice a2 xs.length c2] w fun e w' => e = .returned (.bool true) ∧ Ext Non w w' :=
 (ref_SameInts a1 c1 xs a2 c2 xs w h1 h2).mono fun e w' ⟨he, hx⟩ => ⟨by rw [he]; simp, hx⟩
theorem same_res (k : Int) (x : Nat) (w : World) : Calls Tryz.prog 23 #[.agg #[.int .i64 k, .float .f64 x], .agg #[.int .i64 k, .float .f64 x]] w fun e w' => e = .returned (.bool true) ∧ Ext Non w w' :=
 (ref_SameResult k k x x w).mono fun e w' ⟨he, hx⟩ => ⟨by rw [he]; simp, hx⟩
theorem item_facts {g : Lg} (I : Inv g) (nd : NdK g.keys) {j : Nat} (h : j < (sortK g.keys).length) : valK g.keys (sortK g.keys)[j].1 = (sortK g.keys)[j].2 ∧ hasK g.keys (sortK g.keys)[j].1 = true ∧ canonN (sortK g.keys)[j].2 = (sortK g.keys)[j].2 := by
 have hm : (sortK g.keys)[j] ∈ g.keys := (sortK_perm g.keys).mem_iff.1 (List.getElem_mem h)
 have hg : getK g.keys (sortK g.keys)[j].1 = some (sortK g.keys)[j].2 := (getK_mem nd).2 hm
 refine ⟨?_, ?_, (I.kb _ hm).2.2.2⟩
 ·unfold valK; rw [hg]; rfl
 ·unfold hasK; rw [hg]; rfl
set_option maxHeartbeats 4000000 in
set_option maxRecDepth 100000 in
theorem law12_same (b m rl sb rb : Nat) (g : Lg) (I : Inv g) (w : World) (h : LD w b m g) (hr : RL w rl sb rb g) :
  Calls Tryz.prog 9 #[.pointer (some ⟨b, 0, none⟩), .pointer (some ⟨rl, 0, none⟩)] w fun e w' => e = .returned (.bool true) ∧ Ext Non w w' := by
 have II := hI_ I
 have HH := hI_ h
 have HR := hI_ hr
 obtain ⟨a1, c1, a2, c2, v, hb, i1, i2, -, -, -⟩ := hr.ex
 have HI1 := hI_ i1; have HI2 := hI_ i2
 obtain ⟨ia, ic, hv, hl1, hl2, hit⟩ := hr.row
 have HIT := hI_ hit
 have HIF := hI_ (fun (j : Nat) (h : j < (sortK g.keys).length) => item_facts I hr.nd h)
 have q0 : w.cell? ⟨rl, 0, none⟩ = some (.int .i64 g.epoch) := hb.cell rfl
 have q1 : w.cell? ⟨rl, 1, none⟩ = some (.slice a1 g.mem.length c1) := hb.cell rfl
 have q2 : w.cell? ⟨rl, 2, none⟩ = some (.slice a2 g.next.length c2) := hb.cell rfl
 have q3 : w.cell? ⟨rl, 3, none⟩ = some (.int .i64 g.done) := hb.cell rfl
 have q5 : w.cell? ⟨rl, 4 + 1, none⟩ = some (.slice (some ⟨sb, 0, none⟩) 9 9) := hb.cell rfl
 have q6 : w.cell? ⟨rl, 5 + 1, none⟩ = some (.slice (some ⟨rb, 0, none⟩) 9 9) := hb.cell rfl
 have KF := hI_ (fun w' (x : Ext Non w w') => ledger_Conf b m g I w' (h.extN x))
 have KN := hI_ (fun w' (x : Ext Non w w') => ledger_Next b m g I w' (h.extN x))
 have KD := hI_ (fun w' (x : Ext Non w w') => ledger_Done b m g w' (h.extN x))
 have KU := hI_ (fun w' (x : Ext Non w w') => ledger_Full b m g I w' (h.extN x))
 have KV := hI_ (fun w' (x : Ext Non w w') => ref12_Full rl sb rb g I w' (hr.extN x))
 have KT := hI_ (fun w' (x : Ext Non w w') => ledger_Text b m g I w' (h.extN x))
 have KS := hI_ (fun w' (x : Ext Non w w') => ref12_Text rl sb rb g I w' (hr.extN x))
 have KG := hI_ (fun k w' (x : Ext Non w w') => ledger_Get b m g k w' (h.extN x))
 have KL := hI_ (fun c i hc hi w' (x : Ext Non w w') => ledger_Last b m g c i hc hi w' (h.extN x))
 have HST := hI_ (fun (i : Nat) (hi : i < 8) => hr.st.cell (st_get g.cl hi))
 have HRS := hI_ (fun (i : Nat) (hi : i < 8) => And.intro (hr.rs.cell (rs_get g.cl hi).1) (hr.rs.cell (rs_get g.cl hi).2))
 have hkl : (sortK g.keys).length ≤ 16 := by rw [sortK_len]; exact I.kl
 simp only [Nat.reduceAdd] at q5 q6
 clear I h hr hb i1 i2 hit
 generalize fullB g = fu at *
 generalize ledgS g = ls at *
 generalize g.epoch = ge at *
 generalize g.done = gd at *
 generalize g.mem = gm at *
 generalize g.next = gn at *
 go_enter Tryz.func9, Tryz.ntmps9
 go_upto_region 1 with fail
 apply wp_region_rel (relR [Mo.is _, moCfI ge gm, Mo.is _, Mo.is _, Mo.is _, Mo.is _, Mo.is _, Mo.is _, Mo.is _, Mo.is _, moIn gn, Mo.is _, Mo.is _, Mo.is _, Mo.is _, Mo.is _, Mo.is _, Mo.is _, Mo.is _, Mo.is _, Mo.is _, Mo.is _, Mo.is _, Mo.is _, Mo.is _, Mo.is _, Mo.is _, Mo.is _, Mo.is _, Mo.is _, Mo.is _, Mo.is _, Mo.is _, Mo.is _, Mo.is _, Mo.is _, Mo.is _, Mo.is _, Mo.is _, Mo.is _, Mo.is _]) (by kernel_rfl) (by kernel_rfl) (by kernel_rfl) (relR_mono _) (StepD.all ?st39) ?q39
 case st39 =>
  refine ⟨?_, ?_, ?_, ?_, ?_, ?_, ?_, ?_, ?_, ?_, ?_, ?_, ?_, ?_, ?_, ?_, ?_, ?_, ?_, ?_, ?_, ?_, ?_, ?_, ?_, ?_, ?_, ?_, ?_, ?_, ?_, ?_, ?_, ?_, ?_, ?_, ?_, ?_, ?_, ?_, ?_, trivial⟩
  ·intro a' w' hx hs hd
   obtain ⟨y, rfl⟩ := hx.ew
   have e0 : a'.tmps[0]?.getD undef = _ := hs 0 rfl
   simp only [aL, aS, aZ] at e0
   refine .inl ⟨rfl, ?_⟩
   clear hs hd hx
   go_simp
   exact ⟨Ext.refl _ _, rfl⟩
  ·intro a' w' hx hs hd
   obtain ⟨y, rfl⟩ := hx.ew
   have e13 : a'.tmps[13]?.getD undef = _ := hd 0 13 rfl rfl
   refine .inl ⟨rfl, ?_⟩
   clear hs hd hx
   go_simp
   exact (KF.out _ (exG0)).mono (fun e w'' ⟨a, c, he, hx, hI, _⟩ => ⟨_, he, hx, a, c, rfl, hI⟩)
  ·intro a' w' hx hs hd
   obtain ⟨y, rfl⟩ := hx.ew
   have e1 : a'.tmps[1]?.getD undef = _ := hs 1 rfl
   simp only [aL, aS, aZ] at e1
   refine .inl ⟨rfl, ?_⟩
   clear hs hd hx
   go_simp
   exact ⟨Ext.refl _ _, rfl⟩
  ·intro a' w' hx hs hd
   obtain ⟨y, rfl⟩ := hx.ew
   have e15 : a'.tmps[15]?.getD undef = _ := hd 2 15 rfl rfl
   refine .inl ⟨rfl, ?_⟩
   clear hs hd hx
   go_simp
   exact ⟨Ext.refl _ _, rfl⟩
  ·intro a' w' hx hs hd
   obtain ⟨y, rfl⟩ := hx.ew
   have e16 : a'.tmps[16]?.getD undef = _ := hd 3 16 rfl rfl
   refine .inl ⟨rfl, ?_⟩
   clear hs hd hx
   go_simp
   exact ⟨Ext.refl _ _, rfl⟩
  ·intro a' w' hx hs hd
   obtain ⟨y, rfl⟩ := hx.ew
   have e17 : a'.tmps[17]?.getD undef = _ := hd 4 17 rfl rfl
   refine .inl ⟨rfl, ?_⟩
   clear hs hd hx
   go_simp
   exact ⟨Ext.refl _ _, rfl⟩
  ·intro a' w' hx hs hd
   obtain ⟨y, rfl⟩ := hx.ew
   obtain ⟨fa, fc, e14, hF⟩ : ∃ a cap, a'.tmps[14]?.getD undef = .agg #[.int .i64 ge, .slice a gm.length cap] ∧ Ints y.on a cap gm := hd 1 14 rfl rfl
   have e18 : a'.tmps[18]?.getD undef = _ := hd 5 18 rfl rfl
   refine .inl ⟨rfl, ?_⟩
   clear hs hd hx
   go_simp
   exact (same_conf ge fa fc gm a1 c1 _ hF (HI1.out.extN (exG0))).mono (fun e w'' ⟨he, hx⟩ => ⟨_, he, hx, rfl⟩)
  ·intro a' w' hx hs hd
   obtain ⟨y, rfl⟩ := hx.ew
   have e19 : a'.tmps[19]?.getD undef = _ := hd 6 19 rfl rfl
   refine .inl ⟨rfl, ?_⟩
   clear hs hd hx
   go_simp
   exact ⟨Ext.refl _ _, rfl⟩
  ·intro a' w' hx hs hd
   obtain ⟨y, rfl⟩ := hx.ew
   have e20 : a'.tmps[20]?.getD undef = _ := hd 7 20 rfl rfl
   refine .inl ⟨rfl, ?_⟩
   clear hs hd hx
   go_simp
   exact ⟨Ext.refl _ _, rfl⟩
  ·intro a' w' hx hs hd
   obtain ⟨y, rfl⟩ := hx.ew
   have eg : a'.tmps[21]?.getD undef = _ := hd 8 21 rfl rfl
   first
   | exact unA 8 21 eg
   | (have e0 : a'.tmps[0]?.getD undef = _ := hs 0 rfl; simp only [aL, aS, aZ] at e0; refine .inl ⟨wanted_of (j := 8) (d := 21) rfl rfl eg, ?_⟩; clear hs hd hx eg; go_simp; exact ⟨Ext.refl _ _, rfl⟩)
  ·intro a' w' hx hs hd
   obtain ⟨y, rfl⟩ := hx.ew
   have eg : a'.tmps[21]?.getD undef = _ := hd 8 21 rfl rfl
   first
   | exact unA 8 21 eg
   | (have e22 : a'.tmps[22]?.getD undef = _ := hd 9 22 rfl rfl; refine .inl ⟨wanted_of (j := 8) (d := 21) rfl rfl eg, ?_⟩; clear hs hd hx eg; go_simp; exact (KN.out _ (exG0)).mono (fun e w'' ⟨a, c, he, hx, hI, _⟩ => ⟨_, he, hx, a, c, rfl, hI⟩))
  ·intro a' w' hx hs hd
   obtain ⟨y, rfl⟩ := hx.ew
   have eg : a'.tmps[21]?.getD undef = _ := hd 8 21 rfl rfl
   first
   | exact unA 8 21 eg
   | (have e1 : a'.tmps[1]?.getD undef = _ := hs 1 rfl; simp only [aL, aS, aZ] at e1; refine .inl ⟨wanted_of (j := 8) (d := 21) rfl rfl eg, ?_⟩; clear hs hd hx eg; go_simp; exact ⟨Ext.refl _ _, rfl⟩)
  ·intro a' w' hx hs hd
   obtain ⟨y, rfl⟩ := hx.ew
   have eg : a'.tmps[21]?.getD undef = _ := hd 8 21 rfl rfl
   first
   | exact unA 8 21 eg
   | (have e24 : a'.tmps[24]?.getD undef = _ := hd 11 24 rfl rfl; refine .inl ⟨wanted_of (j := 8) (d := 21) rfl rfl eg, ?_⟩; clear hs hd hx eg; go_simp; exact ⟨Ext.refl _ _, rfl⟩)
  ·intro a' w' hx hs hd
   obtain ⟨y, rfl⟩ := hx.ew
   have eg : a'.tmps[21]?.getD undef = _ := hd 8 21 rfl rfl
   first
   | exact unA 8 21 eg
   | (have e25 : a'.tmps[25]?.getD undef = _ := hd 12 25 rfl rfl; refine .inl ⟨wanted_of (j := 8) (d := 21) rfl rfl eg, ?_⟩; clear hs hd hx eg; go_simp; exact ⟨Ext.refl _ _, rfl⟩)
  ·intro a' w' hx hs hd
   obtain ⟨y, rfl⟩ := hx.ew
   have eg : a'.tmps[21]?.getD undef = _ := hd 8 21 rfl rfl
   first
   | exact unA 8 21 eg
   | (have e26 : a'.tmps[26]?.getD undef = _ := hd 13 26 rfl rfl; refine .inl ⟨wanted_of (j := 8) (d := 21) rfl rfl eg, ?_⟩; clear hs hd hx eg; go_simp; exact ⟨Ext.refl _ _, rfl⟩)
  ·intro a' w' hx hs hd
   obtain ⟨y, rfl⟩ := hx.ew
   have eg : a'.tmps[21]?.getD undef = _ := hd 8 21 rfl rfl
   first
   | exact unA 8 21 eg
   | (obtain ⟨na, nc, e23, hN⟩ : ∃ a cap, a'.tmps[23]?.getD undef = .slice a gn.length cap ∧ Ints y.on a cap gn := hd 10 23 rfl rfl; have e27 : a'.tmps[27]?.getD undef = _ := hd 14 27 rfl rfl; refine .inl ⟨wanted_of (j := 8) (d := 21) rfl rfl eg, ?_⟩; clear hs hd hx eg; go_simp; exact (same_ints na nc gn a2 c2 _ hN (HI2.out.extN (exG0))).mono (fun e w'' ⟨he, hx⟩ => ⟨_, he, hx, rfl⟩))
  ·intro a' w' hx hs hd
   obtain ⟨y, rfl⟩ := hx.ew
   have eg : a'.tmps[21]?.getD undef = _ := hd 8 21 rfl rfl
   first
   | exact unA 8 21 eg
   | (have e28 : a'.tmps[28]?.getD undef = _ := hd 15 28 rfl rfl; refine .inl ⟨wanted_of (j := 8) (d := 21) rfl rfl eg, ?_⟩; clear hs hd hx eg; go_simp; exact ⟨Ext.refl _ _, rfl⟩)
  ·intro a' w' hx hs hd
   obtain ⟨y, rfl⟩ := hx.ew
   have e21 : a'.tmps[21]?.getD undef = _ := hd 8 21 rfl rfl
   have e29 : a'.tmps[29]?.getD undef = _ := hd 16 29 rfl rfl
   refine .inl ⟨rfl, ?_⟩
   clear hs hd hx
   go_simp
   exact ⟨Ext.refl _ _, rfl⟩
  ·intro a' w' hx hs hd
   obtain ⟨y, rfl⟩ := hx.ew
   have e30 : a'.tmps[30]?.getD undef = _ := hd 17 30 rfl rfl
   refine .inl ⟨rfl, ?_⟩
   clear hs hd hx
   go_simp
   exact ⟨Ext.refl _ _, rfl⟩
  ·intro a' w' hx hs hd
   obtain ⟨y, rfl⟩ := hx.ew
   have eg : a'.tmps[31]?.getD undef = _ := hd 18 31 rfl rfl
   first
   | exact unA 18 31 eg
   | (have e0 : a'.tmps[0]?.getD undef = _ := hs 0 rfl; simp only [aL, aS, aZ] at e0; refine .inl ⟨wanted_of (j := 18) (d := 31) rfl rfl eg, ?_⟩; clear hs hd hx eg; go_simp; exact ⟨Ext.refl _ _, rfl⟩)
  ·intro a' w' hx hs hd
   obtain ⟨y, rfl⟩ := hx.ew
   have eg : a'.tmps[31]?.getD undef = _ := hd 18 31 rfl rfl
   first
   | exact unA 18 31 eg
   | (have e32 : a'.tmps[32]?.getD undef = _ := hd 19 32 rfl rfl; refine .inl ⟨wanted_of (j := 18) (d := 31) rfl rfl eg, ?_⟩; clear hs hd hx eg; go_simp; exact (KD.out _ (exG0)).mono (fun e w'' ⟨he, hx⟩ => ⟨_, he, by rw [← hx]; exact Ext.refl _ _, rfl⟩))
  ·intro a' w' hx hs hd
   obtain ⟨y, rfl⟩ := hx.ew
   have eg : a'.tmps[31]?.getD undef = _ := hd 18 31 rfl rfl
   first
   | exact unA 18 31 eg
   | (have e1 : a'.tmps[1]?.getD undef = _ := hs 1 rfl; simp only [aL, aS, aZ] at e1; refine .inl ⟨wanted_of (j := 18) (d := 31) rfl rfl eg, ?_⟩; clear hs hd hx eg; go_simp; exact ⟨Ext.refl _ _, rfl⟩)
  ·intro a' w' hx hs hd
   obtain ⟨y, rfl⟩ := hx.ew
   have eg : a'.tmps[31]?.getD undef = _ := hd 18 31 rfl rfl
   first
   | exact unA 18 31 eg
   | (have e34 : a'.tmps[34]?.getD undef = _ := hd 21 34 rfl rfl; refine .inl ⟨wanted_of (j := 18) (d := 31) rfl rfl eg, ?_⟩; clear hs hd hx eg; go_simp; exact ⟨Ext.refl _ _, rfl⟩)
  ·intro a' w' hx hs hd
   obtain ⟨y, rfl⟩ := hx.ew
   have eg : a'.tmps[31]?.getD undef = _ := hd 18 31 rfl rfl
   first
   | exact unA 18 31 eg
   | (have e35 : a'.tmps[35]?.getD undef = _ := hd 22 35 rfl rfl; refine .inl ⟨wanted_of (j := 18) (d := 31) rfl rfl eg, ?_⟩; clear hs hd hx eg; go_simp; exact ⟨Ext.refl _ _, rfl⟩)
  ·intro a' w' hx hs hd
   obtain ⟨y, rfl⟩ := hx.ew
   have eg : a'.tmps[31]?.getD undef = _ := hd 18 31 rfl rfl
   first
   | exact unA 18 31 eg
   | (have e36 : a'.tmps[36]?.getD undef = _ := hd 23 36 rfl rfl; refine .inl ⟨wanted_of (j := 18) (d := 31) rfl rfl eg, ?_⟩; clear hs hd hx eg; go_simp; exact ⟨Ext.refl _ _, rfl⟩)
  ·intro a' w' hx hs hd
   obtain ⟨y, rfl⟩ := hx.ew
   have eg : a'.tmps[31]?.getD undef = _ := hd 18 31 rfl rfl
   first
   | exact unA 18 31 eg
   | (have e33 : a'.tmps[33]?.getD undef = _ := hd 20 33 rfl rfl; have e37 : a'.tmps[37]?.getD undef = _ := hd 24 37 rfl rfl; refine .inl ⟨wanted_of (j := 18) (d := 31) rfl rfl eg, ?_⟩; clear hs hd hx eg; go_simp; exact ⟨Ext.refl _ _, rfl⟩)
  ·intro a' w' hx hs hd
   obtain ⟨y, rfl⟩ := hx.ew
   have e31 : a'.tmps[31]?.getD undef = _ := hd 18 31 rfl rfl
   have e38 : a'.tmps[38]?.getD undef = _ := hd 25 38 rfl rfl
   refine .inl ⟨rfl, ?_⟩
   clear hs hd hx
   go_simp
   exact ⟨Ext.refl _ _, rfl⟩
  ·intro a' w' hx hs hd
   obtain ⟨y, rfl⟩ := hx.ew
   have e39 : a'.tmps[39]?.getD undef = _ := hd 26 39 rfl rfl
   refine .inl ⟨rfl, ?_⟩
   clear hs hd hx
   go_simp
   exact ⟨Ext.refl _ _, rfl⟩
  ·intro a' w' hx hs hd
   obtain ⟨y, rfl⟩ := hx.ew
   have eg : a'.tmps[40]?.getD undef = _ := hd 27 40 rfl rfl
   first
   | exact unA 27 40 eg
   | (have e0 : a'.tmps[0]?.getD undef = _ := hs 0 rfl; simp only [aL, aS, aZ] at e0; refine .inl ⟨wanted_of (j := 27) (d := 40) rfl rfl eg, ?_⟩; clear hs hd hx eg; go_simp; exact ⟨Ext.refl _ _, rfl⟩)
  ·intro a' w' hx hs hd
   obtain ⟨y, rfl⟩ := hx.ew
   have eg : a'.tmps[40]?.getD undef = _ := hd 27 40 rfl rfl
   first
   | exact unA 27 40 eg
   | (have e41 : a'.tmps[41]?.getD undef = _ := hd 28 41 rfl rfl; refine .inl ⟨wanted_of (j := 27) (d := 40) rfl rfl eg, ?_⟩; clear hs hd hx eg; go_simp; exact (KU.out _ (exG0)).mono (fun e w'' ⟨he, n, hx⟩ => ⟨_, he, by subst hx; exact (Ext.refl _ _).drewN n, rfl⟩))
  ·intro a' w' hx hs hd
   obtain ⟨y, rfl⟩ := hx.ew
   have eg : a'.tmps[40]?.getD undef = _ := hd 27 40 rfl rfl
   first
   | exact unA 27 40 eg
   | (have e1 : a'.tmps[1]?.getD undef = _ := hs 1 rfl; simp only [aL, aS, aZ] at e1; refine .inl ⟨wanted_of (j := 27) (d := 40) rfl rfl eg, ?_⟩; clear hs hd hx eg; go_simp; exact ⟨Ext.refl _ _, rfl⟩)
  ·intro a' w' hx hs hd
   obtain ⟨y, rfl⟩ := hx.ew
   have eg : a'.tmps[40]?.getD undef = _ := hd 27 40 rfl rfl
   first
   | exact unA 27 40 eg
   | (have e43 : a'.tmps[43]?.getD undef = _ := hd 30 43 rfl rfl; refine .inl ⟨wanted_of (j := 27) (d := 40) rfl rfl eg, ?_⟩; clear hs hd hx eg; go_simp; exact (KV.out _ (exG0)).mono (fun e w'' ⟨he, n, hx⟩ => ⟨_, he, by subst hx; exact (Ext.refl _ _).drewN n, rfl⟩))
  ·intro a' w' hx hs hd
   obtain ⟨y, rfl⟩ := hx.ew
   have eg : a'.tmps[40]?.getD undef = _ := hd 27 40 rfl rfl
   first
   | exact unA 27 40 eg
   | (have e42 : a'.tmps[42]?.getD undef = _ := hd 29 42 rfl rfl; have e44 : a'.tmps[44]?.getD undef = _ := hd 31 44 rfl rfl; refine .inl ⟨wanted_of (j := 27) (d := 40) rfl rfl eg, ?_⟩; clear hs hd hx eg; go_simp; exact ⟨Ext.refl _ _, rfl⟩)
  ·intro a' w' hx hs hd
   obtain ⟨y, rfl⟩ := hx.ew
   have e40 : a'.tmps[40]?.getD undef = _ := hd 27 40 rfl rfl
   have e45 : a'.tmps[45]?.getD undef = _ := hd 32 45 rfl rfl
   refine .inl ⟨rfl, ?_⟩
   clear hs hd hx
   go_simp
   exact ⟨Ext.refl _ _, rfl⟩
  ·intro a' w' hx hs hd
   obtain ⟨y, rfl⟩ := hx.ew
   have e46 : a'.tmps[46]?.getD undef = _ := hd 33 46 rfl rfl
   refine .inl ⟨rfl, ?_⟩
   clear hs hd hx
   go_simp
   exact ⟨Ext.refl _ _, rfl⟩
  ·intro a' w' hx hs hd
   obtain ⟨y, rfl⟩ := hx.ew
   have eg : a'.tmps[47]?.getD undef = _ := hd 34 47 rfl rfl
   first
   | exact unA 34 47 eg
   | (have e0 : a'.tmps[0]?.getD undef = _ := hs 0 rfl; simp only [aL, aS, aZ] at e0; refine .inl ⟨wanted_of (j := 34) (d := 47) rfl rfl eg, ?_⟩; clear hs hd hx eg; go_simp; exact ⟨Ext.refl _ _, rfl⟩)
  ·intro a' w' hx hs hd
   obtain ⟨y, rfl⟩ := hx.ew
   have eg : a'.tmps[47]?.getD undef = _ := hd 34 47 rfl rfl
   first
   | exact unA 34 47 eg
   | (have e48 : a'.tmps[48]?.getD undef = _ := hd 35 48 rfl rfl; refine .inl ⟨wanted_of (j := 34) (d := 47) rfl rfl eg, ?_⟩; clear hs hd hx eg; go_simp; exact (KT.out _ (exG0)).mono (fun e w'' ⟨he, hx⟩ => ⟨_, he, hx, rfl⟩))
  ·intro a' w' hx hs hd
   obtain ⟨y, rfl⟩ := hx.ew
   have eg : a'.tmps[47]?.getD undef = _ := hd 34 47 rfl rfl
   first
   | exact unA 34 47 eg
   | (have e1 : a'.tmps[1]?.getD undef = _ := hs 1 rfl; simp only [aL, aS, aZ] at e1; refine .inl ⟨wanted_of (j := 34) (d := 47) rfl rfl eg, ?_⟩; clear hs hd hx eg; go_simp; exact ⟨Ext.refl _ _, rfl⟩)
  ·intro a' w' hx hs hd
   obtain ⟨y, rfl⟩ := hx.ew
   have eg : a'.tmps[47]?.getD undef = _ := hd 34 47 rfl rfl
   first
   | exact unA 34 47 eg
   | (have e50 : a'.tmps[50]?.getD undef = _ := hd 37 50 rfl rfl; refine .inl ⟨wanted_of (j := 34) (d := 47) rfl rfl eg, ?_⟩; clear hs hd hx eg; go_simp; exact (KS.out _ (exG0)).mono (fun e w'' ⟨he, hx⟩ => ⟨_, he, hx, rfl⟩))
  ·intro a' w' hx hs hd
   obtain ⟨y, rfl⟩ := hx.ew
   have eg : a'.tmps[47]?.getD undef = _ := hd 34 47 rfl rfl
   first
   | exact unA 34 47 eg
   | (have e49 : a'.tmps[49]?.getD undef = _ := hd 36 49 rfl rfl; have e51 : a'.tmps[51]?.getD undef = _ := hd 38 51 rfl rfl; refine .inl ⟨wanted_of (j := 34) (d := 47) rfl rfl eg, ?_⟩; clear hs hd hx eg; go_simp; exact ⟨Ext.refl _ _, rfl⟩)
  ·intro a' w' hx hs hd
   obtain ⟨y, rfl⟩ := hx.ew
   have e47 : a'.tmps[47]?.getD undef = _ := hd 34 47 rfl rfl
   have e52 : a'.tmps[52]?.getD undef = _ := hd 39 52 rfl rfl
   refine .inl ⟨rfl, ?_⟩
   clear hs hd hx
   go_simp
   exact ⟨Ext.refl _ _, rfl⟩
 case' q39 =>
  intro vs w' hx hRR
  obtain ⟨x1, rfl⟩ := hx.ew
  have q0 : vs 0 = _ := hRR 0 (by decide)
  obtain ⟨fa, fc, q1, hF⟩ : ∃ a cap, vs 1 = .agg #[.int .i64 ge, .slice a gm.length cap] ∧ Ints x1.on a cap gm := hRR 1 (by decide)
  have q2 : vs 2 = _ := hRR 2 (by decide)
  have q3 : vs 3 = _ := hRR 3 (by decide)
  have q4 : vs 4 = _ := hRR 4 (by decide)
  have q5 : vs 5 = _ := hRR 5 (by decide)
  have q6 : vs 6 = _ := hRR 6 (by decide)
  have q7 : vs 7 = _ := hRR 7 (by decide)
  have q8 : vs 8 = _ := hRR 8 (by decide)
  have q9 : vs 9 = _ := hRR 9 (by decide)
  obtain ⟨na, nc, q10, hN⟩ : ∃ a cap, vs 10 = .slice a gn.length cap ∧ Ints x1.on a cap gn := hRR 10 (by decide)
  have q11 : vs 11 = _ := hRR 11 (by decide)
  have q12 : vs 12 = _ := hRR 12 (by decide)
  have q13 : vs 13 = _ := hRR 13 (by decide)
  have q14 : vs 14 = _ := hRR 14 (by decide)
  have q15 : vs 15 = _ := hRR 15 (by decide)
  have q16 : vs 16 = _ := hRR 16 (by decide)
  have q17 : vs 17 = _ := hRR 17 (by decide)
  have q18 : vs 18 = _ := hRR 18 (by decide)
  have q19 : vs 19 = _ := hRR 19 (by decide)
  have q20 : vs 20 = _ := hRR 20 (by decide)
  have q21 : vs 21 = _ := hRR 21 (by decide)
  have q22 : vs 22 = _ := hRR 22 (by decide)
  have q23 : vs 23 = _ := hRR 23 (by decide)
  have q24 : vs 24 = _ := hRR 24 (by decide)
  have q25 : vs 25 = _ := hRR 25 (by decide)
  have q26 : vs 26 = _ := hRR 26 (by decide)
  have q27 : vs 27 = _ := hRR 27 (by decide)
  have q28 : vs 28 = _ := hRR 28 (by decide)
  have q29 : vs 29 = _ := hRR 29 (by decide)
  have q30 : vs 30 = _ := hRR 30 (by decide)
  have q31 : vs 31 = _ := hRR 31 (by decide)
  have q32 : vs 32 = _ := hRR 32 (by decide)
  have q33 : vs 33 = _ := hRR 33 (by decide)
  have q34 : vs 34 = _ := hRR 34 (by decide)
  have q35 : vs 35 = _ := hRR 35 (by decide)
  have q36 : vs 36 = _ := hRR 36 (by decide)
  have q37 : vs 37 = _ := hRR 37 (by decide)
  have q38 : vs 38 = _ := hRR 38 (by decide)
  have q39 : vs 39 = _ := hRR 39 (by decide)
  have q40 : vs 40 = _ := hRR 40 (by decide)
  clear hRR hx
  simp only [putAll, List.take_succ_cons, List.take_zero, List.drop_succ_cons, List.drop_zero, Act.put, List.setIfInBounds_toArray, List.set_cons_zero, List.set_cons_succ, Nat.reduceAdd, Nat.zero_add]
  simp only [q0, q1, q2, q3, q4, q5, q6, q7, q8, q9, q10, q11, q12, q13, q14, q15, q16, q17, q18, q19, q20, q21, q22, q23, q24, q25, q26, q27, q28, q29, q30, q31, q32, q33, q34, q35, q36, q37, q38, q39, q40]
  clear q0 q1 q2 q3 q4 q5 q6 q7 q8 q9 q10 q11 q12 q13 q14 q15 q16 q17 q18 q19 q20 q21 q22 q23 q24 q25 q26 q27 q28 q29 q30 q31 q32 q33 q34 q35 q36 q37 q38 q39 q40 vs
 clear hF hN
 go_wp2_with fail
 go_loopg [5, 6, 7] (sortK g.keys).length (fun n iv v6 v7 wr => ∃ (i : Nat) (z : EW Non w), i ≤ (sortK g.keys).length ∧ n = (sortK g.keys).length - i ∧ iv = .int .i64 i ∧ wr = z.on)
 case atStart => exact ⟨0, ⟨_, exG0⟩, Nat.zero_le _, rfl, rfl, rfl⟩
 case round =>
  obtain ⟨i, z, hi, hn, rfl, rfl⟩ := hrel
  have HG := hI_ hn; clear hn
  by_cases hlt : i < (sortK g.keys).length
  ·obtain ⟨gi, rfl, hgi, k0, k1⟩ := HIT.out i hlt
   obtain ⟨f1, f2, f3⟩ := HIF.out _ hlt
   generalize (sortK g.keys)[i] = p at *
   obtain ⟨pk, px⟩ := p
   have KGp : Hid (∀ w', Ext Non w w' → Calls Tryz.prog 30 #[.pointer (some ⟨b, 0, none⟩), .string pk] w' fun e w'' => e = .returned (.tuple #[.float .f64 px, .bool true]) ∧ w' = w'') := hI_ (fun w' x => by
    have h := KG.out pk w' x
    rw [show valK g.keys pk = px from f1, show hasK g.keys pk = true from f2] at h; exact h)
   have HC : Hid (∀ w' : World, Calls Tryz.prog 31 #[.float .f64 px] w' fun e w'' => e = .returned (.int .u64 px) ∧ w' = w'') := hI_ (fun w' => by have h := ref_Bits px w'; rw [show canonN px = px from f3] at h; exact h)
   clear f1 f2 f3
   have k0 : w.cell? ⟨gi, i * 2, none⟩ = some (.string pk) := k0
   have k1 : w.cell? ⟨gi, i * 2 + 1, none⟩ = some (.int .u64 px) := k1
   clear HIT HIF
   generalize (sortK g.keys).length = N at *
   go_wp2_with fail
   refine (KGp.out _ (exG0)).mono ?_
   rintro e w5 ⟨rfl, rfl⟩
   go_upto_region 7 with fail
   apply wp_region_rel (relR [Mo.is _, Mo.is _, Mo.is _, Mo.is _, Mo.is _, Mo.is _, Mo.is _, Mo.is _, Mo.is _, Mo.is _, Mo.is _, Mo.is _, Mo.is _, Mo.is _, Mo.is _]) (by kernel_rfl) (by kernel_rfl) (by kernel_rfl) (relR_mono _) (StepD.all ?st40) ?q40
   case st40 =>
    refine ⟨?_, ?_, ?_, ?_, ?_, ?_, ?_, ?_, ?_, ?_, ?_, ?_, ?_, ?_, ?_, trivial⟩
    ·intro a' w' hx hs hd
     obtain ⟨y, rfl⟩ := hx.ew
     have e7 : a'.tmps[7]?.getD undef = _ := hs 7 rfl
     simp only [aL, aS, aZ] at e7
     refine .inl ⟨rfl, ?_⟩
     clear hs hd hx
     go_simp
     exact ⟨Ext.refl _ _, rfl⟩
    ·intro a' w' hx hs hd
     obtain ⟨y, rfl⟩ := hx.ew
     have e76 : a'.tmps[76]?.getD undef = _ := hd 0 76 rfl rfl
     refine .inl ⟨rfl, ?_⟩
     clear hs hd hx
     go_simp
     exact ⟨Ext.refl _ _, rfl⟩
    ·intro a' w' hx hs hd
     obtain ⟨y, rfl⟩ := hx.ew
     have e77 : a'.tmps[77]?.getD undef = _ := hd 1 77 rfl rfl
     refine .inl ⟨rfl, ?_⟩
     clear hs hd hx
     go_simp
     exact ⟨Ext.refl _ _, rfl⟩
    ·intro a' w' hx hs hd
     obtain ⟨y, rfl⟩ := hx.ew
     have eg : a'.tmps[78]?.getD undef = _ := hd 2 78 rfl rfl
     first
     | exact unA 2 78 eg
     | (have e6 : a'.tmps[6]?.getD undef = _ := hs 6 rfl; simp only [aL, aS, aZ] at e6; refine .inl ⟨wanted_of (j := 2) (d := 78) rfl rfl eg, ?_⟩; clear hs hd hx eg; go_simp; exact ⟨Ext.refl _ _, rfl⟩)
    ·intro a' w' hx hs hd
     obtain ⟨y, rfl⟩ := hx.ew
     have eg : a'.tmps[78]?.getD undef = _ := hd 2 78 rfl rfl
     first
     | exact unA 2 78 eg
     | (have e79 : a'.tmps[79]?.getD undef = _ := hd 3 79 rfl rfl; refine .inl ⟨wanted_of (j := 2) (d := 78) rfl rfl eg, ?_⟩; clear hs hd hx eg; go_simp; exact (HC.out _).mono (fun e w'' ⟨he, hw⟩ => ⟨_, he, by rw [← hw]; exact Ext.refl _ _, rfl⟩))
    ·intro a' w' hx hs hd
     obtain ⟨y, rfl⟩ := hx.ew
     have eg : a'.tmps[78]?.getD undef = _ := hd 2 78 rfl rfl
     first
     | exact unA 2 78 eg
     | (have e1 : a'.tmps[1]?.getD undef = _ := hs 1 rfl; simp only [aL, aS, aZ] at e1; refine .inl ⟨wanted_of (j := 2) (d := 78) rfl rfl eg, ?_⟩; clear hs hd hx eg; go_simp; exact ⟨Ext.refl _ _, rfl⟩)
    ·intro a' w' hx hs hd
     obtain ⟨y, rfl⟩ := hx.ew
     have eg : a'.tmps[78]?.getD undef = _ := hd 2 78 rfl rfl
     first
     | exact unA 2 78 eg
     | (have e81 : a'.tmps[81]?.getD undef = _ := hd 5 81 rfl rfl; refine .inl ⟨wanted_of (j := 2) (d := 78) rfl rfl eg, ?_⟩; clear hs hd hx eg; go_simp; exact ⟨Ext.refl _ _, rfl⟩)
    ·intro a' w' hx hs hd
     obtain ⟨y, rfl⟩ := hx.ew
     have eg : a'.tmps[78]?.getD undef = _ := hd 2 78 rfl rfl
     first
     | exact unA 2 78 eg
     | (have e82 : a'.tmps[82]?.getD undef = _ := hd 6 82 rfl rfl; refine .inl ⟨wanted_of (j := 2) (d := 78) rfl rfl eg, ?_⟩; clear hs hd hx eg; go_simp; exact ⟨Ext.refl _ _, rfl⟩)
    ·intro a' w' hx hs hd
     obtain ⟨y, rfl⟩ := hx.ew
     have eg : a'.tmps[78]?.getD undef = _ := hd 2 78 rfl rfl
     first
     | exact unA 2 78 eg
     | (have e83 : a'.tmps[83]?.getD undef = _ := hd 7 83 rfl rfl; refine .inl ⟨wanted_of (j := 2) (d := 78) rfl rfl eg, ?_⟩; clear hs hd hx eg; go_simp; exact ⟨Ext.refl _ _, rfl⟩)
    ·intro a' w' hx hs hd
     obtain ⟨y, rfl⟩ := hx.ew
     have eg : a'.tmps[78]?.getD undef = _ := hd 2 78 rfl rfl
     first
     | exact unA 2 78 eg
     | (have e5 : a'.tmps[5]?.getD undef = _ := hs 5 rfl; simp only [aL, aS, aZ] at e5; refine .inl ⟨wanted_of (j := 2) (d := 78) rfl rfl eg, ?_⟩; clear hs hd hx eg; go_simp; exact ⟨Ext.refl _ _, rfl⟩)
    ·intro a' w' hx hs hd
     obtain ⟨y, rfl⟩ := hx.ew
     have eg : a'.tmps[78]?.getD undef = _ := hd 2 78 rfl rfl
     first
     | exact unA 2 78 eg
     | (have e84 : a'.tmps[84]?.getD undef = _ := hd 8 84 rfl rfl; have e85 : a'.tmps[85]?.getD undef = _ := hd 9 85 rfl rfl; refine .inl ⟨wanted_of (j := 2) (d := 78) rfl rfl eg, ?_⟩; clear hs hd hx eg; go_simp; exact ⟨Ext.refl _ _, rfl⟩)
    ·intro a' w' hx hs hd
     obtain ⟨y, rfl⟩ := hx.ew
     have eg : a'.tmps[78]?.getD undef = _ := hd 2 78 rfl rfl
     first
     | exact unA 2 78 eg
     | (have e86 : a'.tmps[86]?.getD undef = _ := hd 10 86 rfl rfl; refine .inl ⟨wanted_of (j := 2) (d := 78) rfl rfl eg, ?_⟩; clear hs hd hx eg; go_simp; exact ⟨Ext.refl _ _, rfl⟩)
    ·intro a' w' hx hs hd
     obtain ⟨y, rfl⟩ := hx.ew
     have eg : a'.tmps[78]?.getD undef = _ := hd 2 78 rfl rfl
     first
     | exact unA 2 78 eg
     | (have e87 : a'.tmps[87]?.getD undef = _ := hd 11 87 rfl rfl; refine .inl ⟨wanted_of (j := 2) (d := 78) rfl rfl eg, ?_⟩; clear hs hd hx eg; go_simp; exact ⟨Ext.refl _ _, rfl⟩)
    ·intro a' w' hx hs hd
     obtain ⟨y, rfl⟩ := hx.ew
     have eg : a'.tmps[78]?.getD undef = _ := hd 2 78 rfl rfl
     first
     | exact unA 2 78 eg
     | (have e80 : a'.tmps[80]?.getD undef = _ := hd 4 80 rfl rfl; have e88 : a'.tmps[88]?.getD undef = _ := hd 12 88 rfl rfl; refine .inl ⟨wanted_of (j := 2) (d := 78) rfl rfl eg, ?_⟩; clear hs hd hx eg; go_simp; exact ⟨Ext.refl _ _, rfl⟩)
    ·intro a' w' hx hs hd
     obtain ⟨y, rfl⟩ := hx.ew
     have e78 : a'.tmps[78]?.getD undef = _ := hd 2 78 rfl rfl
     have e89 : a'.tmps[89]?.getD undef = _ := hd 13 89 rfl rfl
     refine .inl ⟨rfl, ?_⟩
     clear hs hd hx
     go_simp
     exact ⟨Ext.refl _ _, rfl⟩
   case' q40 =>
    intro vs w' hx hRR
    obtain ⟨x5, rfl⟩ := hx.ew
    have q0 : vs 0 = _ := hRR 0 (by decide)
    have q1 : vs 1 = _ := hRR 1 (by decide)
    have q2 : vs 2 = _ := hRR 2 (by decide)
    have q3 : vs 3 = _ := hRR 3 (by decide)
    have q4 : vs 4 = _ := hRR 4 (by decide)
    have q5 : vs 5 = _ := hRR 5 (by decide)
    have q6 : vs 6 = _ := hRR 6 (by decide)
    have q7 : vs 7 = _ := hRR 7 (by decide)
    have q8 : vs 8 = _ := hRR 8 (by decide)
    have q9 : vs 9 = _ := hRR 9 (by decide)
    have q10 : vs 10 = _ := hRR 10 (by decide)
    have q11 : vs 11 = _ := hRR 11 (by decide)
    have q12 : vs 12 = _ := hRR 12 (by decide)
    have q13 : vs 13 = _ := hRR 13 (by decide)
    have q14 : vs 14 = _ := hRR 14 (by decide)
    clear hRR hx
    simp only [putAll, List.take_succ_cons, List.take_zero, List.drop_succ_cons, List.drop_zero, Act.put, List.setIfInBounds_toArray, List.set_cons_zero, List.set_cons_succ, Nat.reduceAdd, Nat.zero_add]
    simp only [q0, q1, q2, q3, q4, q5, q6, q7, q8, q9, q10, q11, q12, q13, q14]
    clear q0 q1 q2 q3 q4 q5 q6 q7 q8 q9 q10 q11 q12 q13 q14 vs
   go_wp2_with fail
   go_roundg (N - (i + 1))
   case measure => have := HG.out; omega
   case rel => exact ⟨i + 1, ⟨_, exG0⟩, hlt, rfl, by go_num, rfl⟩
  ·clear HIT HIF
   generalize (sortK g.keys).length = N at *
   obtain rfl : i = N := by omega
   go_wp2_with fail
   go_loopg [8, 9, 10, 11, 12] 11 (fun n cv v9 v10 v11 v12 wr => ∃ (i : Nat) (c : Int) (u : EW Non w), i ≤ 11 ∧ n = 11 - i ∧ cv = .int .i64 c ∧ wr = u.on ∧ Hid (c = (i : Int) - 1))
   case atStart => exact ⟨0, -1, ⟨_, exG0⟩, by omega, rfl, rfl, rfl, hI_ rfl⟩
   case round =>
    obtain ⟨j, c, u, hj, hn2, rfl, rfl, HC⟩ := hrel
    have HG2 := hI_ hn2; clear hn2
    by_cases hlt2 : j < 11
    ·have dle : decide (c ≤ 9) = true := decide_eq_true (by have := HC.out; omega)
     have hwc : IntKind.i64.wrap (c + 1) = c + 1 := IntWalk.i64_in _ (by have := HC.out; omega)
     by_cases hin : 1 ≤ c ∧ c ≤ 8
     ·obtain ⟨i8, hi8, rfl⟩ : ∃ i8 : Nat, i8 < 8 ∧ c = ((i8 + 1 : Nat) : Int) := ⟨(c - 1).toNat, by omega, by omega⟩
      have d1 : decide (1 ≤ ((i8 + 1 : Nat) : Int)) = true := decide_eq_true (by omega)
      have d8 : decide (((i8 + 1 : Nat) : Int) ≤ 8) = true := decide_eq_true (by omega)
      have sc := HST.out _ hi8
      obtain ⟨rc0, rc1⟩ := HRS.out _ hi8
      have KL8 : Hid (∀ w', Ext Non w w' → Calls Tryz.prog 32 #[.pointer (some ⟨b, 0, none⟩), .int .i64 ((i8 + 1 : Nat) : Int)] w' fun e w'' => e = .returned (.tuple #[.int .i64 (g.cl i8).stamp, .agg #[.int .i64 (g.cl i8).code, .float .f64 (g.cl i8).real]]) ∧ Ext Non w' w'') := hI_ (fun w' x => KL.out _ i8 (by omega) hi8 w' x)
      generalize g.cl i8 = cc at *
      obtain ⟨cst, ccd, crl⟩ := cc
      have sc : w.cell? ⟨sb, i8 + 1, none⟩ = some (.int .i64 cst) := sc
      have rc0 : w.cell? ⟨rb, (i8 + 1) * 2, none⟩ = some (.int .i64 ccd) := rc0
      have rc1 : w.cell? ⟨rb, (i8 + 1) * 2 + 1, none⟩ = some (.float .f64 crl) := rc1
      obtain ⟨cn, hcn⟩ : ∃ cn, cn = i8 + 1 := ⟨_, rfl⟩
      rw [← hcn] at sc rc0 rc1 KL8 d1 d8 hwc dle HC ⊢
      have cb1 : (0 : Int) ≤ (cn : Int) := by omega
      have cb2 : (cn : Int) < 9 := by omega
      clear hin hcn
      go_wp2_with fail
      refine Calls.ew (KL8.out _ (exG0)) ?_
      rintro e x2 rfl
      go_upto_region 14 with fail
      have BX2 := hI_ ((Bx.newAt x2.on [.int .i64 ccd, .float .f64 crl] 48 _ rfl).alloc (.cells #[.int .i64 0, .float .f64 0] 48))
      have BY := hI_ (Bx.newAt (x2.on.alloc (.cells [Value.int .i64 ccd, .float .f64 crl].toArray 48)) [.int .i64 0, .float .f64 0] 48 (x2.on.heap.size + 1) (by simp))
      have hkw : w.heap.size ≤ x2.on.heap.size := (exG0 : Ext Non w x2.on).size
      obtain ⟨x4, hx4⟩ := (exG0 : Ext Non w ((x2.on.alloc (.cells [Value.int .i64 ccd, .float .f64 crl].toArray 48)).alloc (.cells #[.int .i64 0, .float .f64 0] 48))).ew
      rw [hx4] at BX2 BY
      have hx5 : (x2.on.alloc (.cells #[Value.int .i64 ccd, .float .f64 crl] 48)).alloc (.cells #[.int .i64 0, .float .f64 0] 48) = x4.on := hx4
      rw [hx5]
      clear hx4 hx5
      obtain ⟨ky, hky⟩ : ∃ ky, ky = x2.on.heap.size + 1 := ⟨_, rfl⟩
      rw [← hky] at BY ⊢
      have hkyw : w.heap.size ≤ ky := by omega
      have hkxy : x2.on.heap.size < ky := by omega
      clear hky
      generalize x2.on.heap.size = kx at *
      clear x2
      go_upto_region 15 with fail
      have FX : Ext Non w x4.on := x4.ext
      have t5 : x4.on.cell? ⟨rl, 5, none⟩ = some (.slice (some ⟨sb, 0, none⟩) 9 9) := (FX.cell (lt_of_cell q5) (fun f => f)).trans q5
      have t6 : x4.on.cell? ⟨rl, 6, none⟩ = some (.slice (some ⟨rb, 0, none⟩) 9 9) := (FX.cell (lt_of_cell q6) (fun f => f)).trans q6
      have tsc : x4.on.cell? ⟨sb, cn, none⟩ = some (.int .i64 cst) := (FX.cell (lt_of_cell sc) (fun f => f)).trans sc
      have tr0 : x4.on.cell? ⟨rb, cn * 2, none⟩ = some (.int .i64 ccd) := (FX.cell (lt_of_cell rc0) (fun f => f)).trans rc0
      have tr1 : x4.on.cell? ⟨rb, cn * 2 + 1, none⟩ = some (.float .f64 crl) := (FX.cell (lt_of_cell rc1) (fun f => f)).trans rc1
      have hne : kx ≠ ky := by omega
      clear q0 q1 q2 q3 q5 q6 hv sc rc0 rc1
      generalize x4.on = w8 at *
      have z0 : w8.cell? ⟨kx, 0, none⟩ = some (.int .i64 ccd) := BX2.out.cell rfl
      have z1 : w8.cell? ⟨kx, 1, none⟩ = some (.float .f64 crl) := BX2.out.cell rfl
      have y0 : w8.cell? ⟨ky, 0, none⟩ = some (.int .i64 0) := BY.out.cell rfl
      have y1 : w8.cell? ⟨ky, 1, none⟩ = some (.float .f64 0) := BY.out.cell rfl
      have f0 : w8.frozen? ⟨ky, 0, none⟩ = false := froz_of_heap BY.out.h
      have f1 : w8.frozen? ⟨ky, 1, none⟩ = false := froz_of_heap BY.out.h
      go_region
      all_goals
       go_wp2_with fail
       refine Calls.ew (same_res ccd crl _) ?_
       rintro e x7 rfl
       go_wp2_with fail
       go_roundg (11 - (j + 1))
       case measure => have := HG2.out; omega
       case rel => exact ⟨j + 1, _, ⟨_, exG0⟩, by omega, rfl, rfl, rfl, hI_ (by have := HC.out; omega)⟩
     ·have hno : c < 1 ∨ 8 < c := by omega
      have HNO := hI_ hno
      clear hin hno
      go_wp2_with fail
      refine Calls.ew (ledger_Last_no (some ⟨b, 0, none⟩) c (.inr HNO.out) _) ?_
      rintro e x2 rfl
      go_upto_region 14 with fail
      have BX2 := hI_ ((Bx.newAt x2.on [.int .i64 0, .float .f64 0] 48 _ rfl).alloc (.cells #[.int .i64 0, .float .f64 0] 48))
      have BY := hI_ (Bx.newAt (x2.on.alloc (.cells [Value.int .i64 0, .float .f64 0].toArray 48)) [.int .i64 0, .float .f64 0] 48 (x2.on.heap.size + 1) (by simp))
      have hkw : w.heap.size ≤ x2.on.heap.size := (exG0 : Ext Non w x2.on).size
      obtain ⟨x4, hx4⟩ := (exG0 : Ext Non w ((x2.on.alloc (.cells [Value.int .i64 0, .float .f64 0].toArray 48)).alloc (.cells #[.int .i64 0, .float .f64 0] 48))).ew
      rw [hx4] at BX2 BY
      have hx5 : (x2.on.alloc (.cells #[Value.int .i64 0, .float .f64 0] 48)).alloc (.cells #[.int .i64 0, .float .f64 0] 48) = x4.on := hx4
      rw [hx5]
      clear hx4 hx5
      obtain ⟨ky, hky⟩ : ∃ ky, ky = x2.on.heap.size + 1 := ⟨_, rfl⟩
      rw [← hky] at BY ⊢
      have hkyw : w.heap.size ≤ ky := by omega
      have hkxy : x2.on.heap.size < ky := by omega
      clear hky
      generalize x2.on.heap.size = kx at *
      clear x2
      have z0 : x4.on.cell? ⟨kx, 0, none⟩ = some (.int .i64 0) := BX2.out.cell rfl
      have z1 : x4.on.cell? ⟨kx, 1, none⟩ = some (.float .f64 0) := BX2.out.cell rfl
      have y0 : x4.on.cell? ⟨ky, 0, none⟩ = some (.int .i64 0) := BY.out.cell rfl
      have y1 : x4.on.cell? ⟨ky, 1, none⟩ = some (.float .f64 0) := BY.out.cell rfl
      by_cases h1 : 1 ≤ c
      ·have d1 : decide (1 ≤ c) = true := decide_eq_true h1
       have d8 : decide (c ≤ 8) = false := decide_eq_false (by have := HNO.out; omega)
       clear h1
       go_wp2_with fail
       refine Calls.ew (same_res 0 0 _) ?_
       rintro e x7 rfl
       go_wp2_with fail
       go_roundg (11 - (j + 1))
       case measure => have := HG2.out; omega
       case rel => exact ⟨j + 1, _, ⟨_, exG0⟩, by omega, rfl, rfl, rfl, hI_ (by have := HC.out; omega)⟩
      ·have d1 : decide (1 ≤ c) = false := decide_eq_false h1
       clear h1
       go_wp2_with fail
       refine Calls.ew (same_res 0 0 _) ?_
       rintro e x7 rfl
       go_wp2_with fail
       go_roundg (11 - (j + 1))
       case measure => have := HG2.out; omega
       case rel => exact ⟨j + 1, _, ⟨_, exG0⟩, by omega, rfl, rfl, rfl, hI_ (by have := HC.out; omega)⟩
    ·have dle : decide (c ≤ 9) = false := decide_eq_false (by have := HC.out; omega)
     go_wp2
     go_ret
     exact ⟨rfl, exG0⟩
end Go.Proofs.YtfefeepljbfcdaaGreat
