/- Joined texts: R14n. What each proves stands at its head; no conditions beside those in its theorems. -/
import Derived.Laws.CopyOwn
import Derived.Deep.OwnRows
import Derived.Deep.RegionLaw
import Derived.Test.YtakbkpklfihfiaaPjBK
import Derived.Test.YtakbkpklfihfiaaPjBU
/- The law's comparison of two logs of layer 14. -/
namespace Go.Proofs.Ytakbkpklfihfiaa
open Go.RowKit Go.Lib F64
set_option linter.unusedSimpArgs false
set_option linter.unusedVariables false
attribute [local go_sem] run_store_float
attribute [local go_sem low] EW.cellN EW.frozN alloc_cell_or alloc_froz_or EW.cellF EW.frozF EW.cell1 EW.froz1
attribute [local go_sem] relAt relUpon
theorem sizeR_ext (b : Nat) (G : Nat → Prop) (g : Lo) (m : RL14) (hs : Sim g m) (n : Nat) (h0 : n = sizeG g) (hf : Few14 m) (w : World) (h : R14W w b G m) : Calls Try.prog 92 #[.pointer (some ⟨b, 0, none⟩)] w fun e w' => e = .returned (.int .i64 n) ∧ Ext Non w w' := by
  have h1 : n = sizeR m := by rw [h0]; exact hs.size
  exact ref14_Size b G m n h1 hf w h
theorem certsR_ext (b : Nat) (G : Nat → Prop) (g : Lo) (m : RL14) (hs : Sim g m) (hep : 0 ≤ m.ep ∧ m.ep ≤ 60) (hf : Few14 m) (w : World) (h : R14W w b G m) : Calls Try.prog 93 #[.pointer (some ⟨b, 0, none⟩)] w fun e w' => ∃ a cap, e = .returned (.slice a (certsG g).length cap) ∧ Certs w' a cap (certsG g) ∧ Ext Non w w' := by
  rw [← sim_certs hs]
  exact ref14_Certs b G m hep hf w h
set_option maxHeartbeats 8000000 in
set_option maxRecDepth 100000 in
theorem law14_same (b : Nat) (G : Nat → Prop) (g : Lo) (b2 : Nat) (G2 : Nat → Prop) (m : RL14) (hs : Sim g m) (hI : LoI g) (hep : 0 ≤ g.ep ∧ g.ep ≤ 60) (hf : Few14 m) (w : World) (h : LoW w b G g) (h2 : R14W w b2 G2 m) :
    Calls Try.prog 46 #[.pointer (some ⟨b, 0, none⟩), .pointer (some ⟨b2, 0, none⟩)] w fun e w' => e = .returned (.bool true) ∧ Ext Non w w' := by
  have HL := Go.Lib.hid h
  have HM := Go.Lib.hid h2
  have HF := Go.Lib.hid hf
  have HS := Go.Lib.hid hs
  have HI := Go.Lib.hid hI
  obtain ⟨_, _, _, _, _, _, _, _, Q⟩ := h2.ex
  have q0 := Q.c0
  have q2 := Q.c2
  rw [hs.ep] at q0
  rw [hs.view] at q2
  have HEPR : Hid (0 ≤ m.ep ∧ m.ep ≤ 60) := Go.Lib.hid (by rw [hs.ep]; exact hep)
  have hb2 := h2.lt.1
  obtain ⟨ep, hepe⟩ : ∃ ep, ep = g.ep := ⟨_, rfl⟩
  have HEPE := Go.Lib.hid hepe
  rw [← hepe] at q0 hep
  obtain ⟨vw, hvw⟩ : ∃ vw, vw = g.view := ⟨_, rfl⟩
  have HVW := Go.Lib.hid hvw
  rw [← hvw] at q2
  obtain ⟨sz, hsz⟩ : ∃ sz, sz = sizeG g := ⟨_, rfl⟩
  have HSZ := Go.Lib.hid hsz
  have d1 : (vw != vw) = false := by simp
  have d2 : ((sz : Int) != (sz : Int)) = false := by simp
  have hw1 : IntKind.i64.wrap (4 * ep) = 4 * ep := IntWalk.i64_in _ (by omega)
  have hw2 : IntKind.i64.wrap (ep + 1) = ep + 1 := IntWalk.i64_in _ (by omega)
  have hw3 : IntKind.i64.wrap (4 * (ep + 1)) = 4 * (ep + 1) := IntWalk.i64_in _ (by omega)
  have hw4 : IntKind.i64.wrap (4 * (ep + 1) + 1) = 4 * (ep + 1) + 1 := IntWalk.i64_in _ (by omega)
  have HEP := Go.Lib.hid hep
  clear Q h h2 hf hs hI hepe hvw hsz hep
  go_enter Try.func46, Try.ntmps46
  go_upto_region 1 with fail
  apply wp_region_rel (relR [Mo.is _, Mo.is _, Mo.is _, Mo.is _, Mo.is _, Mo.is _, Mo.is _, Mo.is _, Mo.is _, Mo.is _, Mo.is _, Mo.is _, Mo.is _, Mo.is _, Mo.is _, Mo.is _, moCs (certsG g), Mo.is _, moCs (certsG g), Mo.is _, Mo.is _, Mo.is _]) (by kernel_rfl) (by kernel_rfl) (by kernel_rfl) (relR_mono _) (StepD.all ?st1) ?q1
  case st1 =>
    refine ⟨?_, ?_, ?_, ?_, ?_, ?_, ?_, ?_, ?_, ?_, ?_, ?_, ?_, ?_, ?_, ?_, ?_, ?_, ?_, ?_, ?_, ?_, trivial⟩
    · intro a' w' hx hs hd
      obtain ⟨y, rfl⟩ := hx.ew
      have e0 : a'.tmps[0]?.getD undef = _ := hs 0 rfl
      simp only [List.getElem?_toArray, List.getElem?_cons_succ, List.getElem?_cons_zero, Option.getD_some, Array.getElem?_eq_some_iff] at e0
      refine .inl ⟨rfl, ?_⟩
      clear hs hd hx
      go_simp
      exact ⟨Ext.refl _ _, rfl⟩
    · intro a' w' hx hs hd
      obtain ⟨y, rfl⟩ := hx.ew
      have e14 : a'.tmps[14]?.getD undef = _ := hd 0 14 rfl rfl
      refine .inl ⟨rfl, ?_⟩
      clear hs hd hx
      go_simp
      exact (viewd_ext b G g vw HVW.out _ (HL.out.extN (by (repeat (first | with_reducible (first | exact Ext.refl _ _ | assumption | refine Ext.upN ?_ | refine Ext.alloc ?_ _ | refine Ext.drew ?_ | refine Ext.drewN ?_ _ | refine Ext.up1N (by first | omega | simp) ?_) | refine Ext.alloc ?_ _ | refine Ext.setCell ?_ (.inr (by first | omega | simp)) _))))).mono (fun e w'' ⟨he, hx⟩ => ⟨_, he, hx, rfl⟩)
    · intro a' w' hx hs hd
      obtain ⟨y, rfl⟩ := hx.ew
      have e1 : a'.tmps[1]?.getD undef = _ := hs 1 rfl
      simp only [List.getElem?_toArray, List.getElem?_cons_succ, List.getElem?_cons_zero, Option.getD_some, Array.getElem?_eq_some_iff] at e1
      refine .inl ⟨rfl, ?_⟩
      clear hs hd hx
      go_simp
      exact ⟨Ext.refl _ _, rfl⟩
    · intro a' w' hx hs hd
      obtain ⟨y, rfl⟩ := hx.ew
      have e16 : a'.tmps[16]?.getD undef = _ := hd 2 16 rfl rfl
      refine .inl ⟨rfl, ?_⟩
      clear hs hd hx
      go_simp
      exact ⟨Ext.refl _ _, rfl⟩
    · intro a' w' hx hs hd
      obtain ⟨y, rfl⟩ := hx.ew
      have e17 : a'.tmps[17]?.getD undef = _ := hd 3 17 rfl rfl
      refine .inl ⟨rfl, ?_⟩
      clear hs hd hx
      go_simp
      exact ⟨Ext.refl _ _, rfl⟩
    · intro a' w' hx hs hd
      obtain ⟨y, rfl⟩ := hx.ew
      have e18 : a'.tmps[18]?.getD undef = _ := hd 4 18 rfl rfl
      refine .inl ⟨rfl, ?_⟩
      clear hs hd hx
      go_simp
      exact ⟨Ext.refl _ _, rfl⟩
    · intro a' w' hx hs hd
      obtain ⟨y, rfl⟩ := hx.ew
      have e15 : a'.tmps[15]?.getD undef = _ := hd 1 15 rfl rfl
      have e19 : a'.tmps[19]?.getD undef = _ := hd 5 19 rfl rfl
      refine .inl ⟨rfl, ?_⟩
      clear hs hd hx
      go_simp
      exact ⟨Ext.refl _ _, rfl⟩
    · intro a' w' hx hs hd
      obtain ⟨y, rfl⟩ := hx.ew
      have e20 : a'.tmps[20]?.getD undef = _ := hd 6 20 rfl rfl
      refine .inl ⟨rfl, ?_⟩
      clear hs hd hx
      go_simp
      exact ⟨Ext.refl _ _, rfl⟩
    · intro a' w' hx hs hd
      obtain ⟨y, rfl⟩ := hx.ew
      have eg : a'.tmps[21]?.getD undef = _ := hd 7 21 rfl rfl
      first
      | (refine .inr ⟨unwanted_of (j := 7) (d := 21) rfl rfl eg (by rfl), ?_⟩; exact (rfl : (Mo.is undef).p undef y.on))
      | (refine .inr ⟨unwanted_und (j := 7) (d := 21) rfl rfl eg, ?_⟩; exact (rfl : (Mo.is undef).p undef y.on))
      | (have e0 : a'.tmps[0]?.getD undef = _ := hs 0 rfl; simp only [List.getElem?_toArray, List.getElem?_cons_succ, List.getElem?_cons_zero, Option.getD_some, Array.getElem?_eq_some_iff] at e0; refine .inl ⟨wanted_of (j := 7) (d := 21) rfl rfl eg, ?_⟩; clear hs hd hx eg; go_simp; exact ⟨Ext.refl _ _, rfl⟩)
    · intro a' w' hx hs hd
      obtain ⟨y, rfl⟩ := hx.ew
      have eg : a'.tmps[21]?.getD undef = _ := hd 7 21 rfl rfl
      first
      | (refine .inr ⟨unwanted_of (j := 7) (d := 21) rfl rfl eg (by rfl), ?_⟩; exact (rfl : (Mo.is undef).p undef y.on))
      | (refine .inr ⟨unwanted_und (j := 7) (d := 21) rfl rfl eg, ?_⟩; exact (rfl : (Mo.is undef).p undef y.on))
      | (have e22 : a'.tmps[22]?.getD undef = _ := hd 8 22 rfl rfl; refine .inl ⟨wanted_of (j := 7) (d := 21) rfl rfl eg, ?_⟩; clear hs hd hx eg; go_simp; exact (sized_ext b G g sz HSZ.out _ (HL.out.extN (by (repeat (first | with_reducible (first | exact Ext.refl _ _ | assumption | refine Ext.upN ?_ | refine Ext.alloc ?_ _ | refine Ext.drew ?_ | refine Ext.drewN ?_ _ | refine Ext.up1N (by first | omega | simp) ?_) | refine Ext.alloc ?_ _ | refine Ext.setCell ?_ (.inr (by first | omega | simp)) _)))) HI.out.fewB).mono (fun e w'' ⟨he, hx⟩ => ⟨_, he, hx, rfl⟩))
    · intro a' w' hx hs hd
      obtain ⟨y, rfl⟩ := hx.ew
      have eg : a'.tmps[21]?.getD undef = _ := hd 7 21 rfl rfl
      first
      | (refine .inr ⟨unwanted_of (j := 7) (d := 21) rfl rfl eg (by rfl), ?_⟩; exact (rfl : (Mo.is undef).p undef y.on))
      | (refine .inr ⟨unwanted_und (j := 7) (d := 21) rfl rfl eg, ?_⟩; exact (rfl : (Mo.is undef).p undef y.on))
      | (have e1 : a'.tmps[1]?.getD undef = _ := hs 1 rfl; simp only [List.getElem?_toArray, List.getElem?_cons_succ, List.getElem?_cons_zero, Option.getD_some, Array.getElem?_eq_some_iff] at e1; refine .inl ⟨wanted_of (j := 7) (d := 21) rfl rfl eg, ?_⟩; clear hs hd hx eg; go_simp; exact ⟨Ext.refl _ _, rfl⟩)
    · intro a' w' hx hs hd
      obtain ⟨y, rfl⟩ := hx.ew
      have eg : a'.tmps[21]?.getD undef = _ := hd 7 21 rfl rfl
      first
      | (refine .inr ⟨unwanted_of (j := 7) (d := 21) rfl rfl eg (by rfl), ?_⟩; exact (rfl : (Mo.is undef).p undef y.on))
      | (refine .inr ⟨unwanted_und (j := 7) (d := 21) rfl rfl eg, ?_⟩; exact (rfl : (Mo.is undef).p undef y.on))
      | (have e24 : a'.tmps[24]?.getD undef = _ := hd 10 24 rfl rfl; refine .inl ⟨wanted_of (j := 7) (d := 21) rfl rfl eg, ?_⟩; clear hs hd hx eg; go_simp; exact (sizeR_ext b2 G2 g m HS.out sz HSZ.out HF.out _ (HM.out.extN (by (repeat (first | with_reducible (first | exact Ext.refl _ _ | assumption | refine Ext.upN ?_ | refine Ext.alloc ?_ _ | refine Ext.drew ?_ | refine Ext.drewN ?_ _ | refine Ext.up1N (by first | omega | simp) ?_) | refine Ext.alloc ?_ _ | refine Ext.setCell ?_ (.inr (by first | omega | simp)) _))))).mono (fun e w'' ⟨he, hx⟩ => ⟨_, he, hx, rfl⟩))
    · intro a' w' hx hs hd
      obtain ⟨y, rfl⟩ := hx.ew
      have eg : a'.tmps[21]?.getD undef = _ := hd 7 21 rfl rfl
      first
      | (refine .inr ⟨unwanted_of (j := 7) (d := 21) rfl rfl eg (by rfl), ?_⟩; exact (rfl : (Mo.is undef).p undef y.on))
      | (refine .inr ⟨unwanted_und (j := 7) (d := 21) rfl rfl eg, ?_⟩; exact (rfl : (Mo.is undef).p undef y.on))
      | (have e23 : a'.tmps[23]?.getD undef = _ := hd 9 23 rfl rfl; have e25 : a'.tmps[25]?.getD undef = _ := hd 11 25 rfl rfl; refine .inl ⟨wanted_of (j := 7) (d := 21) rfl rfl eg, ?_⟩; clear hs hd hx eg; go_simp; exact ⟨Ext.refl _ _, rfl⟩)
    · intro a' w' hx hs hd
      obtain ⟨y, rfl⟩ := hx.ew
      have e21 : a'.tmps[21]?.getD undef = _ := hd 7 21 rfl rfl
      have e26 : a'.tmps[26]?.getD undef = _ := hd 12 26 rfl rfl
      refine .inl ⟨rfl, ?_⟩
      clear hs hd hx
      go_simp
      exact ⟨Ext.refl _ _, rfl⟩
    · intro a' w' hx hs hd
      obtain ⟨y, rfl⟩ := hx.ew
      have e27 : a'.tmps[27]?.getD undef = _ := hd 13 27 rfl rfl
      refine .inl ⟨rfl, ?_⟩
      clear hs hd hx
      go_simp
      exact ⟨Ext.refl _ _, rfl⟩
    · intro a' w' hx hs hd
      obtain ⟨y, rfl⟩ := hx.ew
      have eg : a'.tmps[28]?.getD undef = _ := hd 14 28 rfl rfl
      first
      | (refine .inr ⟨unwanted_of (j := 14) (d := 28) rfl rfl eg (by rfl), ?_⟩; exact (rfl : (Mo.is undef).p undef y.on))
      | (refine .inr ⟨unwanted_und (j := 14) (d := 28) rfl rfl eg, ?_⟩; exact (rfl : (Mo.is undef).p undef y.on))
      | (have e0 : a'.tmps[0]?.getD undef = _ := hs 0 rfl; simp only [List.getElem?_toArray, List.getElem?_cons_succ, List.getElem?_cons_zero, Option.getD_some, Array.getElem?_eq_some_iff] at e0; refine .inl ⟨wanted_of (j := 14) (d := 28) rfl rfl eg, ?_⟩; clear hs hd hx eg; go_simp; exact ⟨Ext.refl _ _, rfl⟩)
    · intro a' w' hx hs hd
      obtain ⟨y, rfl⟩ := hx.ew
      have eg : a'.tmps[28]?.getD undef = _ := hd 14 28 rfl rfl
      first
      | (refine .inr ⟨unwanted_of (j := 14) (d := 28) rfl rfl eg (by rfl), ?_⟩; exact (rfl : (Mo.is undef).p undef y.on))
      | (refine .inr ⟨unwanted_und (j := 14) (d := 28) rfl rfl eg, ?_⟩; exact (rfl : (Mo.is undef).p undef y.on))
      | (have e29 : a'.tmps[29]?.getD undef = _ := hd 15 29 rfl rfl; refine .inl ⟨wanted_of (j := 14) (d := 28) rfl rfl eg, ?_⟩; clear hs hd hx eg; go_simp; exact (log_Certs b G g _ (HL.out.extN (by (repeat (first | with_reducible (first | exact Ext.refl _ _ | assumption | refine Ext.upN ?_ | refine Ext.alloc ?_ _ | refine Ext.drew ?_ | refine Ext.drewN ?_ _ | refine Ext.up1N (by first | omega | simp) ?_) | refine Ext.alloc ?_ _ | refine Ext.setCell ?_ (.inr (by first | omega | simp)) _)))) HI.out.sigsB).mono (fun e w'' ⟨ra, rc, he, hR, hx⟩ => ⟨_, he, hx, ra, rc, rfl, hR⟩))
    · intro a' w' hx hs hd
      obtain ⟨y, rfl⟩ := hx.ew
      have eg : a'.tmps[28]?.getD undef = _ := hd 14 28 rfl rfl
      first
      | (refine .inr ⟨unwanted_of (j := 14) (d := 28) rfl rfl eg (by rfl), ?_⟩; exact (rfl : (Mo.is undef).p undef y.on))
      | (refine .inr ⟨unwanted_und (j := 14) (d := 28) rfl rfl eg, ?_⟩; exact (rfl : (Mo.is undef).p undef y.on))
      | (have e1 : a'.tmps[1]?.getD undef = _ := hs 1 rfl; simp only [List.getElem?_toArray, List.getElem?_cons_succ, List.getElem?_cons_zero, Option.getD_some, Array.getElem?_eq_some_iff] at e1; refine .inl ⟨wanted_of (j := 14) (d := 28) rfl rfl eg, ?_⟩; clear hs hd hx eg; go_simp; exact ⟨Ext.refl _ _, rfl⟩)
    · intro a' w' hx hs hd
      obtain ⟨y, rfl⟩ := hx.ew
      have eg : a'.tmps[28]?.getD undef = _ := hd 14 28 rfl rfl
      first
      | (refine .inr ⟨unwanted_of (j := 14) (d := 28) rfl rfl eg (by rfl), ?_⟩; exact (rfl : (Mo.is undef).p undef y.on))
      | (refine .inr ⟨unwanted_und (j := 14) (d := 28) rfl rfl eg, ?_⟩; exact (rfl : (Mo.is undef).p undef y.on))
      | (have e31 : a'.tmps[31]?.getD undef = _ := hd 17 31 rfl rfl; refine .inl ⟨wanted_of (j := 14) (d := 28) rfl rfl eg, ?_⟩; clear hs hd hx eg; go_simp; exact (certsR_ext b2 G2 g m HS.out HEPR.out HF.out _ (HM.out.extN (by (repeat (first | with_reducible (first | exact Ext.refl _ _ | assumption | refine Ext.upN ?_ | refine Ext.alloc ?_ _ | refine Ext.drew ?_ | refine Ext.drewN ?_ _ | refine Ext.up1N (by first | omega | simp) ?_) | refine Ext.alloc ?_ _ | refine Ext.setCell ?_ (.inr (by first | omega | simp)) _))))).mono (fun e w'' ⟨ra, rc, he, hR, hx⟩ => ⟨_, he, hx, ra, rc, rfl, hR⟩))
    · intro a' w' hx hs hd
      obtain ⟨y, rfl⟩ := hx.ew
      have eg : a'.tmps[28]?.getD undef = _ := hd 14 28 rfl rfl
      first
      | (refine .inr ⟨unwanted_of (j := 14) (d := 28) rfl rfl eg (by rfl), ?_⟩; exact (rfl : (Mo.is undef).p undef y.on))
      | (refine .inr ⟨unwanted_und (j := 14) (d := 28) rfl rfl eg, ?_⟩; exact (rfl : (Mo.is undef).p undef y.on))
      | (obtain ⟨ra1, rc1, e30, hR1⟩ : ∃ ra rc, a'.tmps[30]?.getD undef = .slice ra (certsG g).length rc ∧ Certs y.on ra rc (certsG g) := hd 16 30 rfl rfl; obtain ⟨ra2, rc2, e32, hR2⟩ : ∃ ra rc, a'.tmps[32]?.getD undef = .slice ra (certsG g).length rc ∧ Certs y.on ra rc (certsG g) := hd 18 32 rfl rfl; refine .inl ⟨wanted_of (j := 14) (d := 28) rfl rfl eg, ?_⟩; clear hs hd hx eg; go_simp; exact (ref13_SameCerts ra1 rc1 (certsG g) ra2 rc2 (certsG g) _ hR1 hR2).mono (fun e w'' ⟨he, hx⟩ => ⟨.bool true, he.trans (congrArg _ (congrArg _ (certsEq_refl _))), hx, rfl⟩))
    · intro a' w' hx hs hd
      obtain ⟨y, rfl⟩ := hx.ew
      have eg : a'.tmps[28]?.getD undef = _ := hd 14 28 rfl rfl
      first
      | (refine .inr ⟨unwanted_of (j := 14) (d := 28) rfl rfl eg (by rfl), ?_⟩; exact (rfl : (Mo.is undef).p undef y.on))
      | (refine .inr ⟨unwanted_und (j := 14) (d := 28) rfl rfl eg, ?_⟩; exact (rfl : (Mo.is undef).p undef y.on))
      | (have e33 : a'.tmps[33]?.getD undef = _ := hd 19 33 rfl rfl; refine .inl ⟨wanted_of (j := 14) (d := 28) rfl rfl eg, ?_⟩; clear hs hd hx eg; go_simp; exact ⟨Ext.refl _ _, rfl⟩)
    · intro a' w' hx hs hd
      obtain ⟨y, rfl⟩ := hx.ew
      have e28 : a'.tmps[28]?.getD undef = _ := hd 14 28 rfl rfl
      have e34 : a'.tmps[34]?.getD undef = _ := hd 20 34 rfl rfl
      refine .inl ⟨rfl, ?_⟩
      clear hs hd hx
      go_simp
      exact ⟨Ext.refl _ _, rfl⟩
  case' q1 =>
    intro vs w' hx hRR
    obtain ⟨x1, rfl⟩ := hx.ew
    have q0 : vs 0 = _ := hRR 0 (by decide)
    have q1 : vs 1 = _ := hRR 1 (by decide)
    have q2 : vs 2 = _ := hRR 2 (by decide)
    have q3 : vs 3 = _ := hRR 3 (by decide)
    have q4 : vs 4 = _ := hRR 4 (by decide)
    have q5 : vs 5 = _ := hRR 5 (by decide)
    have q6 : vs 6 = _ := hRR 6 (by decide)
    have q7 : vs 7 = _ := hRR 7 (by decide)
    have q8 : vs 8 = _ := hRR 8 (by decide)
    have q9 : vs 9 = _ := hRR 9 (by decide)
    have q10 : vs 10 = _ := hRR 10 (by decide)
    have q11 : vs 11 = _ := hRR 11 (by decide)
    have q12 : vs 12 = _ := hRR 12 (by decide)
    have q13 : vs 13 = _ := hRR 13 (by decide)
    have q14 : vs 14 = _ := hRR 14 (by decide)
    have q15 : vs 15 = _ := hRR 15 (by decide)
    obtain ⟨ra1, rc1, q16, hR1⟩ : ∃ ra rc, vs 16 = .slice ra (certsG g).length rc ∧ Certs x1.on ra rc (certsG g) := hRR 16 (by decide)
    have q17 : vs 17 = _ := hRR 17 (by decide)
    obtain ⟨ra2, rc2, q18, hR2⟩ : ∃ ra rc, vs 18 = .slice ra (certsG g).length rc ∧ Certs x1.on ra rc (certsG g) := hRR 18 (by decide)
    have q19 : vs 19 = _ := hRR 19 (by decide)
    have q20 : vs 20 = _ := hRR 20 (by decide)
    have q21 : vs 21 = _ := hRR 21 (by decide)
    clear hRR hx
    simp only [putAll, List.take_succ_cons, List.take_zero, List.drop_succ_cons, List.drop_zero, Act.put, List.setIfInBounds_toArray, List.set_cons_zero, List.set_cons_succ, Nat.reduceAdd, Nat.zero_add]
    simp only [q0, q1, q2, q3, q4, q5, q6, q7, q8, q9, q10, q11, q12, q13, q14, q15, q16, q17, q18, q19, q20, q21]
    clear q0 q1 q2 q3 q4 q5 q6 q7 q8 q9 q10 q11 q12 q13 q14 q15 q16 q17 q18 q19 q20 q21 vs
  clear hR1 hR2 d1 d2
  go_upto_region 4 with fail
  go_loopg [5] 6 (fun k nv wr => ∃ (i : Nat) (z : EW Non w), i ≤ 6 ∧ k = 6 - i ∧ nv = .int .i64 (4 * ep + (i : Int)) ∧ wr = z.on)
  case atStart => exact ⟨0, ⟨_, by (repeat (first | with_reducible (first | exact Ext.refl _ _ | assumption | refine Ext.upN ?_ | refine Ext.alloc ?_ _ | refine Ext.drew ?_ | refine Ext.drewN ?_ _ | refine Ext.up1N (by first | omega | simp) ?_) | refine Ext.alloc ?_ _ | refine Ext.setCell ?_ (.inr (by first | omega | simp)) _))⟩, by omega, rfl, by simp, rfl⟩
  case round =>
    obtain ⟨i, z, hi, hk, rfl, rfl⟩ := hrel
    have HG := Go.Lib.hid hk; clear hk x1
    by_cases hlt : i < 6
    · have d0 : decide (4 * ep + (i : Int) ≤ 4 * (ep + 1) + 1) = true := decide_eq_true (by omega)
      have hw5 : IntKind.i64.wrap (4 * ep + (i : Int) + 1) = 4 * ep + (i : Int) + 1 := IntWalk.i64_in _ (by have := HEP.out; omega)
      have h64 : I64 (4 * ep + (i : Int)) := by have := HEP.out; unfold I64; omega
      have HNN := Go.Lib.hid h64
      clear h64
      obtain ⟨c1, s1, t1, key1, r1, id1, e1, hT1, hR1, hD1⟩ := told_parts (proposedO g (4 * ep + (i : Int)))
      obtain ⟨c2, s2, t2, key2, r2, id2, e2, hT2, hR2, hD2⟩ := told_parts (committedO g (4 * ep + (i : Int)))
      clear hR1 hD1 hR2 hD2
      have KP := Go.Lib.hid (fun w' (y : Ext Non w w') => log_Proposed b G g (4 * ep + (i : Int)) HNN.out w' (HL.out.extN y))
      have KC := Go.Lib.hid (fun w' (y : Ext Non w w') => log_Committed b G g (4 * ep + (i : Int)) HNN.out w' (HL.out.extN y))
      have KQ := Go.Lib.hid (fun w' (y : Ext Non w w') => ref14_Proposed b2 G2 m (4 * ep + (i : Int)) w' (HM.out.extN y))
      have KD := Go.Lib.hid (fun w' (y : Ext Non w w') => ref14_Committed b2 G2 m (4 * ep + (i : Int)) w' (HM.out.extN y))
      have KA := Go.Lib.hid (fun w' (y : Ext Non w w') => log_Prepared b G g (4 * ep + (i : Int)) HNN.out w' (HL.out.extN y))
      have KB := Go.Lib.hid (fun w' (y : Ext Non w w') => ref14_Prepared b2 G2 m (4 * ep + (i : Int)) HF.out w' (HM.out.extN y))
      rw [sim_proposed HS.out] at KQ
      rw [sim_committed HS.out] at KD
      rw [sim_prepared HS.out] at KB
      rw [hT1] at KP KQ
      rw [hT2] at KC KD
      have KW1 := Go.Lib.hid (fun w' => ref_Whole c1 s1 t1 key1 r1 id1 c1 s1 t1 key1 r1 id1 w')
      have KW2 := Go.Lib.hid (fun w' => ref_Whole c2 s2 t2 key2 r2 id2 c2 s2 t2 key2 r2 id2 w')
      rw [whole_refl] at KW1 KW2
      generalize preparedB g (4 * ep + (i : Int)) = pb at *
      have d5 : (pb != pb) = false := by simp
      have d6 : (e1 != e1) = false := by simp
      have d7 : (e2 != e2) = false := by simp
      clear hT1 hT2
      go_wp2_with fail
      refine Calls.ew (KP.out _ (by (repeat (first | with_reducible (first | exact Ext.refl _ _ | assumption | refine Ext.upN ?_ | refine Ext.alloc ?_ _ | refine Ext.drew ?_ | refine Ext.drewN ?_ _ | refine Ext.up1N (by first | omega | simp) ?_) | refine Ext.alloc ?_ _ | refine Ext.setCell ?_ (.inr (by first | omega | simp)) _)))) ?_
      rintro e x2 rfl
      go_upto_region 7 with (refine wpList_store_box rfl 49 _ _ rfl x2.on.heap.size _ [.int .i64 c1, .int .i64 s1, .int .i64 t1, .string key1, .float .f64 r1, .int .i64 id1] _ rfl rfl (Bx.newAt _ _ _ _ rfl) rfl info_req6' (by simp [Value.oneCell']) (fun W hB => ?_); have Bp := Go.Lib.hid hB; clear hB)
      have XW : Ext Non z.on W.on := (by (repeat (first | with_reducible (first | exact Ext.refl _ _ | assumption | refine Ext.upN ?_ | refine Ext.alloc ?_ _ | refine Ext.drew ?_ | refine Ext.drewN ?_ _ | refine Ext.up1N (by first | omega | simp) ?_) | refine Ext.alloc ?_ _ | refine Ext.setCell ?_ (.inr (by first | omega | simp)) _)) : Ext Non z.on x2.on).trans (by (repeat (first | with_reducible (first | exact Ext.refl _ _ | assumption | refine Ext.upN ?_ | refine Ext.alloc ?_ _ | refine Ext.drew ?_ | refine Ext.drewN ?_ _ | refine Ext.up1N (by first | omega | simp) ?_) | refine Ext.alloc ?_ _ | refine Ext.setCell ?_ (.inr (by first | omega | simp)) _)) : Ext Non x2.on W.on)
      obtain ⟨x3, hx3⟩ := XW.ew
      rw [hx3] at Bp ⊢
      clear hx3 XW W
      try simp only [Act.put]
      generalize x2.on.heap.size = kp at *
      clear x2
      go_wp2_with fail
      refine Calls.ew (KQ.out _ (by (repeat (first | with_reducible (first | exact Ext.refl _ _ | assumption | refine Ext.upN ?_ | refine Ext.alloc ?_ _ | refine Ext.drew ?_ | refine Ext.drewN ?_ _ | refine Ext.up1N (by first | omega | simp) ?_) | refine Ext.alloc ?_ _ | refine Ext.setCell ?_ (.inr (by first | omega | simp)) _)))) ?_
      rintro e x4 rfl
      go_upto_region 8 with (refine wpList_store_box rfl 49 _ _ rfl x4.on.heap.size _ [.int .i64 c1, .int .i64 s1, .int .i64 t1, .string key1, .float .f64 r1, .int .i64 id1] _ rfl rfl (Bx.newAt _ _ _ _ rfl) rfl info_req6' (by simp [Value.oneCell']) (fun W hB => ?_); have Bq := Go.Lib.hid hB; clear hB)
      have XP : Ext Non x3.on W.on := x4.ext.trans (by (repeat (first | with_reducible (first | exact Ext.refl _ _ | assumption | refine Ext.upN ?_ | refine Ext.alloc ?_ _ | refine Ext.drew ?_ | refine Ext.drewN ?_ _ | refine Ext.up1N (by first | omega | simp) ?_) | refine Ext.alloc ?_ _ | refine Ext.setCell ?_ (.inr (by first | omega | simp)) _)) : Ext Non x4.on W.on)
      have Bp_ := Go.Lib.hid (Bp.out.extN XP)
      clear Bp
      obtain ⟨x5, hx5⟩ := (x3.ext.trans XP).ew
      rw [hx5] at Bq Bp_ ⊢
      clear hx5 XP W
      try simp only [Act.put]
      have Bp := Bp_
      clear Bp_
      generalize x4.on.heap.size = kq at *
      clear x4 x3
      go_wp2_with fail
      refine Calls.ew (KC.out _ (by (repeat (first | with_reducible (first | exact Ext.refl _ _ | assumption | refine Ext.upN ?_ | refine Ext.alloc ?_ _ | refine Ext.drew ?_ | refine Ext.drewN ?_ _ | refine Ext.up1N (by first | omega | simp) ?_) | refine Ext.alloc ?_ _ | refine Ext.setCell ?_ (.inr (by first | omega | simp)) _)))) ?_
      rintro e x6 rfl
      go_upto_region 9 with (refine wpList_store_box rfl 49 _ _ rfl x6.on.heap.size _ [.int .i64 c2, .int .i64 s2, .int .i64 t2, .string key2, .float .f64 r2, .int .i64 id2] _ rfl rfl (Bx.newAt _ _ _ _ rfl) rfl info_req6' (by simp [Value.oneCell']) (fun W hB => ?_); have Bc := Go.Lib.hid hB; clear hB)
      have XP : Ext Non x5.on W.on := x6.ext.trans (by (repeat (first | with_reducible (first | exact Ext.refl _ _ | assumption | refine Ext.upN ?_ | refine Ext.alloc ?_ _ | refine Ext.drew ?_ | refine Ext.drewN ?_ _ | refine Ext.up1N (by first | omega | simp) ?_) | refine Ext.alloc ?_ _ | refine Ext.setCell ?_ (.inr (by first | omega | simp)) _)) : Ext Non x6.on W.on)
      have Bp_ := Go.Lib.hid (Bp.out.extN XP)
      clear Bp
      have Bq_ := Go.Lib.hid (Bq.out.extN XP)
      clear Bq
      obtain ⟨x7, hx7⟩ := (x5.ext.trans XP).ew
      rw [hx7] at Bc Bp_ Bq_ ⊢
      clear hx7 XP W
      try simp only [Act.put]
      have Bp := Bp_
      clear Bp_
      have Bq := Bq_
      clear Bq_
      generalize x6.on.heap.size = kc at *
      clear x6 x5
      go_wp2_with fail
      refine Calls.ew (KD.out _ (by (repeat (first | with_reducible (first | exact Ext.refl _ _ | assumption | refine Ext.upN ?_ | refine Ext.alloc ?_ _ | refine Ext.drew ?_ | refine Ext.drewN ?_ _ | refine Ext.up1N (by first | omega | simp) ?_) | refine Ext.alloc ?_ _ | refine Ext.setCell ?_ (.inr (by first | omega | simp)) _)))) ?_
      rintro e x8 rfl
      go_upto_region 10 with (refine wpList_store_box rfl 49 _ _ rfl x8.on.heap.size _ [.int .i64 c2, .int .i64 s2, .int .i64 t2, .string key2, .float .f64 r2, .int .i64 id2] _ rfl rfl (Bx.newAt _ _ _ _ rfl) rfl info_req6' (by simp [Value.oneCell']) (fun W hB => ?_); have Bd := Go.Lib.hid hB; clear hB)
      have XP : Ext Non x7.on W.on := x8.ext.trans (by (repeat (first | with_reducible (first | exact Ext.refl _ _ | assumption | refine Ext.upN ?_ | refine Ext.alloc ?_ _ | refine Ext.drew ?_ | refine Ext.drewN ?_ _ | refine Ext.up1N (by first | omega | simp) ?_) | refine Ext.alloc ?_ _ | refine Ext.setCell ?_ (.inr (by first | omega | simp)) _)) : Ext Non x8.on W.on)
      have Bp_ := Go.Lib.hid (Bp.out.extN XP)
      clear Bp
      have Bq_ := Go.Lib.hid (Bq.out.extN XP)
      clear Bq
      have Bc_ := Go.Lib.hid (Bc.out.extN XP)
      clear Bc
      obtain ⟨x9, hx9⟩ := (x7.ext.trans XP).ew
      rw [hx9] at Bd Bp_ Bq_ Bc_ ⊢
      clear hx9 XP W
      try simp only [Act.put]
      have Bp := Bp_
      clear Bp_
      have Bq := Bq_
      clear Bq_
      have Bc := Bc_
      clear Bc_
      generalize x8.on.heap.size = kd at *
      clear x8 x7
      have zp0 : x9.on.cell? ⟨kp, 0, none⟩ = some (.int .i64 c1) := Bp.out.cell rfl
      have zp1 : x9.on.cell? ⟨kp, 1, none⟩ = some (.int .i64 s1) := Bp.out.cell rfl
      have zp2 : x9.on.cell? ⟨kp, 2, none⟩ = some (.int .i64 t1) := Bp.out.cell rfl
      have zp3 : x9.on.cell? ⟨kp, 3, none⟩ = some (.string key1) := Bp.out.cell rfl
      have zp4 : x9.on.cell? ⟨kp, 4, none⟩ = some (.float .f64 r1) := Bp.out.cell rfl
      have zp5 : x9.on.cell? ⟨kp, 5, none⟩ = some (.int .i64 id1) := Bp.out.cell rfl
      have zq0 : x9.on.cell? ⟨kq, 0, none⟩ = some (.int .i64 c1) := Bq.out.cell rfl
      have zq1 : x9.on.cell? ⟨kq, 1, none⟩ = some (.int .i64 s1) := Bq.out.cell rfl
      have zq2 : x9.on.cell? ⟨kq, 2, none⟩ = some (.int .i64 t1) := Bq.out.cell rfl
      have zq3 : x9.on.cell? ⟨kq, 3, none⟩ = some (.string key1) := Bq.out.cell rfl
      have zq4 : x9.on.cell? ⟨kq, 4, none⟩ = some (.float .f64 r1) := Bq.out.cell rfl
      have zq5 : x9.on.cell? ⟨kq, 5, none⟩ = some (.int .i64 id1) := Bq.out.cell rfl
      have zc0 : x9.on.cell? ⟨kc, 0, none⟩ = some (.int .i64 c2) := Bc.out.cell rfl
      have zc1 : x9.on.cell? ⟨kc, 1, none⟩ = some (.int .i64 s2) := Bc.out.cell rfl
      have zc2 : x9.on.cell? ⟨kc, 2, none⟩ = some (.int .i64 t2) := Bc.out.cell rfl
      have zc3 : x9.on.cell? ⟨kc, 3, none⟩ = some (.string key2) := Bc.out.cell rfl
      have zc4 : x9.on.cell? ⟨kc, 4, none⟩ = some (.float .f64 r2) := Bc.out.cell rfl
      have zc5 : x9.on.cell? ⟨kc, 5, none⟩ = some (.int .i64 id2) := Bc.out.cell rfl
      have zd0 : x9.on.cell? ⟨kd, 0, none⟩ = some (.int .i64 c2) := Bd.out.cell rfl
      have zd1 : x9.on.cell? ⟨kd, 1, none⟩ = some (.int .i64 s2) := Bd.out.cell rfl
      have zd2 : x9.on.cell? ⟨kd, 2, none⟩ = some (.int .i64 t2) := Bd.out.cell rfl
      have zd3 : x9.on.cell? ⟨kd, 3, none⟩ = some (.string key2) := Bd.out.cell rfl
      have zd4 : x9.on.cell? ⟨kd, 4, none⟩ = some (.float .f64 r2) := Bd.out.cell rfl
      have zd5 : x9.on.cell? ⟨kd, 5, none⟩ = some (.int .i64 id2) := Bd.out.cell rfl
      go_wp2_with fail
      refine Calls.ew (KW1.out _) ?_
      rintro e y1 rfl
      go_wp2_with fail
      refine Calls.ew (KW2.out _) ?_
      rintro e y2 rfl
      go_wp2_with fail
      refine Calls.ew (KA.out _ (by (repeat (first | with_reducible (first | exact Ext.refl _ _ | assumption | refine Ext.upN ?_ | refine Ext.alloc ?_ _ | refine Ext.drew ?_ | refine Ext.drewN ?_ _ | refine Ext.up1N (by first | omega | simp) ?_) | refine Ext.alloc ?_ _ | refine Ext.setCell ?_ (.inr (by first | omega | simp)) _)))) ?_
      rintro e y3 rfl
      go_wp2_with fail
      refine Calls.ew (KB.out _ (by (repeat (first | with_reducible (first | exact Ext.refl _ _ | assumption | refine Ext.upN ?_ | refine Ext.alloc ?_ _ | refine Ext.drew ?_ | refine Ext.drewN ?_ _ | refine Ext.up1N (by first | omega | simp) ?_) | refine Ext.alloc ?_ _ | refine Ext.setCell ?_ (.inr (by first | omega | simp)) _)))) ?_
      rintro e y4 rfl
      go_wp2_with fail
      go_roundg (6 - (i + 1))
      case measure => have := HG.out; omega
      case rel => exact ⟨i + 1, ⟨_, by (repeat (first | with_reducible (first | exact Ext.refl _ _ | assumption | refine Ext.upN ?_ | refine Ext.alloc ?_ _ | refine Ext.drew ?_ | refine Ext.drewN ?_ _ | refine Ext.up1N (by first | omega | simp) ?_) | refine Ext.alloc ?_ _ | refine Ext.setCell ?_ (.inr (by first | omega | simp)) _))⟩, by omega, rfl, by (first | (push_cast; rfl) | (push_cast; congr 1; omega) | (congr 1; push_cast; omega)), rfl⟩
    · obtain rfl : i = 6 := by omega
      have d0 : decide (4 * ep + ((6 : Nat) : Int) ≤ 4 * (ep + 1) + 1) = false := decide_eq_false (by omega)
      go_wp2
      go_ret
      exact ⟨rfl, by (repeat (first | with_reducible (first | exact Ext.refl _ _ | assumption | refine Ext.upN ?_ | refine Ext.alloc ?_ _ | refine Ext.drew ?_ | refine Ext.drewN ?_ _ | refine Ext.up1N (by first | omega | simp) ?_) | refine Ext.alloc ?_ _ | refine Ext.setCell ?_ (.inr (by first | omega | simp)) _))⟩
end Go.Proofs.Ytakbkpklfihfiaa
