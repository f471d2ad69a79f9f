/- Joined texts: Rep5. What each proves stands at its head; no conditions beside those in its theorems. -/
import Derived.Laws.CopyOwn
import Derived.Deep.OwnRows
import Derived.Deep.RegionLaw
import Derived.Test.YtflpkoafebjfdaaGreatProg
import Derived.Shelf.SlIter.Nil
import Derived.Shelf.SortM.Plain
import Derived.Shelf.SortM.SortNone
import Derived.Ground.GgzProg
import Derived.Ground.SlgmProg
import Derived.Test.YtflpkoafebjfdaaGreatPjBA
import Derived.Test.YtflpkoafebjfdaaGreatPjBG
/- Contracts of layer 18 (replica): leads, room. -/
namespace Go.Proofs.YtflpkoafebjfdaaGreat
open Go.RowKit Go.Lib F64
set_option linter.unusedSimpArgs false
set_option linter.unusedVariables false
attribute [local go_sem] run_store_float
attribute [local go_sem low] EW.cellN EW.frozN alloc_cell_or alloc_froz_or
attribute [local go_sem] relAt relUpon
theorem LoW.propOk {w : World} {b : Nat} {G : Nat → Prop} {l : Lo} (h : LoW w b G l) {n : Int} {q : Req} (hq : proposedO l n = some q) : ReqOk q := by
  unfold proposedO at hq
  cases hi : idxN l.ep n with
  | none => rw [hi] at hq; cases hq
  | some i =>
    rw [hi] at hq
    obtain ⟨a, c, pt, -, -, -, hsl, -⟩ := h.ex
    rcases (hsl i (idxN_lt hi).1).prop with ⟨-, e⟩ | ⟨k, r, -, e, -, hr, -⟩
    · have hq2 := e.symm.trans hq; cases hq2
    · have hq2 := e.symm.trans hq; cases hq2; exact hr
section
variable {b : Nat} {col : Nat → Nat} {A : RA} {g : Rp}
theorem rep_view (w : World) (h : RepW w b col A g) : Calls Tryz.prog 53 #[.pointer (some ⟨A.bl, 0, none⟩)] w fun e w' => e = .returned (.int .i64 g.log.view) ∧ w = w' := by
  obtain ⟨G, hL, -⟩ := (h.log id).ex
  exact log_View A.bl G g.log w hL
set_option maxHeartbeats 4000000 in
set_option maxRecDepth 100000 in
theorem rep_leads (w : World) (h : RepW w b col A g) : Calls Tryz.prog 267 #[.pointer (some ⟨b, 0, none⟩)] w fun e w' => e = .returned (.bool (leadsB g)) ∧ Ext Non w w' := by
  have HR := Go.Lib.hid h
  have q0 := h.t0 id; have q1 := h.rid id; have q2 := h.rhal id; have q3 := h.tact id; have q4 := h.tlog id
  have DL : Hid (leadsB g = (!g.halted && g.active && memberR g && decide (primR g g.log.view = g.id))) := Go.Lib.hid rfl
  have HM : Hid (∀ w', Ext Non w w' → Calls Tryz.prog 92 #[.pointer (some ⟨b, 0, none⟩)] w' fun e w'' => e = .returned (.bool (memberR g)) ∧ Ext Non w' w'') := Go.Lib.hid (fun w' x => rep_member w' (HR.out.extN x))
  have HP : Hid (∀ w', Ext Non w w' → Calls Tryz.prog 196 #[.pointer (some ⟨b, 0, none⟩), .int .i64 g.log.view] w' fun e w'' => e = .returned (.int .i64 (primR g g.log.view)) ∧ Ext Non w' w'') := Go.Lib.hid (fun w' x => rep_primary _ w' (HR.out.extN x))
  have HV : Hid (∀ w', Ext Non w w' → Calls Tryz.prog 53 #[.pointer (some ⟨A.bl, 0, none⟩)] w' fun e w'' => e = .returned (.int .i64 g.log.view) ∧ Ext Non w' w'') := Go.Lib.hid (fun w' x => (rep_view w' (HR.out.extN x)).mono (fun e w'' ⟨he, hx⟩ => ⟨he, hx ▸ Ext.refl _ _⟩))
  clear h
  generalize memberR g = mb at *
  generalize primR g g.log.view = pr at *
  generalize g.log.view = vw at *
  generalize hha : g.halted = ha at *
  generalize hac : g.active = ac at *
  generalize hgi : g.id = gi at *
  clear hha hac hgi
  cases ha
  · cases ac
    · go_enter Tryz.func267, Tryz.ntmps267
      go_upto_region 1 with fail
      apply wp_region_rel (relR [Mo.is _, Mo.is _, Mo.is _, Mo.is _, Mo.is _, Mo.is _, Mo.is _, Mo.is _, Mo.is _, Mo.is _, Mo.is _, Mo.is _, Mo.is _, Mo.is _, Mo.is _, Mo.is _, Mo.is _, Mo.is _, Mo.is _, Mo.is _, Mo.is _, Mo.is _, Mo.is _, Mo.is _, Mo.is _, Mo.is _, Mo.is _, Mo.is _, Mo.is _, Mo.is _, Mo.is _, Mo.is _, Mo.is _, Mo.is _, Mo.is _, Mo.is _]) (by kernel_rfl) (by kernel_rfl) (by kernel_rfl) (relR_mono _) (StepD.all ?st9) ?q9
      case st9 =>
        refine ⟨?_, ?_, ?_, ?_, ?_, ?_, ?_, ?_, ?_, ?_, ?_, ?_, ?_, ?_, ?_, ?_, ?_, ?_, ?_, ?_, ?_, ?_, ?_, ?_, ?_, ?_, ?_, ?_, ?_, ?_, ?_, ?_, ?_, ?_, ?_, ?_, trivial⟩
        · intro a' w' hx hs hd
          obtain ⟨y, rfl⟩ := hx.ew
          have e0 : a'.tmps[0]?.getD undef = _ := hs 0 rfl
          simp only [List.getElem?_toArray, List.getElem?_cons_succ, List.getElem?_cons_zero, Option.getD_some, Array.getElem?_eq_some_iff] at e0
          refine .inl ⟨rfl, ?_⟩
          clear hs hd hx
          go_simp
          exact ⟨Ext.refl _ _, rfl⟩
        · intro a' w' hx hs hd
          obtain ⟨y, rfl⟩ := hx.ew
          have e3 : a'.tmps[3]?.getD undef = _ := hd 0 3 rfl rfl
          refine .inl ⟨rfl, ?_⟩
          clear hs hd hx
          go_simp
          exact ⟨Ext.refl _ _, rfl⟩
        · intro a' w' hx hs hd
          obtain ⟨y, rfl⟩ := hx.ew
          have e4 : a'.tmps[4]?.getD undef = _ := hd 1 4 rfl rfl
          refine .inl ⟨rfl, ?_⟩
          clear hs hd hx
          go_simp
          exact ⟨Ext.refl _ _, rfl⟩
        · intro a' w' hx hs hd
          obtain ⟨y, rfl⟩ := hx.ew
          have e5 : a'.tmps[5]?.getD undef = _ := hd 2 5 rfl rfl
          refine .inl ⟨rfl, ?_⟩
          clear hs hd hx
          go_simp
          exact ⟨Ext.refl _ _, rfl⟩
        · intro a' w' hx hs hd
          obtain ⟨y, rfl⟩ := hx.ew
          have e6 : a'.tmps[6]?.getD undef = _ := hd 3 6 rfl rfl
          refine .inl ⟨rfl, ?_⟩
          clear hs hd hx
          go_simp
          exact ⟨Ext.refl _ _, rfl⟩
        · intro a' w' hx hs hd
          obtain ⟨y, rfl⟩ := hx.ew
          have e7 : a'.tmps[7]?.getD undef = _ := hd 4 7 rfl rfl
          refine .inl ⟨rfl, ?_⟩
          clear hs hd hx
          go_simp
          exact ⟨Ext.refl _ _, rfl⟩
        · intro a' w' hx hs hd
          obtain ⟨y, rfl⟩ := hx.ew
          have eg : a'.tmps[8]?.getD undef = _ := hd 5 8 rfl rfl
          first
          | (refine .inr ⟨unwanted_of (j := 5) (d := 8) rfl rfl eg (by rfl), ?_⟩; exact (rfl : (Mo.is undef).p undef y.on))
          | (refine .inr ⟨unwanted_und (j := 5) (d := 8) rfl rfl eg, ?_⟩; exact (rfl : (Mo.is undef).p undef y.on))
          | (have e0 : a'.tmps[0]?.getD undef = _ := hs 0 rfl; simp only [List.getElem?_toArray, List.getElem?_cons_succ, List.getElem?_cons_zero, Option.getD_some, Array.getElem?_eq_some_iff] at e0; refine .inl ⟨wanted_of (j := 5) (d := 8) rfl rfl eg, ?_⟩; clear hs hd hx eg; go_simp; exact ⟨Ext.refl _ _, rfl⟩)
        · intro a' w' hx hs hd
          obtain ⟨y, rfl⟩ := hx.ew
          have eg : a'.tmps[8]?.getD undef = _ := hd 5 8 rfl rfl
          first
          | (refine .inr ⟨unwanted_of (j := 5) (d := 8) rfl rfl eg (by rfl), ?_⟩; exact (rfl : (Mo.is undef).p undef y.on))
          | (refine .inr ⟨unwanted_und (j := 5) (d := 8) rfl rfl eg, ?_⟩; exact (rfl : (Mo.is undef).p undef y.on))
          | (have e9 : a'.tmps[9]?.getD undef = _ := hd 6 9 rfl rfl; refine .inl ⟨wanted_of (j := 5) (d := 8) rfl rfl eg, ?_⟩; clear hs hd hx eg; go_simp; exact ⟨Ext.refl _ _, rfl⟩)
        · intro a' w' hx hs hd
          obtain ⟨y, rfl⟩ := hx.ew
          have eg : a'.tmps[8]?.getD undef = _ := hd 5 8 rfl rfl
          first
          | (refine .inr ⟨unwanted_of (j := 5) (d := 8) rfl rfl eg (by rfl), ?_⟩; exact (rfl : (Mo.is undef).p undef y.on))
          | (refine .inr ⟨unwanted_und (j := 5) (d := 8) rfl rfl eg, ?_⟩; exact (rfl : (Mo.is undef).p undef y.on))
          | (have e10 : a'.tmps[10]?.getD undef = _ := hd 7 10 rfl rfl; refine .inl ⟨wanted_of (j := 5) (d := 8) rfl rfl eg, ?_⟩; clear hs hd hx eg; go_simp; exact ⟨Ext.refl _ _, rfl⟩)
        · intro a' w' hx hs hd
          obtain ⟨y, rfl⟩ := hx.ew
          have eg : a'.tmps[8]?.getD undef = _ := hd 5 8 rfl rfl
          first
          | (refine .inr ⟨unwanted_of (j := 5) (d := 8) rfl rfl eg (by rfl), ?_⟩; exact (rfl : (Mo.is undef).p undef y.on))
          | (refine .inr ⟨unwanted_und (j := 5) (d := 8) rfl rfl eg, ?_⟩; exact (rfl : (Mo.is undef).p undef y.on))
          | (have e11 : a'.tmps[11]?.getD undef = _ := hd 8 11 rfl rfl; refine .inl ⟨wanted_of (j := 5) (d := 8) rfl rfl eg, ?_⟩; clear hs hd hx eg; go_simp; exact ⟨Ext.refl _ _, rfl⟩)
        · intro a' w' hx hs hd
          obtain ⟨y, rfl⟩ := hx.ew
          have eg : a'.tmps[8]?.getD undef = _ := hd 5 8 rfl rfl
          first
          | (refine .inr ⟨unwanted_of (j := 5) (d := 8) rfl rfl eg (by rfl), ?_⟩; exact (rfl : (Mo.is undef).p undef y.on))
          | (refine .inr ⟨unwanted_und (j := 5) (d := 8) rfl rfl eg, ?_⟩; exact (rfl : (Mo.is undef).p undef y.on))
          | (have e12 : a'.tmps[12]?.getD undef = _ := hd 9 12 rfl rfl; refine .inl ⟨wanted_of (j := 5) (d := 8) rfl rfl eg, ?_⟩; clear hs hd hx eg; go_simp; exact ⟨Ext.refl _ _, rfl⟩)
        · intro a' w' hx hs hd
          obtain ⟨y, rfl⟩ := hx.ew
          have eg : a'.tmps[8]?.getD undef = _ := hd 5 8 rfl rfl
          first
          | (refine .inr ⟨unwanted_of (j := 5) (d := 8) rfl rfl eg (by rfl), ?_⟩; exact (rfl : (Mo.is undef).p undef y.on))
          | (refine .inr ⟨unwanted_und (j := 5) (d := 8) rfl rfl eg, ?_⟩; exact (rfl : (Mo.is undef).p undef y.on))
          | (have e13 : a'.tmps[13]?.getD undef = _ := hd 10 13 rfl rfl; refine .inl ⟨wanted_of (j := 5) (d := 8) rfl rfl eg, ?_⟩; clear hs hd hx eg; go_simp; exact ⟨Ext.refl _ _, rfl⟩)
        · intro a' w' hx hs hd
          obtain ⟨y, rfl⟩ := hx.ew
          have eg : a'.tmps[8]?.getD undef = _ := hd 5 8 rfl rfl
          first
          | (refine .inr ⟨unwanted_of (j := 5) (d := 8) rfl rfl eg (by rfl), ?_⟩; exact (rfl : (Mo.is undef).p undef y.on))
          | (refine .inr ⟨unwanted_und (j := 5) (d := 8) rfl rfl eg, ?_⟩; exact (rfl : (Mo.is undef).p undef y.on))
          | (have e14 : a'.tmps[14]?.getD undef = _ := hd 11 14 rfl rfl; refine .inl ⟨wanted_of (j := 5) (d := 8) rfl rfl eg, ?_⟩; clear hs hd hx eg; go_simp; exact ⟨Ext.refl _ _, rfl⟩)
        · intro a' w' hx hs hd
          obtain ⟨y, rfl⟩ := hx.ew
          have e8 : a'.tmps[8]?.getD undef = _ := hd 5 8 rfl rfl
          have e15 : a'.tmps[15]?.getD undef = _ := hd 12 15 rfl rfl
          refine .inl ⟨rfl, ?_⟩
          clear hs hd hx
          go_simp
          exact ⟨Ext.refl _ _, rfl⟩
        · intro a' w' hx hs hd
          obtain ⟨y, rfl⟩ := hx.ew
          have e16 : a'.tmps[16]?.getD undef = _ := hd 13 16 rfl rfl
          refine .inl ⟨rfl, ?_⟩
          clear hs hd hx
          go_simp
          exact ⟨Ext.refl _ _, rfl⟩
        · intro a' w' hx hs hd
          obtain ⟨y, rfl⟩ := hx.ew
          have eg : a'.tmps[17]?.getD undef = _ := hd 14 17 rfl rfl
          first
          | (refine .inr ⟨unwanted_of (j := 14) (d := 17) rfl rfl eg (by rfl), ?_⟩; exact (rfl : (Mo.is undef).p undef y.on))
          | (refine .inr ⟨unwanted_und (j := 14) (d := 17) rfl rfl eg, ?_⟩; exact (rfl : (Mo.is undef).p undef y.on))
          | (have e0 : a'.tmps[0]?.getD undef = _ := hs 0 rfl; simp only [List.getElem?_toArray, List.getElem?_cons_succ, List.getElem?_cons_zero, Option.getD_some, Array.getElem?_eq_some_iff] at e0; refine .inl ⟨wanted_of (j := 14) (d := 17) rfl rfl eg, ?_⟩; clear hs hd hx eg; go_simp; exact ⟨Ext.refl _ _, rfl⟩)
        · intro a' w' hx hs hd
          obtain ⟨y, rfl⟩ := hx.ew
          have eg : a'.tmps[17]?.getD undef = _ := hd 14 17 rfl rfl
          first
          | (refine .inr ⟨unwanted_of (j := 14) (d := 17) rfl rfl eg (by rfl), ?_⟩; exact (rfl : (Mo.is undef).p undef y.on))
          | (refine .inr ⟨unwanted_und (j := 14) (d := 17) rfl rfl eg, ?_⟩; exact (rfl : (Mo.is undef).p undef y.on))
          | (have e18 : a'.tmps[18]?.getD undef = _ := hd 15 18 rfl rfl; refine .inl ⟨wanted_of (j := 14) (d := 17) rfl rfl eg, ?_⟩; clear hs hd hx eg; go_simp; exact (HM.out _ (by (repeat (first | with_reducible (first | exact Ext.refl _ _ | assumption | refine Ext.upN ?_ | refine Ext.alloc ?_ _ | refine Ext.drew ?_ | refine Ext.drewN ?_ _ | refine Ext.up1N (by first | omega | simp) ?_) | refine Ext.alloc ?_ _ | refine Ext.setCell ?_ (.inr (by first | omega | simp)) _)))).mono (fun e w'' ⟨he, hx⟩ => ⟨_, he, hx, rfl⟩))
        · intro a' w' hx hs hd
          obtain ⟨y, rfl⟩ := hx.ew
          have e17 : a'.tmps[17]?.getD undef = _ := hd 14 17 rfl rfl
          have e19 : a'.tmps[19]?.getD undef = _ := hd 16 19 rfl rfl
          refine .inl ⟨rfl, ?_⟩
          clear hs hd hx
          go_simp
          exact ⟨Ext.refl _ _, rfl⟩
        · intro a' w' hx hs hd
          obtain ⟨y, rfl⟩ := hx.ew
          have e20 : a'.tmps[20]?.getD undef = _ := hd 17 20 rfl rfl
          refine .inl ⟨rfl, ?_⟩
          clear hs hd hx
          go_simp
          exact ⟨Ext.refl _ _, rfl⟩
        · intro a' w' hx hs hd
          obtain ⟨y, rfl⟩ := hx.ew
          have eg : a'.tmps[21]?.getD undef = _ := hd 18 21 rfl rfl
          first
          | (refine .inr ⟨unwanted_of (j := 18) (d := 21) rfl rfl eg (by rfl), ?_⟩; exact (rfl : (Mo.is undef).p undef y.on))
          | (refine .inr ⟨unwanted_und (j := 18) (d := 21) rfl rfl eg, ?_⟩; exact (rfl : (Mo.is undef).p undef y.on))
          | (have e0 : a'.tmps[0]?.getD undef = _ := hs 0 rfl; simp only [List.getElem?_toArray, List.getElem?_cons_succ, List.getElem?_cons_zero, Option.getD_some, Array.getElem?_eq_some_iff] at e0; refine .inl ⟨wanted_of (j := 18) (d := 21) rfl rfl eg, ?_⟩; clear hs hd hx eg; go_simp; exact ⟨Ext.refl _ _, rfl⟩)
        · intro a' w' hx hs hd
          obtain ⟨y, rfl⟩ := hx.ew
          have eg : a'.tmps[21]?.getD undef = _ := hd 18 21 rfl rfl
          first
          | (refine .inr ⟨unwanted_of (j := 18) (d := 21) rfl rfl eg (by rfl), ?_⟩; exact (rfl : (Mo.is undef).p undef y.on))
          | (refine .inr ⟨unwanted_und (j := 18) (d := 21) rfl rfl eg, ?_⟩; exact (rfl : (Mo.is undef).p undef y.on))
          | (have e0 : a'.tmps[0]?.getD undef = _ := hs 0 rfl; simp only [List.getElem?_toArray, List.getElem?_cons_succ, List.getElem?_cons_zero, Option.getD_some, Array.getElem?_eq_some_iff] at e0; refine .inl ⟨wanted_of (j := 18) (d := 21) rfl rfl eg, ?_⟩; clear hs hd hx eg; go_simp; exact ⟨Ext.refl _ _, rfl⟩)
        · intro a' w' hx hs hd
          obtain ⟨y, rfl⟩ := hx.ew
          have eg : a'.tmps[21]?.getD undef = _ := hd 18 21 rfl rfl
          first
          | (refine .inr ⟨unwanted_of (j := 18) (d := 21) rfl rfl eg (by rfl), ?_⟩; exact (rfl : (Mo.is undef).p undef y.on))
          | (refine .inr ⟨unwanted_und (j := 18) (d := 21) rfl rfl eg, ?_⟩; exact (rfl : (Mo.is undef).p undef y.on))
          | (have e23 : a'.tmps[23]?.getD undef = _ := hd 20 23 rfl rfl; refine .inl ⟨wanted_of (j := 18) (d := 21) rfl rfl eg, ?_⟩; clear hs hd hx eg; go_simp; exact ⟨Ext.refl _ _, rfl⟩)
        · intro a' w' hx hs hd
          obtain ⟨y, rfl⟩ := hx.ew
          have eg : a'.tmps[21]?.getD undef = _ := hd 18 21 rfl rfl
          first
          | (refine .inr ⟨unwanted_of (j := 18) (d := 21) rfl rfl eg (by rfl), ?_⟩; exact (rfl : (Mo.is undef).p undef y.on))
          | (refine .inr ⟨unwanted_und (j := 18) (d := 21) rfl rfl eg, ?_⟩; exact (rfl : (Mo.is undef).p undef y.on))
          | (have e24 : a'.tmps[24]?.getD undef = _ := hd 21 24 rfl rfl; refine .inl ⟨wanted_of (j := 18) (d := 21) rfl rfl eg, ?_⟩; clear hs hd hx eg; go_simp; exact ⟨Ext.refl _ _, rfl⟩)
        · intro a' w' hx hs hd
          obtain ⟨y, rfl⟩ := hx.ew
          have eg : a'.tmps[21]?.getD undef = _ := hd 18 21 rfl rfl
          first
          | (refine .inr ⟨unwanted_of (j := 18) (d := 21) rfl rfl eg (by rfl), ?_⟩; exact (rfl : (Mo.is undef).p undef y.on))
          | (refine .inr ⟨unwanted_und (j := 18) (d := 21) rfl rfl eg, ?_⟩; exact (rfl : (Mo.is undef).p undef y.on))
          | (have e25 : a'.tmps[25]?.getD undef = _ := hd 22 25 rfl rfl; refine .inl ⟨wanted_of (j := 18) (d := 21) rfl rfl eg, ?_⟩; clear hs hd hx eg; go_simp; exact ⟨Ext.refl _ _, rfl⟩)
        · intro a' w' hx hs hd
          obtain ⟨y, rfl⟩ := hx.ew
          have eg : a'.tmps[21]?.getD undef = _ := hd 18 21 rfl rfl
          first
          | (refine .inr ⟨unwanted_of (j := 18) (d := 21) rfl rfl eg (by rfl), ?_⟩; exact (rfl : (Mo.is undef).p undef y.on))
          | (refine .inr ⟨unwanted_und (j := 18) (d := 21) rfl rfl eg, ?_⟩; exact (rfl : (Mo.is undef).p undef y.on))
          | (have e26 : a'.tmps[26]?.getD undef = _ := hd 23 26 rfl rfl; refine .inl ⟨wanted_of (j := 18) (d := 21) rfl rfl eg, ?_⟩; clear hs hd hx eg; go_simp; exact ⟨Ext.refl _ _, rfl⟩)
        · intro a' w' hx hs hd
          obtain ⟨y, rfl⟩ := hx.ew
          have eg : a'.tmps[21]?.getD undef = _ := hd 18 21 rfl rfl
          first
          | (refine .inr ⟨unwanted_of (j := 18) (d := 21) rfl rfl eg (by rfl), ?_⟩; exact (rfl : (Mo.is undef).p undef y.on))
          | (refine .inr ⟨unwanted_und (j := 18) (d := 21) rfl rfl eg, ?_⟩; exact (rfl : (Mo.is undef).p undef y.on))
          | (have e27 : a'.tmps[27]?.getD undef = _ := hd 24 27 rfl rfl; refine .inl ⟨wanted_of (j := 18) (d := 21) rfl rfl eg, ?_⟩; clear hs hd hx eg; go_simp; exact ⟨Ext.refl _ _, rfl⟩)
        · intro a' w' hx hs hd
          obtain ⟨y, rfl⟩ := hx.ew
          have eg : a'.tmps[21]?.getD undef = _ := hd 18 21 rfl rfl
          first
          | (refine .inr ⟨unwanted_of (j := 18) (d := 21) rfl rfl eg (by rfl), ?_⟩; exact (rfl : (Mo.is undef).p undef y.on))
          | (refine .inr ⟨unwanted_und (j := 18) (d := 21) rfl rfl eg, ?_⟩; exact (rfl : (Mo.is undef).p undef y.on))
          | (have e28 : a'.tmps[28]?.getD undef = _ := hd 25 28 rfl rfl; refine .inl ⟨wanted_of (j := 18) (d := 21) rfl rfl eg, ?_⟩; clear hs hd hx eg; go_simp; exact ⟨Ext.refl _ _, rfl⟩)
        · intro a' w' hx hs hd
          obtain ⟨y, rfl⟩ := hx.ew
          have eg : a'.tmps[21]?.getD undef = _ := hd 18 21 rfl rfl
          first
          | (refine .inr ⟨unwanted_of (j := 18) (d := 21) rfl rfl eg (by rfl), ?_⟩; exact (rfl : (Mo.is undef).p undef y.on))
          | (refine .inr ⟨unwanted_und (j := 18) (d := 21) rfl rfl eg, ?_⟩; exact (rfl : (Mo.is undef).p undef y.on))
          | (have e29 : a'.tmps[29]?.getD undef = _ := hd 26 29 rfl rfl; refine .inl ⟨wanted_of (j := 18) (d := 21) rfl rfl eg, ?_⟩; clear hs hd hx eg; go_simp; exact (HV.out _ (by (repeat (first | with_reducible (first | exact Ext.refl _ _ | assumption | refine Ext.upN ?_ | refine Ext.alloc ?_ _ | refine Ext.drew ?_ | refine Ext.drewN ?_ _ | refine Ext.up1N (by first | omega | simp) ?_) | refine Ext.alloc ?_ _ | refine Ext.setCell ?_ (.inr (by first | omega | simp)) _)))).mono (fun e w'' ⟨he, hx⟩ => ⟨_, he, hx, rfl⟩))
        · intro a' w' hx hs hd
          obtain ⟨y, rfl⟩ := hx.ew
          have eg : a'.tmps[21]?.getD undef = _ := hd 18 21 rfl rfl
          first
          | (refine .inr ⟨unwanted_of (j := 18) (d := 21) rfl rfl eg (by rfl), ?_⟩; exact (rfl : (Mo.is undef).p undef y.on))
          | (refine .inr ⟨unwanted_und (j := 18) (d := 21) rfl rfl eg, ?_⟩; exact (rfl : (Mo.is undef).p undef y.on))
          | (have e22 : a'.tmps[22]?.getD undef = _ := hd 19 22 rfl rfl; have e30 : a'.tmps[30]?.getD undef = _ := hd 27 30 rfl rfl; refine .inl ⟨wanted_of (j := 18) (d := 21) rfl rfl eg, ?_⟩; clear hs hd hx eg; go_simp; exact (HP.out _ (by (repeat (first | with_reducible (first | exact Ext.refl _ _ | assumption | refine Ext.upN ?_ | refine Ext.alloc ?_ _ | refine Ext.drew ?_ | refine Ext.drewN ?_ _ | refine Ext.up1N (by first | omega | simp) ?_) | refine Ext.alloc ?_ _ | refine Ext.setCell ?_ (.inr (by first | omega | simp)) _)))).mono (fun e w'' ⟨he, hx⟩ => ⟨_, he, hx, rfl⟩))
        · intro a' w' hx hs hd
          obtain ⟨y, rfl⟩ := hx.ew
          have eg : a'.tmps[21]?.getD undef = _ := hd 18 21 rfl rfl
          first
          | (refine .inr ⟨unwanted_of (j := 18) (d := 21) rfl rfl eg (by rfl), ?_⟩; exact (rfl : (Mo.is undef).p undef y.on))
          | (refine .inr ⟨unwanted_und (j := 18) (d := 21) rfl rfl eg, ?_⟩; exact (rfl : (Mo.is undef).p undef y.on))
          | (have e0 : a'.tmps[0]?.getD undef = _ := hs 0 rfl; simp only [List.getElem?_toArray, List.getElem?_cons_succ, List.getElem?_cons_zero, Option.getD_some, Array.getElem?_eq_some_iff] at e0; refine .inl ⟨wanted_of (j := 18) (d := 21) rfl rfl eg, ?_⟩; clear hs hd hx eg; go_simp; exact ⟨Ext.refl _ _, rfl⟩)
        · intro a' w' hx hs hd
          obtain ⟨y, rfl⟩ := hx.ew
          have eg : a'.tmps[21]?.getD undef = _ := hd 18 21 rfl rfl
          first
          | (refine .inr ⟨unwanted_of (j := 18) (d := 21) rfl rfl eg (by rfl), ?_⟩; exact (rfl : (Mo.is undef).p undef y.on))
          | (refine .inr ⟨unwanted_und (j := 18) (d := 21) rfl rfl eg, ?_⟩; exact (rfl : (Mo.is undef).p undef y.on))
          | (have e32 : a'.tmps[32]?.getD undef = _ := hd 29 32 rfl rfl; refine .inl ⟨wanted_of (j := 18) (d := 21) rfl rfl eg, ?_⟩; clear hs hd hx eg; go_simp; exact ⟨Ext.refl _ _, rfl⟩)
        · intro a' w' hx hs hd
          obtain ⟨y, rfl⟩ := hx.ew
          have eg : a'.tmps[21]?.getD undef = _ := hd 18 21 rfl rfl
          first
          | (refine .inr ⟨unwanted_of (j := 18) (d := 21) rfl rfl eg (by rfl), ?_⟩; exact (rfl : (Mo.is undef).p undef y.on))
          | (refine .inr ⟨unwanted_und (j := 18) (d := 21) rfl rfl eg, ?_⟩; exact (rfl : (Mo.is undef).p undef y.on))
          | (have e33 : a'.tmps[33]?.getD undef = _ := hd 30 33 rfl rfl; refine .inl ⟨wanted_of (j := 18) (d := 21) rfl rfl eg, ?_⟩; clear hs hd hx eg; go_simp; exact ⟨Ext.refl _ _, rfl⟩)
        · intro a' w' hx hs hd
          obtain ⟨y, rfl⟩ := hx.ew
          have eg : a'.tmps[21]?.getD undef = _ := hd 18 21 rfl rfl
          first
          | (refine .inr ⟨unwanted_of (j := 18) (d := 21) rfl rfl eg (by rfl), ?_⟩; exact (rfl : (Mo.is undef).p undef y.on))
          | (refine .inr ⟨unwanted_und (j := 18) (d := 21) rfl rfl eg, ?_⟩; exact (rfl : (Mo.is undef).p undef y.on))
          | (have e34 : a'.tmps[34]?.getD undef = _ := hd 31 34 rfl rfl; refine .inl ⟨wanted_of (j := 18) (d := 21) rfl rfl eg, ?_⟩; clear hs hd hx eg; go_simp; exact ⟨Ext.refl _ _, rfl⟩)
        · intro a' w' hx hs hd
          obtain ⟨y, rfl⟩ := hx.ew
          have eg : a'.tmps[21]?.getD undef = _ := hd 18 21 rfl rfl
          first
          | (refine .inr ⟨unwanted_of (j := 18) (d := 21) rfl rfl eg (by rfl), ?_⟩; exact (rfl : (Mo.is undef).p undef y.on))
          | (refine .inr ⟨unwanted_und (j := 18) (d := 21) rfl rfl eg, ?_⟩; exact (rfl : (Mo.is undef).p undef y.on))
          | (have e31 : a'.tmps[31]?.getD undef = _ := hd 28 31 rfl rfl; have e35 : a'.tmps[35]?.getD undef = _ := hd 32 35 rfl rfl; refine .inl ⟨wanted_of (j := 18) (d := 21) rfl rfl eg, ?_⟩; clear hs hd hx eg; go_simp; exact ⟨Ext.refl _ _, rfl⟩)
        · intro a' w' hx hs hd
          obtain ⟨y, rfl⟩ := hx.ew
          have e21 : a'.tmps[21]?.getD undef = _ := hd 18 21 rfl rfl
          have e36 : a'.tmps[36]?.getD undef = _ := hd 33 36 rfl rfl
          refine .inl ⟨rfl, ?_⟩
          clear hs hd hx
          go_simp
          exact ⟨Ext.refl _ _, rfl⟩
        · intro a' w' hx hs hd
          obtain ⟨y, rfl⟩ := hx.ew
          have e37 : a'.tmps[37]?.getD undef = _ := hd 34 37 rfl rfl
          refine .inl ⟨rfl, ?_⟩
          clear hs hd hx
          go_simp
          exact ⟨Ext.refl _ _, rfl⟩
      case' q9 =>
        intro vs w' hx hRR
        obtain ⟨x2, rfl⟩ := hx.ew
        have q0 : vs 0 = _ := hRR 0 (by decide)
        have q1 : vs 1 = _ := hRR 1 (by decide)
        have q2 : vs 2 = _ := hRR 2 (by decide)
        have q3 : vs 3 = _ := hRR 3 (by decide)
        have q4 : vs 4 = _ := hRR 4 (by decide)
        have q5 : vs 5 = _ := hRR 5 (by decide)
        have q6 : vs 6 = _ := hRR 6 (by decide)
        have q7 : vs 7 = _ := hRR 7 (by decide)
        have q8 : vs 8 = _ := hRR 8 (by decide)
        have q9 : vs 9 = _ := hRR 9 (by decide)
        have q10 : vs 10 = _ := hRR 10 (by decide)
        have q11 : vs 11 = _ := hRR 11 (by decide)
        have q12 : vs 12 = _ := hRR 12 (by decide)
        have q13 : vs 13 = _ := hRR 13 (by decide)
        have q14 : vs 14 = _ := hRR 14 (by decide)
        have q15 : vs 15 = _ := hRR 15 (by decide)
        have q16 : vs 16 = _ := hRR 16 (by decide)
        have q17 : vs 17 = _ := hRR 17 (by decide)
        have q18 : vs 18 = _ := hRR 18 (by decide)
        have q19 : vs 19 = _ := hRR 19 (by decide)
        have q20 : vs 20 = _ := hRR 20 (by decide)
        have q21 : vs 21 = _ := hRR 21 (by decide)
        have q22 : vs 22 = _ := hRR 22 (by decide)
        have q23 : vs 23 = _ := hRR 23 (by decide)
        have q24 : vs 24 = _ := hRR 24 (by decide)
        have q25 : vs 25 = _ := hRR 25 (by decide)
        have q26 : vs 26 = _ := hRR 26 (by decide)
        have q27 : vs 27 = _ := hRR 27 (by decide)
        have q28 : vs 28 = _ := hRR 28 (by decide)
        have q29 : vs 29 = _ := hRR 29 (by decide)
        have q30 : vs 30 = _ := hRR 30 (by decide)
        have q31 : vs 31 = _ := hRR 31 (by decide)
        have q32 : vs 32 = _ := hRR 32 (by decide)
        have q33 : vs 33 = _ := hRR 33 (by decide)
        have q34 : vs 34 = _ := hRR 34 (by decide)
        have q35 : vs 35 = _ := hRR 35 (by decide)
        clear hRR hx
        simp only [putAll, List.take_succ_cons, List.take_zero, List.drop_succ_cons, List.drop_zero, Act.put, List.setIfInBounds_toArray, List.set_cons_zero, List.set_cons_succ, Nat.reduceAdd, Nat.zero_add]
        simp only [q0, q1, q2, q3, q4, q5, q6, q7, q8, q9, q10, q11, q12, q13, q14, q15, q16, q17, q18, q19, q20, q21, q22, q23, q24, q25, q26, q27, q28, q29, q30, q31, q32, q33, q34, q35]
        clear q0 q1 q2 q3 q4 q5 q6 q7 q8 q9 q10 q11 q12 q13 q14 q15 q16 q17 q18 q19 q20 q21 q22 q23 q24 q25 q26 q27 q28 q29 q30 q31 q32 q33 q34 q35 vs
      go_wp2
      go_ret
      exact ⟨ret_bool (by rw [DL.out]; rfl), by (repeat (first | with_reducible (first | exact Ext.refl _ _ | assumption | refine Ext.upN ?_ | refine Ext.alloc ?_ _ | refine Ext.drew ?_ | refine Ext.drewN ?_ _ | refine Ext.up1N (by first | omega | simp) ?_) | refine Ext.alloc ?_ _ | refine Ext.setCell ?_ (.inr (by first | omega | simp)) _))⟩
    · cases mb
      · go_enter Tryz.func267, Tryz.ntmps267
        go_upto_region 1 with fail
        apply wp_region_rel (relR [Mo.is _, Mo.is _, Mo.is _, Mo.is _, Mo.is _, Mo.is _, Mo.is _, Mo.is _, Mo.is _, Mo.is _, Mo.is _, Mo.is _, Mo.is _, Mo.is _, Mo.is _, Mo.is _, Mo.is _, Mo.is _, Mo.is _, Mo.is _, Mo.is _, Mo.is _, Mo.is _, Mo.is _, Mo.is _, Mo.is _, Mo.is _, Mo.is _, Mo.is _, Mo.is _, Mo.is _, Mo.is _, Mo.is _, Mo.is _, Mo.is _, Mo.is _]) (by kernel_rfl) (by kernel_rfl) (by kernel_rfl) (relR_mono _) (StepD.all ?st10) ?q10
        case st10 =>
          refine ⟨?_, ?_, ?_, ?_, ?_, ?_, ?_, ?_, ?_, ?_, ?_, ?_, ?_, ?_, ?_, ?_, ?_, ?_, ?_, ?_, ?_, ?_, ?_, ?_, ?_, ?_, ?_, ?_, ?_, ?_, ?_, ?_, ?_, ?_, ?_, ?_, trivial⟩
          · intro a' w' hx hs hd
            obtain ⟨y, rfl⟩ := hx.ew
            have e0 : a'.tmps[0]?.getD undef = _ := hs 0 rfl
            simp only [List.getElem?_toArray, List.getElem?_cons_succ, List.getElem?_cons_zero, Option.getD_some, Array.getElem?_eq_some_iff] at e0
            refine .inl ⟨rfl, ?_⟩
            clear hs hd hx
            go_simp
            exact ⟨Ext.refl _ _, rfl⟩
          · intro a' w' hx hs hd
            obtain ⟨y, rfl⟩ := hx.ew
            have e3 : a'.tmps[3]?.getD undef = _ := hd 0 3 rfl rfl
            refine .inl ⟨rfl, ?_⟩
            clear hs hd hx
            go_simp
            exact ⟨Ext.refl _ _, rfl⟩
          · intro a' w' hx hs hd
            obtain ⟨y, rfl⟩ := hx.ew
            have e4 : a'.tmps[4]?.getD undef = _ := hd 1 4 rfl rfl
            refine .inl ⟨rfl, ?_⟩
            clear hs hd hx
            go_simp
            exact ⟨Ext.refl _ _, rfl⟩
          · intro a' w' hx hs hd
            obtain ⟨y, rfl⟩ := hx.ew
            have e5 : a'.tmps[5]?.getD undef = _ := hd 2 5 rfl rfl
            refine .inl ⟨rfl, ?_⟩
            clear hs hd hx
            go_simp
            exact ⟨Ext.refl _ _, rfl⟩
          · intro a' w' hx hs hd
            obtain ⟨y, rfl⟩ := hx.ew
            have e6 : a'.tmps[6]?.getD undef = _ := hd 3 6 rfl rfl
            refine .inl ⟨rfl, ?_⟩
            clear hs hd hx
            go_simp
            exact ⟨Ext.refl _ _, rfl⟩
          · intro a' w' hx hs hd
            obtain ⟨y, rfl⟩ := hx.ew
            have e7 : a'.tmps[7]?.getD undef = _ := hd 4 7 rfl rfl
            refine .inl ⟨rfl, ?_⟩
            clear hs hd hx
            go_simp
            exact ⟨Ext.refl _ _, rfl⟩
          · intro a' w' hx hs hd
            obtain ⟨y, rfl⟩ := hx.ew
            have eg : a'.tmps[8]?.getD undef = _ := hd 5 8 rfl rfl
            first
            | (refine .inr ⟨unwanted_of (j := 5) (d := 8) rfl rfl eg (by rfl), ?_⟩; exact (rfl : (Mo.is undef).p undef y.on))
            | (refine .inr ⟨unwanted_und (j := 5) (d := 8) rfl rfl eg, ?_⟩; exact (rfl : (Mo.is undef).p undef y.on))
            | (have e0 : a'.tmps[0]?.getD undef = _ := hs 0 rfl; simp only [List.getElem?_toArray, List.getElem?_cons_succ, List.getElem?_cons_zero, Option.getD_some, Array.getElem?_eq_some_iff] at e0; refine .inl ⟨wanted_of (j := 5) (d := 8) rfl rfl eg, ?_⟩; clear hs hd hx eg; go_simp; exact ⟨Ext.refl _ _, rfl⟩)
          · intro a' w' hx hs hd
            obtain ⟨y, rfl⟩ := hx.ew
            have eg : a'.tmps[8]?.getD undef = _ := hd 5 8 rfl rfl
            first
            | (refine .inr ⟨unwanted_of (j := 5) (d := 8) rfl rfl eg (by rfl), ?_⟩; exact (rfl : (Mo.is undef).p undef y.on))
            | (refine .inr ⟨unwanted_und (j := 5) (d := 8) rfl rfl eg, ?_⟩; exact (rfl : (Mo.is undef).p undef y.on))
            | (have e9 : a'.tmps[9]?.getD undef = _ := hd 6 9 rfl rfl; refine .inl ⟨wanted_of (j := 5) (d := 8) rfl rfl eg, ?_⟩; clear hs hd hx eg; go_simp; exact ⟨Ext.refl _ _, rfl⟩)
          · intro a' w' hx hs hd
            obtain ⟨y, rfl⟩ := hx.ew
            have eg : a'.tmps[8]?.getD undef = _ := hd 5 8 rfl rfl
            first
            | (refine .inr ⟨unwanted_of (j := 5) (d := 8) rfl rfl eg (by rfl), ?_⟩; exact (rfl : (Mo.is undef).p undef y.on))
            | (refine .inr ⟨unwanted_und (j := 5) (d := 8) rfl rfl eg, ?_⟩; exact (rfl : (Mo.is undef).p undef y.on))
            | (have e10 : a'.tmps[10]?.getD undef = _ := hd 7 10 rfl rfl; refine .inl ⟨wanted_of (j := 5) (d := 8) rfl rfl eg, ?_⟩; clear hs hd hx eg; go_simp; exact ⟨Ext.refl _ _, rfl⟩)
          · intro a' w' hx hs hd
            obtain ⟨y, rfl⟩ := hx.ew
            have eg : a'.tmps[8]?.getD undef = _ := hd 5 8 rfl rfl
            first
            | (refine .inr ⟨unwanted_of (j := 5) (d := 8) rfl rfl eg (by rfl), ?_⟩; exact (rfl : (Mo.is undef).p undef y.on))
            | (refine .inr ⟨unwanted_und (j := 5) (d := 8) rfl rfl eg, ?_⟩; exact (rfl : (Mo.is undef).p undef y.on))
            | (have e11 : a'.tmps[11]?.getD undef = _ := hd 8 11 rfl rfl; refine .inl ⟨wanted_of (j := 5) (d := 8) rfl rfl eg, ?_⟩; clear hs hd hx eg; go_simp; exact ⟨Ext.refl _ _, rfl⟩)
          · intro a' w' hx hs hd
            obtain ⟨y, rfl⟩ := hx.ew
            have eg : a'.tmps[8]?.getD undef = _ := hd 5 8 rfl rfl
            first
            | (refine .inr ⟨unwanted_of (j := 5) (d := 8) rfl rfl eg (by rfl), ?_⟩; exact (rfl : (Mo.is undef).p undef y.on))
            | (refine .inr ⟨unwanted_und (j := 5) (d := 8) rfl rfl eg, ?_⟩; exact (rfl : (Mo.is undef).p undef y.on))
            | (have e12 : a'.tmps[12]?.getD undef = _ := hd 9 12 rfl rfl; refine .inl ⟨wanted_of (j := 5) (d := 8) rfl rfl eg, ?_⟩; clear hs hd hx eg; go_simp; exact ⟨Ext.refl _ _, rfl⟩)
          · intro a' w' hx hs hd
            obtain ⟨y, rfl⟩ := hx.ew
            have eg : a'.tmps[8]?.getD undef = _ := hd 5 8 rfl rfl
            first
            | (refine .inr ⟨unwanted_of (j := 5) (d := 8) rfl rfl eg (by rfl), ?_⟩; exact (rfl : (Mo.is undef).p undef y.on))
            | (refine .inr ⟨unwanted_und (j := 5) (d := 8) rfl rfl eg, ?_⟩; exact (rfl : (Mo.is undef).p undef y.on))
            | (have e13 : a'.tmps[13]?.getD undef = _ := hd 10 13 rfl rfl; refine .inl ⟨wanted_of (j := 5) (d := 8) rfl rfl eg, ?_⟩; clear hs hd hx eg; go_simp; exact ⟨Ext.refl _ _, rfl⟩)
          · intro a' w' hx hs hd
            obtain ⟨y, rfl⟩ := hx.ew
            have eg : a'.tmps[8]?.getD undef = _ := hd 5 8 rfl rfl
            first
            | (refine .inr ⟨unwanted_of (j := 5) (d := 8) rfl rfl eg (by rfl), ?_⟩; exact (rfl : (Mo.is undef).p undef y.on))
            | (refine .inr ⟨unwanted_und (j := 5) (d := 8) rfl rfl eg, ?_⟩; exact (rfl : (Mo.is undef).p undef y.on))
            | (have e14 : a'.tmps[14]?.getD undef = _ := hd 11 14 rfl rfl; refine .inl ⟨wanted_of (j := 5) (d := 8) rfl rfl eg, ?_⟩; clear hs hd hx eg; go_simp; exact ⟨Ext.refl _ _, rfl⟩)
          · intro a' w' hx hs hd
            obtain ⟨y, rfl⟩ := hx.ew
            have e8 : a'.tmps[8]?.getD undef = _ := hd 5 8 rfl rfl
            have e15 : a'.tmps[15]?.getD undef = _ := hd 12 15 rfl rfl
            refine .inl ⟨rfl, ?_⟩
            clear hs hd hx
            go_simp
            exact ⟨Ext.refl _ _, rfl⟩
          · intro a' w' hx hs hd
            obtain ⟨y, rfl⟩ := hx.ew
            have e16 : a'.tmps[16]?.getD undef = _ := hd 13 16 rfl rfl
            refine .inl ⟨rfl, ?_⟩
            clear hs hd hx
            go_simp
            exact ⟨Ext.refl _ _, rfl⟩
          · intro a' w' hx hs hd
            obtain ⟨y, rfl⟩ := hx.ew
            have eg : a'.tmps[17]?.getD undef = _ := hd 14 17 rfl rfl
            first
            | (refine .inr ⟨unwanted_of (j := 14) (d := 17) rfl rfl eg (by rfl), ?_⟩; exact (rfl : (Mo.is undef).p undef y.on))
            | (refine .inr ⟨unwanted_und (j := 14) (d := 17) rfl rfl eg, ?_⟩; exact (rfl : (Mo.is undef).p undef y.on))
            | (have e0 : a'.tmps[0]?.getD undef = _ := hs 0 rfl; simp only [List.getElem?_toArray, List.getElem?_cons_succ, List.getElem?_cons_zero, Option.getD_some, Array.getElem?_eq_some_iff] at e0; refine .inl ⟨wanted_of (j := 14) (d := 17) rfl rfl eg, ?_⟩; clear hs hd hx eg; go_simp; exact ⟨Ext.refl _ _, rfl⟩)
          · intro a' w' hx hs hd
            obtain ⟨y, rfl⟩ := hx.ew
            have eg : a'.tmps[17]?.getD undef = _ := hd 14 17 rfl rfl
            first
            | (refine .inr ⟨unwanted_of (j := 14) (d := 17) rfl rfl eg (by rfl), ?_⟩; exact (rfl : (Mo.is undef).p undef y.on))
            | (refine .inr ⟨unwanted_und (j := 14) (d := 17) rfl rfl eg, ?_⟩; exact (rfl : (Mo.is undef).p undef y.on))
            | (have e18 : a'.tmps[18]?.getD undef = _ := hd 15 18 rfl rfl; refine .inl ⟨wanted_of (j := 14) (d := 17) rfl rfl eg, ?_⟩; clear hs hd hx eg; go_simp; exact (HM.out _ (by (repeat (first | with_reducible (first | exact Ext.refl _ _ | assumption | refine Ext.upN ?_ | refine Ext.alloc ?_ _ | refine Ext.drew ?_ | refine Ext.drewN ?_ _ | refine Ext.up1N (by first | omega | simp) ?_) | refine Ext.alloc ?_ _ | refine Ext.setCell ?_ (.inr (by first | omega | simp)) _)))).mono (fun e w'' ⟨he, hx⟩ => ⟨_, he, hx, rfl⟩))
          · intro a' w' hx hs hd
            obtain ⟨y, rfl⟩ := hx.ew
            have e17 : a'.tmps[17]?.getD undef = _ := hd 14 17 rfl rfl
            have e19 : a'.tmps[19]?.getD undef = _ := hd 16 19 rfl rfl
            refine .inl ⟨rfl, ?_⟩
            clear hs hd hx
            go_simp
            exact ⟨Ext.refl _ _, rfl⟩
          · intro a' w' hx hs hd
            obtain ⟨y, rfl⟩ := hx.ew
            have e20 : a'.tmps[20]?.getD undef = _ := hd 17 20 rfl rfl
            refine .inl ⟨rfl, ?_⟩
            clear hs hd hx
            go_simp
            exact ⟨Ext.refl _ _, rfl⟩
          · intro a' w' hx hs hd
            obtain ⟨y, rfl⟩ := hx.ew
            have eg : a'.tmps[21]?.getD undef = _ := hd 18 21 rfl rfl
            first
            | (refine .inr ⟨unwanted_of (j := 18) (d := 21) rfl rfl eg (by rfl), ?_⟩; exact (rfl : (Mo.is undef).p undef y.on))
            | (refine .inr ⟨unwanted_und (j := 18) (d := 21) rfl rfl eg, ?_⟩; exact (rfl : (Mo.is undef).p undef y.on))
            | (have e0 : a'.tmps[0]?.getD undef = _ := hs 0 rfl; simp only [List.getElem?_toArray, List.getElem?_cons_succ, List.getElem?_cons_zero, Option.getD_some, Array.getElem?_eq_some_iff] at e0; refine .inl ⟨wanted_of (j := 18) (d := 21) rfl rfl eg, ?_⟩; clear hs hd hx eg; go_simp; exact ⟨Ext.refl _ _, rfl⟩)
          · intro a' w' hx hs hd
            obtain ⟨y, rfl⟩ := hx.ew
            have eg : a'.tmps[21]?.getD undef = _ := hd 18 21 rfl rfl
            first
            | (refine .inr ⟨unwanted_of (j := 18) (d := 21) rfl rfl eg (by rfl), ?_⟩; exact (rfl : (Mo.is undef).p undef y.on))
            | (refine .inr ⟨unwanted_und (j := 18) (d := 21) rfl rfl eg, ?_⟩; exact (rfl : (Mo.is undef).p undef y.on))
            | (have e0 : a'.tmps[0]?.getD undef = _ := hs 0 rfl; simp only [List.getElem?_toArray, List.getElem?_cons_succ, List.getElem?_cons_zero, Option.getD_some, Array.getElem?_eq_some_iff] at e0; refine .inl ⟨wanted_of (j := 18) (d := 21) rfl rfl eg, ?_⟩; clear hs hd hx eg; go_simp; exact ⟨Ext.refl _ _, rfl⟩)
          · intro a' w' hx hs hd
            obtain ⟨y, rfl⟩ := hx.ew
            have eg : a'.tmps[21]?.getD undef = _ := hd 18 21 rfl rfl
            first
            | (refine .inr ⟨unwanted_of (j := 18) (d := 21) rfl rfl eg (by rfl), ?_⟩; exact (rfl : (Mo.is undef).p undef y.on))
            | (refine .inr ⟨unwanted_und (j := 18) (d := 21) rfl rfl eg, ?_⟩; exact (rfl : (Mo.is undef).p undef y.on))
            | (have e23 : a'.tmps[23]?.getD undef = _ := hd 20 23 rfl rfl; refine .inl ⟨wanted_of (j := 18) (d := 21) rfl rfl eg, ?_⟩; clear hs hd hx eg; go_simp; exact ⟨Ext.refl _ _, rfl⟩)
          · intro a' w' hx hs hd
            obtain ⟨y, rfl⟩ := hx.ew
            have eg : a'.tmps[21]?.getD undef = _ := hd 18 21 rfl rfl
            first
            | (refine .inr ⟨unwanted_of (j := 18) (d := 21) rfl rfl eg (by rfl), ?_⟩; exact (rfl : (Mo.is undef).p undef y.on))
            | (refine .inr ⟨unwanted_und (j := 18) (d := 21) rfl rfl eg, ?_⟩; exact (rfl : (Mo.is undef).p undef y.on))
            | (have e24 : a'.tmps[24]?.getD undef = _ := hd 21 24 rfl rfl; refine .inl ⟨wanted_of (j := 18) (d := 21) rfl rfl eg, ?_⟩; clear hs hd hx eg; go_simp; exact ⟨Ext.refl _ _, rfl⟩)
          · intro a' w' hx hs hd
            obtain ⟨y, rfl⟩ := hx.ew
            have eg : a'.tmps[21]?.getD undef = _ := hd 18 21 rfl rfl
            first
            | (refine .inr ⟨unwanted_of (j := 18) (d := 21) rfl rfl eg (by rfl), ?_⟩; exact (rfl : (Mo.is undef).p undef y.on))
            | (refine .inr ⟨unwanted_und (j := 18) (d := 21) rfl rfl eg, ?_⟩; exact (rfl : (Mo.is undef).p undef y.on))
            | (have e25 : a'.tmps[25]?.getD undef = _ := hd 22 25 rfl rfl; refine .inl ⟨wanted_of (j := 18) (d := 21) rfl rfl eg, ?_⟩; clear hs hd hx eg; go_simp; exact ⟨Ext.refl _ _, rfl⟩)
          · intro a' w' hx hs hd
            obtain ⟨y, rfl⟩ := hx.ew
            have eg : a'.tmps[21]?.getD undef = _ := hd 18 21 rfl rfl
            first
            | (refine .inr ⟨unwanted_of (j := 18) (d := 21) rfl rfl eg (by rfl), ?_⟩; exact (rfl : (Mo.is undef).p undef y.on))
            | (refine .inr ⟨unwanted_und (j := 18) (d := 21) rfl rfl eg, ?_⟩; exact (rfl : (Mo.is undef).p undef y.on))
            | (have e26 : a'.tmps[26]?.getD undef = _ := hd 23 26 rfl rfl; refine .inl ⟨wanted_of (j := 18) (d := 21) rfl rfl eg, ?_⟩; clear hs hd hx eg; go_simp; exact ⟨Ext.refl _ _, rfl⟩)
          · intro a' w' hx hs hd
            obtain ⟨y, rfl⟩ := hx.ew
            have eg : a'.tmps[21]?.getD undef = _ := hd 18 21 rfl rfl
            first
            | (refine .inr ⟨unwanted_of (j := 18) (d := 21) rfl rfl eg (by rfl), ?_⟩; exact (rfl : (Mo.is undef).p undef y.on))
            | (refine .inr ⟨unwanted_und (j := 18) (d := 21) rfl rfl eg, ?_⟩; exact (rfl : (Mo.is undef).p undef y.on))
            | (have e27 : a'.tmps[27]?.getD undef = _ := hd 24 27 rfl rfl; refine .inl ⟨wanted_of (j := 18) (d := 21) rfl rfl eg, ?_⟩; clear hs hd hx eg; go_simp; exact ⟨Ext.refl _ _, rfl⟩)
          · intro a' w' hx hs hd
            obtain ⟨y, rfl⟩ := hx.ew
            have eg : a'.tmps[21]?.getD undef = _ := hd 18 21 rfl rfl
            first
            | (refine .inr ⟨unwanted_of (j := 18) (d := 21) rfl rfl eg (by rfl), ?_⟩; exact (rfl : (Mo.is undef).p undef y.on))
            | (refine .inr ⟨unwanted_und (j := 18) (d := 21) rfl rfl eg, ?_⟩; exact (rfl : (Mo.is undef).p undef y.on))
            | (have e28 : a'.tmps[28]?.getD undef = _ := hd 25 28 rfl rfl; refine .inl ⟨wanted_of (j := 18) (d := 21) rfl rfl eg, ?_⟩; clear hs hd hx eg; go_simp; exact ⟨Ext.refl _ _, rfl⟩)
          · intro a' w' hx hs hd
            obtain ⟨y, rfl⟩ := hx.ew
            have eg : a'.tmps[21]?.getD undef = _ := hd 18 21 rfl rfl
            first
            | (refine .inr ⟨unwanted_of (j := 18) (d := 21) rfl rfl eg (by rfl), ?_⟩; exact (rfl : (Mo.is undef).p undef y.on))
            | (refine .inr ⟨unwanted_und (j := 18) (d := 21) rfl rfl eg, ?_⟩; exact (rfl : (Mo.is undef).p undef y.on))
            | (have e29 : a'.tmps[29]?.getD undef = _ := hd 26 29 rfl rfl; refine .inl ⟨wanted_of (j := 18) (d := 21) rfl rfl eg, ?_⟩; clear hs hd hx eg; go_simp; exact (HV.out _ (by (repeat (first | with_reducible (first | exact Ext.refl _ _ | assumption | refine Ext.upN ?_ | refine Ext.alloc ?_ _ | refine Ext.drew ?_ | refine Ext.drewN ?_ _ | refine Ext.up1N (by first | omega | simp) ?_) | refine Ext.alloc ?_ _ | refine Ext.setCell ?_ (.inr (by first | omega | simp)) _)))).mono (fun e w'' ⟨he, hx⟩ => ⟨_, he, hx, rfl⟩))
          · intro a' w' hx hs hd
            obtain ⟨y, rfl⟩ := hx.ew
            have eg : a'.tmps[21]?.getD undef = _ := hd 18 21 rfl rfl
            first
            | (refine .inr ⟨unwanted_of (j := 18) (d := 21) rfl rfl eg (by rfl), ?_⟩; exact (rfl : (Mo.is undef).p undef y.on))
            | (refine .inr ⟨unwanted_und (j := 18) (d := 21) rfl rfl eg, ?_⟩; exact (rfl : (Mo.is undef).p undef y.on))
            | (have e22 : a'.tmps[22]?.getD undef = _ := hd 19 22 rfl rfl; have e30 : a'.tmps[30]?.getD undef = _ := hd 27 30 rfl rfl; refine .inl ⟨wanted_of (j := 18) (d := 21) rfl rfl eg, ?_⟩; clear hs hd hx eg; go_simp; exact (HP.out _ (by (repeat (first | with_reducible (first | exact Ext.refl _ _ | assumption | refine Ext.upN ?_ | refine Ext.alloc ?_ _ | refine Ext.drew ?_ | refine Ext.drewN ?_ _ | refine Ext.up1N (by first | omega | simp) ?_) | refine Ext.alloc ?_ _ | refine Ext.setCell ?_ (.inr (by first | omega | simp)) _)))).mono (fun e w'' ⟨he, hx⟩ => ⟨_, he, hx, rfl⟩))
          · intro a' w' hx hs hd
            obtain ⟨y, rfl⟩ := hx.ew
            have eg : a'.tmps[21]?.getD undef = _ := hd 18 21 rfl rfl
            first
            | (refine .inr ⟨unwanted_of (j := 18) (d := 21) rfl rfl eg (by rfl), ?_⟩; exact (rfl : (Mo.is undef).p undef y.on))
            | (refine .inr ⟨unwanted_und (j := 18) (d := 21) rfl rfl eg, ?_⟩; exact (rfl : (Mo.is undef).p undef y.on))
            | (have e0 : a'.tmps[0]?.getD undef = _ := hs 0 rfl; simp only [List.getElem?_toArray, List.getElem?_cons_succ, List.getElem?_cons_zero, Option.getD_some, Array.getElem?_eq_some_iff] at e0; refine .inl ⟨wanted_of (j := 18) (d := 21) rfl rfl eg, ?_⟩; clear hs hd hx eg; go_simp; exact ⟨Ext.refl _ _, rfl⟩)
          · intro a' w' hx hs hd
            obtain ⟨y, rfl⟩ := hx.ew
            have eg : a'.tmps[21]?.getD undef = _ := hd 18 21 rfl rfl
            first
            | (refine .inr ⟨unwanted_of (j := 18) (d := 21) rfl rfl eg (by rfl), ?_⟩; exact (rfl : (Mo.is undef).p undef y.on))
            | (refine .inr ⟨unwanted_und (j := 18) (d := 21) rfl rfl eg, ?_⟩; exact (rfl : (Mo.is undef).p undef y.on))
            | (have e32 : a'.tmps[32]?.getD undef = _ := hd 29 32 rfl rfl; refine .inl ⟨wanted_of (j := 18) (d := 21) rfl rfl eg, ?_⟩; clear hs hd hx eg; go_simp; exact ⟨Ext.refl _ _, rfl⟩)
          · intro a' w' hx hs hd
            obtain ⟨y, rfl⟩ := hx.ew
            have eg : a'.tmps[21]?.getD undef = _ := hd 18 21 rfl rfl
            first
            | (refine .inr ⟨unwanted_of (j := 18) (d := 21) rfl rfl eg (by rfl), ?_⟩; exact (rfl : (Mo.is undef).p undef y.on))
            | (refine .inr ⟨unwanted_und (j := 18) (d := 21) rfl rfl eg, ?_⟩; exact (rfl : (Mo.is undef).p undef y.on))
            | (have e33 : a'.tmps[33]?.getD undef = _ := hd 30 33 rfl rfl; refine .inl ⟨wanted_of (j := 18) (d := 21) rfl rfl eg, ?_⟩; clear hs hd hx eg; go_simp; exact ⟨Ext.refl _ _, rfl⟩)
          · intro a' w' hx hs hd
            obtain ⟨y, rfl⟩ := hx.ew
            have eg : a'.tmps[21]?.getD undef = _ := hd 18 21 rfl rfl
            first
            | (refine .inr ⟨unwanted_of (j := 18) (d := 21) rfl rfl eg (by rfl), ?_⟩; exact (rfl : (Mo.is undef).p undef y.on))
            | (refine .inr ⟨unwanted_und (j := 18) (d := 21) rfl rfl eg, ?_⟩; exact (rfl : (Mo.is undef).p undef y.on))
            | (have e34 : a'.tmps[34]?.getD undef = _ := hd 31 34 rfl rfl; refine .inl ⟨wanted_of (j := 18) (d := 21) rfl rfl eg, ?_⟩; clear hs hd hx eg; go_simp; exact ⟨Ext.refl _ _, rfl⟩)
          · intro a' w' hx hs hd
            obtain ⟨y, rfl⟩ := hx.ew
            have eg : a'.tmps[21]?.getD undef = _ := hd 18 21 rfl rfl
            first
            | (refine .inr ⟨unwanted_of (j := 18) (d := 21) rfl rfl eg (by rfl), ?_⟩; exact (rfl : (Mo.is undef).p undef y.on))
            | (refine .inr ⟨unwanted_und (j := 18) (d := 21) rfl rfl eg, ?_⟩; exact (rfl : (Mo.is undef).p undef y.on))
            | (have e31 : a'.tmps[31]?.getD undef = _ := hd 28 31 rfl rfl; have e35 : a'.tmps[35]?.getD undef = _ := hd 32 35 rfl rfl; refine .inl ⟨wanted_of (j := 18) (d := 21) rfl rfl eg, ?_⟩; clear hs hd hx eg; go_simp; exact ⟨Ext.refl _ _, rfl⟩)
          · intro a' w' hx hs hd
            obtain ⟨y, rfl⟩ := hx.ew
            have e21 : a'.tmps[21]?.getD undef = _ := hd 18 21 rfl rfl
            have e36 : a'.tmps[36]?.getD undef = _ := hd 33 36 rfl rfl
            refine .inl ⟨rfl, ?_⟩
            clear hs hd hx
            go_simp
            exact ⟨Ext.refl _ _, rfl⟩
          · intro a' w' hx hs hd
            obtain ⟨y, rfl⟩ := hx.ew
            have e37 : a'.tmps[37]?.getD undef = _ := hd 34 37 rfl rfl
            refine .inl ⟨rfl, ?_⟩
            clear hs hd hx
            go_simp
            exact ⟨Ext.refl _ _, rfl⟩
        case' q10 =>
          intro vs w' hx hRR
          obtain ⟨x2, rfl⟩ := hx.ew
          have q0 : vs 0 = _ := hRR 0 (by decide)
          have q1 : vs 1 = _ := hRR 1 (by decide)
          have q2 : vs 2 = _ := hRR 2 (by decide)
          have q3 : vs 3 = _ := hRR 3 (by decide)
          have q4 : vs 4 = _ := hRR 4 (by decide)
          have q5 : vs 5 = _ := hRR 5 (by decide)
          have q6 : vs 6 = _ := hRR 6 (by decide)
          have q7 : vs 7 = _ := hRR 7 (by decide)
          have q8 : vs 8 = _ := hRR 8 (by decide)
          have q9 : vs 9 = _ := hRR 9 (by decide)
          have q10 : vs 10 = _ := hRR 10 (by decide)
          have q11 : vs 11 = _ := hRR 11 (by decide)
          have q12 : vs 12 = _ := hRR 12 (by decide)
          have q13 : vs 13 = _ := hRR 13 (by decide)
          have q14 : vs 14 = _ := hRR 14 (by decide)
          have q15 : vs 15 = _ := hRR 15 (by decide)
          have q16 : vs 16 = _ := hRR 16 (by decide)
          have q17 : vs 17 = _ := hRR 17 (by decide)
          have q18 : vs 18 = _ := hRR 18 (by decide)
          have q19 : vs 19 = _ := hRR 19 (by decide)
          have q20 : vs 20 = _ := hRR 20 (by decide)
          have q21 : vs 21 = _ := hRR 21 (by decide)
          have q22 : vs 22 = _ := hRR 22 (by decide)
          have q23 : vs 23 = _ := hRR 23 (by decide)
          have q24 : vs 24 = _ := hRR 24 (by decide)
          have q25 : vs 25 = _ := hRR 25 (by decide)
          have q26 : vs 26 = _ := hRR 26 (by decide)
          have q27 : vs 27 = _ := hRR 27 (by decide)
          have q28 : vs 28 = _ := hRR 28 (by decide)
          have q29 : vs 29 = _ := hRR 29 (by decide)
          have q30 : vs 30 = _ := hRR 30 (by decide)
          have q31 : vs 31 = _ := hRR 31 (by decide)
          have q32 : vs 32 = _ := hRR 32 (by decide)
          have q33 : vs 33 = _ := hRR 33 (by decide)
          have q34 : vs 34 = _ := hRR 34 (by decide)
          have q35 : vs 35 = _ := hRR 35 (by decide)
          clear hRR hx
          simp only [putAll, List.take_succ_cons, List.take_zero, List.drop_succ_cons, List.drop_zero, Act.put, List.setIfInBounds_toArray, List.set_cons_zero, List.set_cons_succ, Nat.reduceAdd, Nat.zero_add]
          simp only [q0, q1, q2, q3, q4, q5, q6, q7, q8, q9, q10, q11, q12, q13, q14, q15, q16, q17, q18, q19, q20, q21, q22, q23, q24, q25, q26, q27, q28, q29, q30, q31, q32, q33, q34, q35]
          clear q0 q1 q2 q3 q4 q5 q6 q7 q8 q9 q10 q11 q12 q13 q14 q15 q16 q17 q18 q19 q20 q21 q22 q23 q24 q25 q26 q27 q28 q29 q30 q31 q32 q33 q34 q35 vs
        go_wp2
        go_ret
        exact ⟨ret_bool (by rw [DL.out]; rfl), by (repeat (first | with_reducible (first | exact Ext.refl _ _ | assumption | refine Ext.upN ?_ | refine Ext.alloc ?_ _ | refine Ext.drew ?_ | refine Ext.drewN ?_ _ | refine Ext.up1N (by first | omega | simp) ?_) | refine Ext.alloc ?_ _ | refine Ext.setCell ?_ (.inr (by first | omega | simp)) _))⟩
      · go_enter Tryz.func267, Tryz.ntmps267
        go_upto_region 1 with fail
        apply wp_region_rel (relR [Mo.is _, Mo.is _, Mo.is _, Mo.is _, Mo.is _, Mo.is _, Mo.is _, Mo.is _, Mo.is _, Mo.is _, Mo.is _, Mo.is _, Mo.is _, Mo.is _, Mo.is _, Mo.is _, Mo.is _, Mo.is _, Mo.is _, Mo.is _, Mo.is _, Mo.is _, Mo.is _, Mo.is _, Mo.is _, Mo.is _, Mo.is _, Mo.is _, Mo.is _, Mo.is _, Mo.is _, Mo.is _, Mo.is _, Mo.is _, Mo.is _, Mo.is _]) (by kernel_rfl) (by kernel_rfl) (by kernel_rfl) (relR_mono _) (StepD.all ?st11) ?q11
        case st11 =>
          refine ⟨?_, ?_, ?_, ?_, ?_, ?_, ?_, ?_, ?_, ?_, ?_, ?_, ?_, ?_, ?_, ?_, ?_, ?_, ?_, ?_, ?_, ?_, ?_, ?_, ?_, ?_, ?_, ?_, ?_, ?_, ?_, ?_, ?_, ?_, ?_, ?_, trivial⟩
          · intro a' w' hx hs hd
            obtain ⟨y, rfl⟩ := hx.ew
            have e0 : a'.tmps[0]?.getD undef = _ := hs 0 rfl
            simp only [List.getElem?_toArray, List.getElem?_cons_succ, List.getElem?_cons_zero, Option.getD_some, Array.getElem?_eq_some_iff] at e0
            refine .inl ⟨rfl, ?_⟩
            clear hs hd hx
            go_simp
            exact ⟨Ext.refl _ _, rfl⟩
          · intro a' w' hx hs hd
            obtain ⟨y, rfl⟩ := hx.ew
            have e3 : a'.tmps[3]?.getD undef = _ := hd 0 3 rfl rfl
            refine .inl ⟨rfl, ?_⟩
            clear hs hd hx
            go_simp
            exact ⟨Ext.refl _ _, rfl⟩
          · intro a' w' hx hs hd
            obtain ⟨y, rfl⟩ := hx.ew
            have e4 : a'.tmps[4]?.getD undef = _ := hd 1 4 rfl rfl
            refine .inl ⟨rfl, ?_⟩
            clear hs hd hx
            go_simp
            exact ⟨Ext.refl _ _, rfl⟩
          · intro a' w' hx hs hd
            obtain ⟨y, rfl⟩ := hx.ew
            have e5 : a'.tmps[5]?.getD undef = _ := hd 2 5 rfl rfl
            refine .inl ⟨rfl, ?_⟩
            clear hs hd hx
            go_simp
            exact ⟨Ext.refl _ _, rfl⟩
          · intro a' w' hx hs hd
            obtain ⟨y, rfl⟩ := hx.ew
            have e6 : a'.tmps[6]?.getD undef = _ := hd 3 6 rfl rfl
            refine .inl ⟨rfl, ?_⟩
            clear hs hd hx
            go_simp
            exact ⟨Ext.refl _ _, rfl⟩
          · intro a' w' hx hs hd
            obtain ⟨y, rfl⟩ := hx.ew
            have e7 : a'.tmps[7]?.getD undef = _ := hd 4 7 rfl rfl
            refine .inl ⟨rfl, ?_⟩
            clear hs hd hx
            go_simp
            exact ⟨Ext.refl _ _, rfl⟩
          · intro a' w' hx hs hd
            obtain ⟨y, rfl⟩ := hx.ew
            have eg : a'.tmps[8]?.getD undef = _ := hd 5 8 rfl rfl
            first
            | (refine .inr ⟨unwanted_of (j := 5) (d := 8) rfl rfl eg (by rfl), ?_⟩; exact (rfl : (Mo.is undef).p undef y.on))
            | (refine .inr ⟨unwanted_und (j := 5) (d := 8) rfl rfl eg, ?_⟩; exact (rfl : (Mo.is undef).p undef y.on))
            | (have e0 : a'.tmps[0]?.getD undef = _ := hs 0 rfl; simp only [List.getElem?_toArray, List.getElem?_cons_succ, List.getElem?_cons_zero, Option.getD_some, Array.getElem?_eq_some_iff] at e0; refine .inl ⟨wanted_of (j := 5) (d := 8) rfl rfl eg, ?_⟩; clear hs hd hx eg; go_simp; exact ⟨Ext.refl _ _, rfl⟩)
          · intro a' w' hx hs hd
            obtain ⟨y, rfl⟩ := hx.ew
            have eg : a'.tmps[8]?.getD undef = _ := hd 5 8 rfl rfl
            first
            | (refine .inr ⟨unwanted_of (j := 5) (d := 8) rfl rfl eg (by rfl), ?_⟩; exact (rfl : (Mo.is undef).p undef y.on))
            | (refine .inr ⟨unwanted_und (j := 5) (d := 8) rfl rfl eg, ?_⟩; exact (rfl : (Mo.is undef).p undef y.on))
            | (have e9 : a'.tmps[9]?.getD undef = _ := hd 6 9 rfl rfl; refine .inl ⟨wanted_of (j := 5) (d := 8) rfl rfl eg, ?_⟩; clear hs hd hx eg; go_simp; exact ⟨Ext.refl _ _, rfl⟩)
          · intro a' w' hx hs hd
            obtain ⟨y, rfl⟩ := hx.ew
            have eg : a'.tmps[8]?.getD undef = _ := hd 5 8 rfl rfl
            first
            | (refine .inr ⟨unwanted_of (j := 5) (d := 8) rfl rfl eg (by rfl), ?_⟩; exact (rfl : (Mo.is undef).p undef y.on))
            | (refine .inr ⟨unwanted_und (j := 5) (d := 8) rfl rfl eg, ?_⟩; exact (rfl : (Mo.is undef).p undef y.on))
            | (have e10 : a'.tmps[10]?.getD undef = _ := hd 7 10 rfl rfl; refine .inl ⟨wanted_of (j := 5) (d := 8) rfl rfl eg, ?_⟩; clear hs hd hx eg; go_simp; exact ⟨Ext.refl _ _, rfl⟩)
          · intro a' w' hx hs hd
            obtain ⟨y, rfl⟩ := hx.ew
            have eg : a'.tmps[8]?.getD undef = _ := hd 5 8 rfl rfl
            first
            | (refine .inr ⟨unwanted_of (j := 5) (d := 8) rfl rfl eg (by rfl), ?_⟩; exact (rfl : (Mo.is undef).p undef y.on))
            | (refine .inr ⟨unwanted_und (j := 5) (d := 8) rfl rfl eg, ?_⟩; exact (rfl : (Mo.is undef).p undef y.on))
            | (have e11 : a'.tmps[11]?.getD undef = _ := hd 8 11 rfl rfl; refine .inl ⟨wanted_of (j := 5) (d := 8) rfl rfl eg, ?_⟩; clear hs hd hx eg; go_simp; exact ⟨Ext.refl _ _, rfl⟩)
          · intro a' w' hx hs hd
            obtain ⟨y, rfl⟩ := hx.ew
            have eg : a'.tmps[8]?.getD undef = _ := hd 5 8 rfl rfl
            first
            | (refine .inr ⟨unwanted_of (j := 5) (d := 8) rfl rfl eg (by rfl), ?_⟩; exact (rfl : (Mo.is undef).p undef y.on))
            | (refine .inr ⟨unwanted_und (j := 5) (d := 8) rfl rfl eg, ?_⟩; exact (rfl : (Mo.is undef).p undef y.on))
            | (have e12 : a'.tmps[12]?.getD undef = _ := hd 9 12 rfl rfl; refine .inl ⟨wanted_of (j := 5) (d := 8) rfl rfl eg, ?_⟩; clear hs hd hx eg; go_simp; exact ⟨Ext.refl _ _, rfl⟩)
          · intro a' w' hx hs hd
            obtain ⟨y, rfl⟩ := hx.ew
            have eg : a'.tmps[8]?.getD undef = _ := hd 5 8 rfl rfl
            first
            | (refine .inr ⟨unwanted_of (j := 5) (d := 8) rfl rfl eg (by rfl), ?_⟩; exact (rfl : (Mo.is undef).p undef y.on))
            | (refine .inr ⟨unwanted_und (j := 5) (d := 8) rfl rfl eg, ?_⟩; exact (rfl : (Mo.is undef).p undef y.on))
            | (have e13 : a'.tmps[13]?.getD undef = _ := hd 10 13 rfl rfl; refine .inl ⟨wanted_of (j := 5) (d := 8) rfl rfl eg, ?_⟩; clear hs hd hx eg; go_simp; exact ⟨Ext.refl _ _, rfl⟩)
          · intro a' w' hx hs hd
            obtain ⟨y, rfl⟩ := hx.ew
            have eg : a'.tmps[8]?.getD undef = _ := hd 5 8 rfl rfl
            first
            | (refine .inr ⟨unwanted_of (j := 5) (d := 8) rfl rfl eg (by rfl), ?_⟩; exact (rfl : (Mo.is undef).p undef y.on))
            | (refine .inr ⟨unwanted_und (j := 5) (d := 8) rfl rfl eg, ?_⟩; exact (rfl : (Mo.is undef).p undef y.on))
            | (have e14 : a'.tmps[14]?.getD undef = _ := hd 11 14 rfl rfl; refine .inl ⟨wanted_of (j := 5) (d := 8) rfl rfl eg, ?_⟩; clear hs hd hx eg; go_simp; exact ⟨Ext.refl _ _, rfl⟩)
          · intro a' w' hx hs hd
            obtain ⟨y, rfl⟩ := hx.ew
            have e8 : a'.tmps[8]?.getD undef = _ := hd 5 8 rfl rfl
            have e15 : a'.tmps[15]?.getD undef = _ := hd 12 15 rfl rfl
            refine .inl ⟨rfl, ?_⟩
            clear hs hd hx
            go_simp
            exact ⟨Ext.refl _ _, rfl⟩
          · intro a' w' hx hs hd
            obtain ⟨y, rfl⟩ := hx.ew
            have e16 : a'.tmps[16]?.getD undef = _ := hd 13 16 rfl rfl
            refine .inl ⟨rfl, ?_⟩
            clear hs hd hx
            go_simp
            exact ⟨Ext.refl _ _, rfl⟩
          · intro a' w' hx hs hd
            obtain ⟨y, rfl⟩ := hx.ew
            have eg : a'.tmps[17]?.getD undef = _ := hd 14 17 rfl rfl
            first
            | (refine .inr ⟨unwanted_of (j := 14) (d := 17) rfl rfl eg (by rfl), ?_⟩; exact (rfl : (Mo.is undef).p undef y.on))
            | (refine .inr ⟨unwanted_und (j := 14) (d := 17) rfl rfl eg, ?_⟩; exact (rfl : (Mo.is undef).p undef y.on))
            | (have e0 : a'.tmps[0]?.getD undef = _ := hs 0 rfl; simp only [List.getElem?_toArray, List.getElem?_cons_succ, List.getElem?_cons_zero, Option.getD_some, Array.getElem?_eq_some_iff] at e0; refine .inl ⟨wanted_of (j := 14) (d := 17) rfl rfl eg, ?_⟩; clear hs hd hx eg; go_simp; exact ⟨Ext.refl _ _, rfl⟩)
          · intro a' w' hx hs hd
            obtain ⟨y, rfl⟩ := hx.ew
            have eg : a'.tmps[17]?.getD undef = _ := hd 14 17 rfl rfl
            first
            | (refine .inr ⟨unwanted_of (j := 14) (d := 17) rfl rfl eg (by rfl), ?_⟩; exact (rfl : (Mo.is undef).p undef y.on))
            | (refine .inr ⟨unwanted_und (j := 14) (d := 17) rfl rfl eg, ?_⟩; exact (rfl : (Mo.is undef).p undef y.on))
            | (have e18 : a'.tmps[18]?.getD undef = _ := hd 15 18 rfl rfl; refine .inl ⟨wanted_of (j := 14) (d := 17) rfl rfl eg, ?_⟩; clear hs hd hx eg; go_simp; exact (HM.out _ (by (repeat (first | with_reducible (first | exact Ext.refl _ _ | assumption | refine Ext.upN ?_ | refine Ext.alloc ?_ _ | refine Ext.drew ?_ | refine Ext.drewN ?_ _ | refine Ext.up1N (by first | omega | simp) ?_) | refine Ext.alloc ?_ _ | refine Ext.setCell ?_ (.inr (by first | omega | simp)) _)))).mono (fun e w'' ⟨he, hx⟩ => ⟨_, he, hx, rfl⟩))
          · intro a' w' hx hs hd
            obtain ⟨y, rfl⟩ := hx.ew
            have e17 : a'.tmps[17]?.getD undef = _ := hd 14 17 rfl rfl
            have e19 : a'.tmps[19]?.getD undef = _ := hd 16 19 rfl rfl
            refine .inl ⟨rfl, ?_⟩
            clear hs hd hx
            go_simp
            exact ⟨Ext.refl _ _, rfl⟩
          · intro a' w' hx hs hd
            obtain ⟨y, rfl⟩ := hx.ew
            have e20 : a'.tmps[20]?.getD undef = _ := hd 17 20 rfl rfl
            refine .inl ⟨rfl, ?_⟩
            clear hs hd hx
            go_simp
            exact ⟨Ext.refl _ _, rfl⟩
          · intro a' w' hx hs hd
            obtain ⟨y, rfl⟩ := hx.ew
            have eg : a'.tmps[21]?.getD undef = _ := hd 18 21 rfl rfl
            first
            | (refine .inr ⟨unwanted_of (j := 18) (d := 21) rfl rfl eg (by rfl), ?_⟩; exact (rfl : (Mo.is undef).p undef y.on))
            | (refine .inr ⟨unwanted_und (j := 18) (d := 21) rfl rfl eg, ?_⟩; exact (rfl : (Mo.is undef).p undef y.on))
            | (have e0 : a'.tmps[0]?.getD undef = _ := hs 0 rfl; simp only [List.getElem?_toArray, List.getElem?_cons_succ, List.getElem?_cons_zero, Option.getD_some, Array.getElem?_eq_some_iff] at e0; refine .inl ⟨wanted_of (j := 18) (d := 21) rfl rfl eg, ?_⟩; clear hs hd hx eg; go_simp; exact ⟨Ext.refl _ _, rfl⟩)
          · intro a' w' hx hs hd
            obtain ⟨y, rfl⟩ := hx.ew
            have eg : a'.tmps[21]?.getD undef = _ := hd 18 21 rfl rfl
            first
            | (refine .inr ⟨unwanted_of (j := 18) (d := 21) rfl rfl eg (by rfl), ?_⟩; exact (rfl : (Mo.is undef).p undef y.on))
            | (refine .inr ⟨unwanted_und (j := 18) (d := 21) rfl rfl eg, ?_⟩; exact (rfl : (Mo.is undef).p undef y.on))
            | (have e0 : a'.tmps[0]?.getD undef = _ := hs 0 rfl; simp only [List.getElem?_toArray, List.getElem?_cons_succ, List.getElem?_cons_zero, Option.getD_some, Array.getElem?_eq_some_iff] at e0; refine .inl ⟨wanted_of (j := 18) (d := 21) rfl rfl eg, ?_⟩; clear hs hd hx eg; go_simp; exact ⟨Ext.refl _ _, rfl⟩)
          · intro a' w' hx hs hd
            obtain ⟨y, rfl⟩ := hx.ew
            have eg : a'.tmps[21]?.getD undef = _ := hd 18 21 rfl rfl
            first
            | (refine .inr ⟨unwanted_of (j := 18) (d := 21) rfl rfl eg (by rfl), ?_⟩; exact (rfl : (Mo.is undef).p undef y.on))
            | (refine .inr ⟨unwanted_und (j := 18) (d := 21) rfl rfl eg, ?_⟩; exact (rfl : (Mo.is undef).p undef y.on))
            | (have e23 : a'.tmps[23]?.getD undef = _ := hd 20 23 rfl rfl; refine .inl ⟨wanted_of (j := 18) (d := 21) rfl rfl eg, ?_⟩; clear hs hd hx eg; go_simp; exact ⟨Ext.refl _ _, rfl⟩)
          · intro a' w' hx hs hd
            obtain ⟨y, rfl⟩ := hx.ew
            have eg : a'.tmps[21]?.getD undef = _ := hd 18 21 rfl rfl
            first
            | (refine .inr ⟨unwanted_of (j := 18) (d := 21) rfl rfl eg (by rfl), ?_⟩; exact (rfl : (Mo.is undef).p undef y.on))
            | (refine .inr ⟨unwanted_und (j := 18) (d := 21) rfl rfl eg, ?_⟩; exact (rfl : (Mo.is undef).p undef y.on))
            | (have e24 : a'.tmps[24]?.getD undef = _ := hd 21 24 rfl rfl; refine .inl ⟨wanted_of (j := 18) (d := 21) rfl rfl eg, ?_⟩; clear hs hd hx eg; go_simp; exact ⟨Ext.refl _ _, rfl⟩)
          · intro a' w' hx hs hd
            obtain ⟨y, rfl⟩ := hx.ew
            have eg : a'.tmps[21]?.getD undef = _ := hd 18 21 rfl rfl
            first
            | (refine .inr ⟨unwanted_of (j := 18) (d := 21) rfl rfl eg (by rfl), ?_⟩; exact (rfl : (Mo.is undef).p undef y.on))
            | (refine .inr ⟨unwanted_und (j := 18) (d := 21) rfl rfl eg, ?_⟩; exact (rfl : (Mo.is undef).p undef y.on))
            | (have e25 : a'.tmps[25]?.getD undef = _ := hd 22 25 rfl rfl; refine .inl ⟨wanted_of (j := 18) (d := 21) rfl rfl eg, ?_⟩; clear hs hd hx eg; go_simp; exact ⟨Ext.refl _ _, rfl⟩)
          · intro a' w' hx hs hd
            obtain ⟨y, rfl⟩ := hx.ew
            have eg : a'.tmps[21]?.getD undef = _ := hd 18 21 rfl rfl
            first
            | (refine .inr ⟨unwanted_of (j := 18) (d := 21) rfl rfl eg (by rfl), ?_⟩; exact (rfl : (Mo.is undef).p undef y.on))
            | (refine .inr ⟨unwanted_und (j := 18) (d := 21) rfl rfl eg, ?_⟩; exact (rfl : (Mo.is undef).p undef y.on))
            | (have e26 : a'.tmps[26]?.getD undef = _ := hd 23 26 rfl rfl; refine .inl ⟨wanted_of (j := 18) (d := 21) rfl rfl eg, ?_⟩; clear hs hd hx eg; go_simp; exact ⟨Ext.refl _ _, rfl⟩)
          · intro a' w' hx hs hd
            obtain ⟨y, rfl⟩ := hx.ew
            have eg : a'.tmps[21]?.getD undef = _ := hd 18 21 rfl rfl
            first
            | (refine .inr ⟨unwanted_of (j := 18) (d := 21) rfl rfl eg (by rfl), ?_⟩; exact (rfl : (Mo.is undef).p undef y.on))
            | (refine .inr ⟨unwanted_und (j := 18) (d := 21) rfl rfl eg, ?_⟩; exact (rfl : (Mo.is undef).p undef y.on))
            | (have e27 : a'.tmps[27]?.getD undef = _ := hd 24 27 rfl rfl; refine .inl ⟨wanted_of (j := 18) (d := 21) rfl rfl eg, ?_⟩; clear hs hd hx eg; go_simp; exact ⟨Ext.refl _ _, rfl⟩)
          · intro a' w' hx hs hd
            obtain ⟨y, rfl⟩ := hx.ew
            have eg : a'.tmps[21]?.getD undef = _ := hd 18 21 rfl rfl
            first
            | (refine .inr ⟨unwanted_of (j := 18) (d := 21) rfl rfl eg (by rfl), ?_⟩; exact (rfl : (Mo.is undef).p undef y.on))
            | (refine .inr ⟨unwanted_und (j := 18) (d := 21) rfl rfl eg, ?_⟩; exact (rfl : (Mo.is undef).p undef y.on))
            | (have e28 : a'.tmps[28]?.getD undef = _ := hd 25 28 rfl rfl; refine .inl ⟨wanted_of (j := 18) (d := 21) rfl rfl eg, ?_⟩; clear hs hd hx eg; go_simp; exact ⟨Ext.refl _ _, rfl⟩)
          · intro a' w' hx hs hd
            obtain ⟨y, rfl⟩ := hx.ew
            have eg : a'.tmps[21]?.getD undef = _ := hd 18 21 rfl rfl
            first
            | (refine .inr ⟨unwanted_of (j := 18) (d := 21) rfl rfl eg (by rfl), ?_⟩; exact (rfl : (Mo.is undef).p undef y.on))
            | (refine .inr ⟨unwanted_und (j := 18) (d := 21) rfl rfl eg, ?_⟩; exact (rfl : (Mo.is undef).p undef y.on))
            | (have e29 : a'.tmps[29]?.getD undef = _ := hd 26 29 rfl rfl; refine .inl ⟨wanted_of (j := 18) (d := 21) rfl rfl eg, ?_⟩; clear hs hd hx eg; go_simp; exact (HV.out _ (by (repeat (first | with_reducible (first | exact Ext.refl _ _ | assumption | refine Ext.upN ?_ | refine Ext.alloc ?_ _ | refine Ext.drew ?_ | refine Ext.drewN ?_ _ | refine Ext.up1N (by first | omega | simp) ?_) | refine Ext.alloc ?_ _ | refine Ext.setCell ?_ (.inr (by first | omega | simp)) _)))).mono (fun e w'' ⟨he, hx⟩ => ⟨_, he, hx, rfl⟩))
          · intro a' w' hx hs hd
            obtain ⟨y, rfl⟩ := hx.ew
            have eg : a'.tmps[21]?.getD undef = _ := hd 18 21 rfl rfl
            first
            | (refine .inr ⟨unwanted_of (j := 18) (d := 21) rfl rfl eg (by rfl), ?_⟩; exact (rfl : (Mo.is undef).p undef y.on))
            | (refine .inr ⟨unwanted_und (j := 18) (d := 21) rfl rfl eg, ?_⟩; exact (rfl : (Mo.is undef).p undef y.on))
            | (have e22 : a'.tmps[22]?.getD undef = _ := hd 19 22 rfl rfl; have e30 : a'.tmps[30]?.getD undef = _ := hd 27 30 rfl rfl; refine .inl ⟨wanted_of (j := 18) (d := 21) rfl rfl eg, ?_⟩; clear hs hd hx eg; go_simp; exact (HP.out _ (by (repeat (first | with_reducible (first | exact Ext.refl _ _ | assumption | refine Ext.upN ?_ | refine Ext.alloc ?_ _ | refine Ext.drew ?_ | refine Ext.drewN ?_ _ | refine Ext.up1N (by first | omega | simp) ?_) | refine Ext.alloc ?_ _ | refine Ext.setCell ?_ (.inr (by first | omega | simp)) _)))).mono (fun e w'' ⟨he, hx⟩ => ⟨_, he, hx, rfl⟩))
          · intro a' w' hx hs hd
            obtain ⟨y, rfl⟩ := hx.ew
            have eg : a'.tmps[21]?.getD undef = _ := hd 18 21 rfl rfl
            first
            | (refine .inr ⟨unwanted_of (j := 18) (d := 21) rfl rfl eg (by rfl), ?_⟩; exact (rfl : (Mo.is undef).p undef y.on))
            | (refine .inr ⟨unwanted_und (j := 18) (d := 21) rfl rfl eg, ?_⟩; exact (rfl : (Mo.is undef).p undef y.on))
            | (have e0 : a'.tmps[0]?.getD undef = _ := hs 0 rfl; simp only [List.getElem?_toArray, List.getElem?_cons_succ, List.getElem?_cons_zero, Option.getD_some, Array.getElem?_eq_some_iff] at e0; refine .inl ⟨wanted_of (j := 18) (d := 21) rfl rfl eg, ?_⟩; clear hs hd hx eg; go_simp; exact ⟨Ext.refl _ _, rfl⟩)
          · intro a' w' hx hs hd
            obtain ⟨y, rfl⟩ := hx.ew
            have eg : a'.tmps[21]?.getD undef = _ := hd 18 21 rfl rfl
            first
            | (refine .inr ⟨unwanted_of (j := 18) (d := 21) rfl rfl eg (by rfl), ?_⟩; exact (rfl : (Mo.is undef).p undef y.on))
            | (refine .inr ⟨unwanted_und (j := 18) (d := 21) rfl rfl eg, ?_⟩; exact (rfl : (Mo.is undef).p undef y.on))
            | (have e32 : a'.tmps[32]?.getD undef = _ := hd 29 32 rfl rfl; refine .inl ⟨wanted_of (j := 18) (d := 21) rfl rfl eg, ?_⟩; clear hs hd hx eg; go_simp; exact ⟨Ext.refl _ _, rfl⟩)
          · intro a' w' hx hs hd
            obtain ⟨y, rfl⟩ := hx.ew
            have eg : a'.tmps[21]?.getD undef = _ := hd 18 21 rfl rfl
            first
            | (refine .inr ⟨unwanted_of (j := 18) (d := 21) rfl rfl eg (by rfl), ?_⟩; exact (rfl : (Mo.is undef).p undef y.on))
            | (refine .inr ⟨unwanted_und (j := 18) (d := 21) rfl rfl eg, ?_⟩; exact (rfl : (Mo.is undef).p undef y.on))
            | (have e33 : a'.tmps[33]?.getD undef = _ := hd 30 33 rfl rfl; refine .inl ⟨wanted_of (j := 18) (d := 21) rfl rfl eg, ?_⟩; clear hs hd hx eg; go_simp; exact ⟨Ext.refl _ _, rfl⟩)
          · intro a' w' hx hs hd
            obtain ⟨y, rfl⟩ := hx.ew
            have eg : a'.tmps[21]?.getD undef = _ := hd 18 21 rfl rfl
            first
            | (refine .inr ⟨unwanted_of (j := 18) (d := 21) rfl rfl eg (by rfl), ?_⟩; exact (rfl : (Mo.is undef).p undef y.on))
            | (refine .inr ⟨unwanted_und (j := 18) (d := 21) rfl rfl eg, ?_⟩; exact (rfl : (Mo.is undef).p undef y.on))
            | (have e34 : a'.tmps[34]?.getD undef = _ := hd 31 34 rfl rfl; refine .inl ⟨wanted_of (j := 18) (d := 21) rfl rfl eg, ?_⟩; clear hs hd hx eg; go_simp; exact ⟨Ext.refl _ _, rfl⟩)
          · intro a' w' hx hs hd
            obtain ⟨y, rfl⟩ := hx.ew
            have eg : a'.tmps[21]?.getD undef = _ := hd 18 21 rfl rfl
            first
            | (refine .inr ⟨unwanted_of (j := 18) (d := 21) rfl rfl eg (by rfl), ?_⟩; exact (rfl : (Mo.is undef).p undef y.on))
            | (refine .inr ⟨unwanted_und (j := 18) (d := 21) rfl rfl eg, ?_⟩; exact (rfl : (Mo.is undef).p undef y.on))
            | (have e31 : a'.tmps[31]?.getD undef = _ := hd 28 31 rfl rfl; have e35 : a'.tmps[35]?.getD undef = _ := hd 32 35 rfl rfl; refine .inl ⟨wanted_of (j := 18) (d := 21) rfl rfl eg, ?_⟩; clear hs hd hx eg; go_simp; exact ⟨Ext.refl _ _, rfl⟩)
          · intro a' w' hx hs hd
            obtain ⟨y, rfl⟩ := hx.ew
            have e21 : a'.tmps[21]?.getD undef = _ := hd 18 21 rfl rfl
            have e36 : a'.tmps[36]?.getD undef = _ := hd 33 36 rfl rfl
            refine .inl ⟨rfl, ?_⟩
            clear hs hd hx
            go_simp
            exact ⟨Ext.refl _ _, rfl⟩
          · intro a' w' hx hs hd
            obtain ⟨y, rfl⟩ := hx.ew
            have e37 : a'.tmps[37]?.getD undef = _ := hd 34 37 rfl rfl
            refine .inl ⟨rfl, ?_⟩
            clear hs hd hx
            go_simp
            exact ⟨Ext.refl _ _, rfl⟩
        case' q11 =>
          intro vs w' hx hRR
          obtain ⟨x2, rfl⟩ := hx.ew
          have q0 : vs 0 = _ := hRR 0 (by decide)
          have q1 : vs 1 = _ := hRR 1 (by decide)
          have q2 : vs 2 = _ := hRR 2 (by decide)
          have q3 : vs 3 = _ := hRR 3 (by decide)
          have q4 : vs 4 = _ := hRR 4 (by decide)
          have q5 : vs 5 = _ := hRR 5 (by decide)
          have q6 : vs 6 = _ := hRR 6 (by decide)
          have q7 : vs 7 = _ := hRR 7 (by decide)
          have q8 : vs 8 = _ := hRR 8 (by decide)
          have q9 : vs 9 = _ := hRR 9 (by decide)
          have q10 : vs 10 = _ := hRR 10 (by decide)
          have q11 : vs 11 = _ := hRR 11 (by decide)
          have q12 : vs 12 = _ := hRR 12 (by decide)
          have q13 : vs 13 = _ := hRR 13 (by decide)
          have q14 : vs 14 = _ := hRR 14 (by decide)
          have q15 : vs 15 = _ := hRR 15 (by decide)
          have q16 : vs 16 = _ := hRR 16 (by decide)
          have q17 : vs 17 = _ := hRR 17 (by decide)
          have q18 : vs 18 = _ := hRR 18 (by decide)
          have q19 : vs 19 = _ := hRR 19 (by decide)
          have q20 : vs 20 = _ := hRR 20 (by decide)
          have q21 : vs 21 = _ := hRR 21 (by decide)
          have q22 : vs 22 = _ := hRR 22 (by decide)
          have q23 : vs 23 = _ := hRR 23 (by decide)
          have q24 : vs 24 = _ := hRR 24 (by decide)
          have q25 : vs 25 = _ := hRR 25 (by decide)
          have q26 : vs 26 = _ := hRR 26 (by decide)
          have q27 : vs 27 = _ := hRR 27 (by decide)
          have q28 : vs 28 = _ := hRR 28 (by decide)
          have q29 : vs 29 = _ := hRR 29 (by decide)
          have q30 : vs 30 = _ := hRR 30 (by decide)
          have q31 : vs 31 = _ := hRR 31 (by decide)
          have q32 : vs 32 = _ := hRR 32 (by decide)
          have q33 : vs 33 = _ := hRR 33 (by decide)
          have q34 : vs 34 = _ := hRR 34 (by decide)
          have q35 : vs 35 = _ := hRR 35 (by decide)
          clear hRR hx
          simp only [putAll, List.take_succ_cons, List.take_zero, List.drop_succ_cons, List.drop_zero, Act.put, List.setIfInBounds_toArray, List.set_cons_zero, List.set_cons_succ, Nat.reduceAdd, Nat.zero_add]
          simp only [q0, q1, q2, q3, q4, q5, q6, q7, q8, q9, q10, q11, q12, q13, q14, q15, q16, q17, q18, q19, q20, q21, q22, q23, q24, q25, q26, q27, q28, q29, q30, q31, q32, q33, q34, q35]
          clear q0 q1 q2 q3 q4 q5 q6 q7 q8 q9 q10 q11 q12 q13 q14 q15 q16 q17 q18 q19 q20 q21 q22 q23 q24 q25 q26 q27 q28 q29 q30 q31 q32 q33 q34 q35 vs
        go_wp2
        go_ret
        exact ⟨ret_bool (by rw [DL.out, Bool.eq_iff_iff]; simp), by (repeat (first | with_reducible (first | exact Ext.refl _ _ | assumption | refine Ext.upN ?_ | refine Ext.alloc ?_ _ | refine Ext.drew ?_ | refine Ext.drewN ?_ _ | refine Ext.up1N (by first | omega | simp) ?_) | refine Ext.alloc ?_ _ | refine Ext.setCell ?_ (.inr (by first | omega | simp)) _))⟩
  · go_enter Tryz.func267, Tryz.ntmps267
    go_upto_region 1 with fail
    apply wp_region_rel (relR [Mo.is _, Mo.is _, Mo.is _, Mo.is _, Mo.is _, Mo.is _, Mo.is _, Mo.is _, Mo.is _, Mo.is _, Mo.is _, Mo.is _, Mo.is _, Mo.is _, Mo.is _, Mo.is _, Mo.is _, Mo.is _, Mo.is _, Mo.is _, Mo.is _, Mo.is _, Mo.is _, Mo.is _, Mo.is _, Mo.is _, Mo.is _, Mo.is _, Mo.is _, Mo.is _, Mo.is _, Mo.is _, Mo.is _, Mo.is _, Mo.is _, Mo.is _]) (by kernel_rfl) (by kernel_rfl) (by kernel_rfl) (relR_mono _) (StepD.all ?st12) ?q12
    case st12 =>
      refine ⟨?_, ?_, ?_, ?_, ?_, ?_, ?_, ?_, ?_, ?_, ?_, ?_, ?_, ?_, ?_, ?_, ?_, ?_, ?_, ?_, ?_, ?_, ?_, ?_, ?_, ?_, ?_, ?_, ?_, ?_, ?_, ?_, ?_, ?_, ?_, ?_, trivial⟩
      · intro a' w' hx hs hd
        obtain ⟨y, rfl⟩ := hx.ew
        have e0 : a'.tmps[0]?.getD undef = _ := hs 0 rfl
        simp only [List.getElem?_toArray, List.getElem?_cons_succ, List.getElem?_cons_zero, Option.getD_some, Array.getElem?_eq_some_iff] at e0
        refine .inl ⟨rfl, ?_⟩
        clear hs hd hx
        go_simp
        exact ⟨Ext.refl _ _, rfl⟩
      · intro a' w' hx hs hd
        obtain ⟨y, rfl⟩ := hx.ew
        have e3 : a'.tmps[3]?.getD undef = _ := hd 0 3 rfl rfl
        refine .inl ⟨rfl, ?_⟩
        clear hs hd hx
        go_simp
        exact ⟨Ext.refl _ _, rfl⟩
      · intro a' w' hx hs hd
        obtain ⟨y, rfl⟩ := hx.ew
        have e4 : a'.tmps[4]?.getD undef = _ := hd 1 4 rfl rfl
        refine .inl ⟨rfl, ?_⟩
        clear hs hd hx
        go_simp
        exact ⟨Ext.refl _ _, rfl⟩
      · intro a' w' hx hs hd
        obtain ⟨y, rfl⟩ := hx.ew
        have e5 : a'.tmps[5]?.getD undef = _ := hd 2 5 rfl rfl
        refine .inl ⟨rfl, ?_⟩
        clear hs hd hx
        go_simp
        exact ⟨Ext.refl _ _, rfl⟩
      · intro a' w' hx hs hd
        obtain ⟨y, rfl⟩ := hx.ew
        have e6 : a'.tmps[6]?.getD undef = _ := hd 3 6 rfl rfl
        refine .inl ⟨rfl, ?_⟩
        clear hs hd hx
        go_simp
        exact ⟨Ext.refl _ _, rfl⟩
      · intro a' w' hx hs hd
        obtain ⟨y, rfl⟩ := hx.ew
        have e7 : a'.tmps[7]?.getD undef = _ := hd 4 7 rfl rfl
        refine .inl ⟨rfl, ?_⟩
        clear hs hd hx
        go_simp
        exact ⟨Ext.refl _ _, rfl⟩
      · intro a' w' hx hs hd
        obtain ⟨y, rfl⟩ := hx.ew
        have eg : a'.tmps[8]?.getD undef = _ := hd 5 8 rfl rfl
        first
        | (refine .inr ⟨unwanted_of (j := 5) (d := 8) rfl rfl eg (by rfl), ?_⟩; exact (rfl : (Mo.is undef).p undef y.on))
        | (refine .inr ⟨unwanted_und (j := 5) (d := 8) rfl rfl eg, ?_⟩; exact (rfl : (Mo.is undef).p undef y.on))
        | (have e0 : a'.tmps[0]?.getD undef = _ := hs 0 rfl; simp only [List.getElem?_toArray, List.getElem?_cons_succ, List.getElem?_cons_zero, Option.getD_some, Array.getElem?_eq_some_iff] at e0; refine .inl ⟨wanted_of (j := 5) (d := 8) rfl rfl eg, ?_⟩; clear hs hd hx eg; go_simp; exact ⟨Ext.refl _ _, rfl⟩)
      · intro a' w' hx hs hd
        obtain ⟨y, rfl⟩ := hx.ew
        have eg : a'.tmps[8]?.getD undef = _ := hd 5 8 rfl rfl
        first
        | (refine .inr ⟨unwanted_of (j := 5) (d := 8) rfl rfl eg (by rfl), ?_⟩; exact (rfl : (Mo.is undef).p undef y.on))
        | (refine .inr ⟨unwanted_und (j := 5) (d := 8) rfl rfl eg, ?_⟩; exact (rfl : (Mo.is undef).p undef y.on))
        | (have e9 : a'.tmps[9]?.getD undef = _ := hd 6 9 rfl rfl; refine .inl ⟨wanted_of (j := 5) (d := 8) rfl rfl eg, ?_⟩; clear hs hd hx eg; go_simp; exact ⟨Ext.refl _ _, rfl⟩)
      · intro a' w' hx hs hd
        obtain ⟨y, rfl⟩ := hx.ew
        have eg : a'.tmps[8]?.getD undef = _ := hd 5 8 rfl rfl
        first
        | (refine .inr ⟨unwanted_of (j := 5) (d := 8) rfl rfl eg (by rfl), ?_⟩; exact (rfl : (Mo.is undef).p undef y.on))
        | (refine .inr ⟨unwanted_und (j := 5) (d := 8) rfl rfl eg, ?_⟩; exact (rfl : (Mo.is undef).p undef y.on))
        | (have e10 : a'.tmps[10]?.getD undef = _ := hd 7 10 rfl rfl; refine .inl ⟨wanted_of (j := 5) (d := 8) rfl rfl eg, ?_⟩; clear hs hd hx eg; go_simp; exact ⟨Ext.refl _ _, rfl⟩)
      · intro a' w' hx hs hd
        obtain ⟨y, rfl⟩ := hx.ew
        have eg : a'.tmps[8]?.getD undef = _ := hd 5 8 rfl rfl
        first
        | (refine .inr ⟨unwanted_of (j := 5) (d := 8) rfl rfl eg (by rfl), ?_⟩; exact (rfl : (Mo.is undef).p undef y.on))
        | (refine .inr ⟨unwanted_und (j := 5) (d := 8) rfl rfl eg, ?_⟩; exact (rfl : (Mo.is undef).p undef y.on))
        | (have e11 : a'.tmps[11]?.getD undef = _ := hd 8 11 rfl rfl; refine .inl ⟨wanted_of (j := 5) (d := 8) rfl rfl eg, ?_⟩; clear hs hd hx eg; go_simp; exact ⟨Ext.refl _ _, rfl⟩)
      · intro a' w' hx hs hd
        obtain ⟨y, rfl⟩ := hx.ew
        have eg : a'.tmps[8]?.getD undef = _ := hd 5 8 rfl rfl
        first
        | (refine .inr ⟨unwanted_of (j := 5) (d := 8) rfl rfl eg (by rfl), ?_⟩; exact (rfl : (Mo.is undef).p undef y.on))
        | (refine .inr ⟨unwanted_und (j := 5) (d := 8) rfl rfl eg, ?_⟩; exact (rfl : (Mo.is undef).p undef y.on))
        | (have e12 : a'.tmps[12]?.getD undef = _ := hd 9 12 rfl rfl; refine .inl ⟨wanted_of (j := 5) (d := 8) rfl rfl eg, ?_⟩; clear hs hd hx eg; go_simp; exact ⟨Ext.refl _ _, rfl⟩)
      · intro a' w' hx hs hd
        obtain ⟨y, rfl⟩ := hx.ew
        have eg : a'.tmps[8]?.getD undef = _ := hd 5 8 rfl rfl
        first
        | (refine .inr ⟨unwanted_of (j := 5) (d := 8) rfl rfl eg (by rfl), ?_⟩; exact (rfl : (Mo.is undef).p undef y.on))
        | (refine .inr ⟨unwanted_und (j := 5) (d := 8) rfl rfl eg, ?_⟩; exact (rfl : (Mo.is undef).p undef y.on))
        | (have e13 : a'.tmps[13]?.getD undef = _ := hd 10 13 rfl rfl; refine .inl ⟨wanted_of (j := 5) (d := 8) rfl rfl eg, ?_⟩; clear hs hd hx eg; go_simp; exact ⟨Ext.refl _ _, rfl⟩)
      · intro a' w' hx hs hd
        obtain ⟨y, rfl⟩ := hx.ew
        have eg : a'.tmps[8]?.getD undef = _ := hd 5 8 rfl rfl
        first
        | (refine .inr ⟨unwanted_of (j := 5) (d := 8) rfl rfl eg (by rfl), ?_⟩; exact (rfl : (Mo.is undef).p undef y.on))
        | (refine .inr ⟨unwanted_und (j := 5) (d := 8) rfl rfl eg, ?_⟩; exact (rfl : (Mo.is undef).p undef y.on))
        | (have e14 : a'.tmps[14]?.getD undef = _ := hd 11 14 rfl rfl; refine .inl ⟨wanted_of (j := 5) (d := 8) rfl rfl eg, ?_⟩; clear hs hd hx eg; go_simp; exact ⟨Ext.refl _ _, rfl⟩)
      · intro a' w' hx hs hd
        obtain ⟨y, rfl⟩ := hx.ew
        have e8 : a'.tmps[8]?.getD undef = _ := hd 5 8 rfl rfl
        have e15 : a'.tmps[15]?.getD undef = _ := hd 12 15 rfl rfl
        refine .inl ⟨rfl, ?_⟩
        clear hs hd hx
        go_simp
        exact ⟨Ext.refl _ _, rfl⟩
      · intro a' w' hx hs hd
        obtain ⟨y, rfl⟩ := hx.ew
        have e16 : a'.tmps[16]?.getD undef = _ := hd 13 16 rfl rfl
        refine .inl ⟨rfl, ?_⟩
        clear hs hd hx
        go_simp
        exact ⟨Ext.refl _ _, rfl⟩
      · intro a' w' hx hs hd
        obtain ⟨y, rfl⟩ := hx.ew
        have eg : a'.tmps[17]?.getD undef = _ := hd 14 17 rfl rfl
        first
        | (refine .inr ⟨unwanted_of (j := 14) (d := 17) rfl rfl eg (by rfl), ?_⟩; exact (rfl : (Mo.is undef).p undef y.on))
        | (refine .inr ⟨unwanted_und (j := 14) (d := 17) rfl rfl eg, ?_⟩; exact (rfl : (Mo.is undef).p undef y.on))
        | (have e0 : a'.tmps[0]?.getD undef = _ := hs 0 rfl; simp only [List.getElem?_toArray, List.getElem?_cons_succ, List.getElem?_cons_zero, Option.getD_some, Array.getElem?_eq_some_iff] at e0; refine .inl ⟨wanted_of (j := 14) (d := 17) rfl rfl eg, ?_⟩; clear hs hd hx eg; go_simp; exact ⟨Ext.refl _ _, rfl⟩)
      · intro a' w' hx hs hd
        obtain ⟨y, rfl⟩ := hx.ew
        have eg : a'.tmps[17]?.getD undef = _ := hd 14 17 rfl rfl
        first
        | (refine .inr ⟨unwanted_of (j := 14) (d := 17) rfl rfl eg (by rfl), ?_⟩; exact (rfl : (Mo.is undef).p undef y.on))
        | (refine .inr ⟨unwanted_und (j := 14) (d := 17) rfl rfl eg, ?_⟩; exact (rfl : (Mo.is undef).p undef y.on))
        | (have e18 : a'.tmps[18]?.getD undef = _ := hd 15 18 rfl rfl; refine .inl ⟨wanted_of (j := 14) (d := 17) rfl rfl eg, ?_⟩; clear hs hd hx eg; go_simp; exact (HM.out _ (by (repeat (first | with_reducible (first | exact Ext.refl _ _ | assumption | refine Ext.upN ?_ | refine Ext.alloc ?_ _ | refine Ext.drew ?_ | refine Ext.drewN ?_ _ | refine Ext.up1N (by first | omega | simp) ?_) | refine Ext.alloc ?_ _ | refine Ext.setCell ?_ (.inr (by first | omega | simp)) _)))).mono (fun e w'' ⟨he, hx⟩ => ⟨_, he, hx, rfl⟩))
      · intro a' w' hx hs hd
        obtain ⟨y, rfl⟩ := hx.ew
        have e17 : a'.tmps[17]?.getD undef = _ := hd 14 17 rfl rfl
        have e19 : a'.tmps[19]?.getD undef = _ := hd 16 19 rfl rfl
        refine .inl ⟨rfl, ?_⟩
        clear hs hd hx
        go_simp
        exact ⟨Ext.refl _ _, rfl⟩
      · intro a' w' hx hs hd
        obtain ⟨y, rfl⟩ := hx.ew
        have e20 : a'.tmps[20]?.getD undef = _ := hd 17 20 rfl rfl
        refine .inl ⟨rfl, ?_⟩
        clear hs hd hx
        go_simp
        exact ⟨Ext.refl _ _, rfl⟩
      · intro a' w' hx hs hd
        obtain ⟨y, rfl⟩ := hx.ew
        have eg : a'.tmps[21]?.getD undef = _ := hd 18 21 rfl rfl
        first
        | (refine .inr ⟨unwanted_of (j := 18) (d := 21) rfl rfl eg (by rfl), ?_⟩; exact (rfl : (Mo.is undef).p undef y.on))
        | (refine .inr ⟨unwanted_und (j := 18) (d := 21) rfl rfl eg, ?_⟩; exact (rfl : (Mo.is undef).p undef y.on))
        | (have e0 : a'.tmps[0]?.getD undef = _ := hs 0 rfl; simp only [List.getElem?_toArray, List.getElem?_cons_succ, List.getElem?_cons_zero, Option.getD_some, Array.getElem?_eq_some_iff] at e0; refine .inl ⟨wanted_of (j := 18) (d := 21) rfl rfl eg, ?_⟩; clear hs hd hx eg; go_simp; exact ⟨Ext.refl _ _, rfl⟩)
      · intro a' w' hx hs hd
        obtain ⟨y, rfl⟩ := hx.ew
        have eg : a'.tmps[21]?.getD undef = _ := hd 18 21 rfl rfl
        first
        | (refine .inr ⟨unwanted_of (j := 18) (d := 21) rfl rfl eg (by rfl), ?_⟩; exact (rfl : (Mo.is undef).p undef y.on))
        | (refine .inr ⟨unwanted_und (j := 18) (d := 21) rfl rfl eg, ?_⟩; exact (rfl : (Mo.is undef).p undef y.on))
        | (have e0 : a'.tmps[0]?.getD undef = _ := hs 0 rfl; simp only [List.getElem?_toArray, List.getElem?_cons_succ, List.getElem?_cons_zero, Option.getD_some, Array.getElem?_eq_some_iff] at e0; refine .inl ⟨wanted_of (j := 18) (d := 21) rfl rfl eg, ?_⟩; clear hs hd hx eg; go_simp; exact ⟨Ext.refl _ _, rfl⟩)
      · intro a' w' hx hs hd
        obtain ⟨y, rfl⟩ := hx.ew
        have eg : a'.tmps[21]?.getD undef = _ := hd 18 21 rfl rfl
        first
        | (refine .inr ⟨unwanted_of (j := 18) (d := 21) rfl rfl eg (by rfl), ?_⟩; exact (rfl : (Mo.is undef).p undef y.on))
        | (refine .inr ⟨unwanted_und (j := 18) (d := 21) rfl rfl eg, ?_⟩; exact (rfl : (Mo.is undef).p undef y.on))
        | (have e23 : a'.tmps[23]?.getD undef = _ := hd 20 23 rfl rfl; refine .inl ⟨wanted_of (j := 18) (d := 21) rfl rfl eg, ?_⟩; clear hs hd hx eg; go_simp; exact ⟨Ext.refl _ _, rfl⟩)
      · intro a' w' hx hs hd
        obtain ⟨y, rfl⟩ := hx.ew
        have eg : a'.tmps[21]?.getD undef = _ := hd 18 21 rfl rfl
        first
        | (refine .inr ⟨unwanted_of (j := 18) (d := 21) rfl rfl eg (by rfl), ?_⟩; exact (rfl : (Mo.is undef).p undef y.on))
        | (refine .inr ⟨unwanted_und (j := 18) (d := 21) rfl rfl eg, ?_⟩; exact (rfl : (Mo.is undef).p undef y.on))
        | (have e24 : a'.tmps[24]?.getD undef = _ := hd 21 24 rfl rfl; refine .inl ⟨wanted_of (j := 18) (d := 21) rfl rfl eg, ?_⟩; clear hs hd hx eg; go_simp; exact ⟨Ext.refl _ _, rfl⟩)
      · intro a' w' hx hs hd
        obtain ⟨y, rfl⟩ := hx.ew
        have eg : a'.tmps[21]?.getD undef = _ := hd 18 21 rfl rfl
        first
        | (refine .inr ⟨unwanted_of (j := 18) (d := 21) rfl rfl eg (by rfl), ?_⟩; exact (rfl : (Mo.is undef).p undef y.on))
        | (refine .inr ⟨unwanted_und (j := 18) (d := 21) rfl rfl eg, ?_⟩; exact (rfl : (Mo.is undef).p undef y.on))
        | (have e25 : a'.tmps[25]?.getD undef = _ := hd 22 25 rfl rfl; refine .inl ⟨wanted_of (j := 18) (d := 21) rfl rfl eg, ?_⟩; clear hs hd hx eg; go_simp; exact ⟨Ext.refl _ _, rfl⟩)
      · intro a' w' hx hs hd
        obtain ⟨y, rfl⟩ := hx.ew
        have eg : a'.tmps[21]?.getD undef = _ := hd 18 21 rfl rfl
        first
        | (refine .inr ⟨unwanted_of (j := 18) (d := 21) rfl rfl eg (by rfl), ?_⟩; exact (rfl : (Mo.is undef).p undef y.on))
        | (refine .inr ⟨unwanted_und (j := 18) (d := 21) rfl rfl eg, ?_⟩; exact (rfl : (Mo.is undef).p undef y.on))
        | (have e26 : a'.tmps[26]?.getD undef = _ := hd 23 26 rfl rfl; refine .inl ⟨wanted_of (j := 18) (d := 21) rfl rfl eg, ?_⟩; clear hs hd hx eg; go_simp; exact ⟨Ext.refl _ _, rfl⟩)
      · intro a' w' hx hs hd
        obtain ⟨y, rfl⟩ := hx.ew
        have eg : a'.tmps[21]?.getD undef = _ := hd 18 21 rfl rfl
        first
        | (refine .inr ⟨unwanted_of (j := 18) (d := 21) rfl rfl eg (by rfl), ?_⟩; exact (rfl : (Mo.is undef).p undef y.on))
        | (refine .inr ⟨unwanted_und (j := 18) (d := 21) rfl rfl eg, ?_⟩; exact (rfl : (Mo.is undef).p undef y.on))
        | (have e27 : a'.tmps[27]?.getD undef = _ := hd 24 27 rfl rfl; refine .inl ⟨wanted_of (j := 18) (d := 21) rfl rfl eg, ?_⟩; clear hs hd hx eg; go_simp; exact ⟨Ext.refl _ _, rfl⟩)
      · intro a' w' hx hs hd
        obtain ⟨y, rfl⟩ := hx.ew
        have eg : a'.tmps[21]?.getD undef = _ := hd 18 21 rfl rfl
        first
        | (refine .inr ⟨unwanted_of (j := 18) (d := 21) rfl rfl eg (by rfl), ?_⟩; exact (rfl : (Mo.is undef).p undef y.on))
        | (refine .inr ⟨unwanted_und (j := 18) (d := 21) rfl rfl eg, ?_⟩; exact (rfl : (Mo.is undef).p undef y.on))
        | (have e28 : a'.tmps[28]?.getD undef = _ := hd 25 28 rfl rfl; refine .inl ⟨wanted_of (j := 18) (d := 21) rfl rfl eg, ?_⟩; clear hs hd hx eg; go_simp; exact ⟨Ext.refl _ _, rfl⟩)
      · intro a' w' hx hs hd
        obtain ⟨y, rfl⟩ := hx.ew
        have eg : a'.tmps[21]?.getD undef = _ := hd 18 21 rfl rfl
        first
        | (refine .inr ⟨unwanted_of (j := 18) (d := 21) rfl rfl eg (by rfl), ?_⟩; exact (rfl : (Mo.is undef).p undef y.on))
        | (refine .inr ⟨unwanted_und (j := 18) (d := 21) rfl rfl eg, ?_⟩; exact (rfl : (Mo.is undef).p undef y.on))
        | (have e29 : a'.tmps[29]?.getD undef = _ := hd 26 29 rfl rfl; refine .inl ⟨wanted_of (j := 18) (d := 21) rfl rfl eg, ?_⟩; clear hs hd hx eg; go_simp; exact (HV.out _ (by (repeat (first | with_reducible (first | exact Ext.refl _ _ | assumption | refine Ext.upN ?_ | refine Ext.alloc ?_ _ | refine Ext.drew ?_ | refine Ext.drewN ?_ _ | refine Ext.up1N (by first | omega | simp) ?_) | refine Ext.alloc ?_ _ | refine Ext.setCell ?_ (.inr (by first | omega | simp)) _)))).mono (fun e w'' ⟨he, hx⟩ => ⟨_, he, hx, rfl⟩))
      · intro a' w' hx hs hd
        obtain ⟨y, rfl⟩ := hx.ew
        have eg : a'.tmps[21]?.getD undef = _ := hd 18 21 rfl rfl
        first
        | (refine .inr ⟨unwanted_of (j := 18) (d := 21) rfl rfl eg (by rfl), ?_⟩; exact (rfl : (Mo.is undef).p undef y.on))
        | (refine .inr ⟨unwanted_und (j := 18) (d := 21) rfl rfl eg, ?_⟩; exact (rfl : (Mo.is undef).p undef y.on))
        | (have e22 : a'.tmps[22]?.getD undef = _ := hd 19 22 rfl rfl; have e30 : a'.tmps[30]?.getD undef = _ := hd 27 30 rfl rfl; refine .inl ⟨wanted_of (j := 18) (d := 21) rfl rfl eg, ?_⟩; clear hs hd hx eg; go_simp; exact (HP.out _ (by (repeat (first | with_reducible (first | exact Ext.refl _ _ | assumption | refine Ext.upN ?_ | refine Ext.alloc ?_ _ | refine Ext.drew ?_ | refine Ext.drewN ?_ _ | refine Ext.up1N (by first | omega | simp) ?_) | refine Ext.alloc ?_ _ | refine Ext.setCell ?_ (.inr (by first | omega | simp)) _)))).mono (fun e w'' ⟨he, hx⟩ => ⟨_, he, hx, rfl⟩))
      · intro a' w' hx hs hd
        obtain ⟨y, rfl⟩ := hx.ew
        have eg : a'.tmps[21]?.getD undef = _ := hd 18 21 rfl rfl
        first
        | (refine .inr ⟨unwanted_of (j := 18) (d := 21) rfl rfl eg (by rfl), ?_⟩; exact (rfl : (Mo.is undef).p undef y.on))
        | (refine .inr ⟨unwanted_und (j := 18) (d := 21) rfl rfl eg, ?_⟩; exact (rfl : (Mo.is undef).p undef y.on))
        | (have e0 : a'.tmps[0]?.getD undef = _ := hs 0 rfl; simp only [List.getElem?_toArray, List.getElem?_cons_succ, List.getElem?_cons_zero, Option.getD_some, Array.getElem?_eq_some_iff] at e0; refine .inl ⟨wanted_of (j := 18) (d := 21) rfl rfl eg, ?_⟩; clear hs hd hx eg; go_simp; exact ⟨Ext.refl _ _, rfl⟩)
      · intro a' w' hx hs hd
        obtain ⟨y, rfl⟩ := hx.ew
        have eg : a'.tmps[21]?.getD undef = _ := hd 18 21 rfl rfl
        first
        | (refine .inr ⟨unwanted_of (j := 18) (d := 21) rfl rfl eg (by rfl), ?_⟩; exact (rfl : (Mo.is undef).p undef y.on))
        | (refine .inr ⟨unwanted_und (j := 18) (d := 21) rfl rfl eg, ?_⟩; exact (rfl : (Mo.is undef).p undef y.on))
        | (have e32 : a'.tmps[32]?.getD undef = _ := hd 29 32 rfl rfl; refine .inl ⟨wanted_of (j := 18) (d := 21) rfl rfl eg, ?_⟩; clear hs hd hx eg; go_simp; exact ⟨Ext.refl _ _, rfl⟩)
      · intro a' w' hx hs hd
        obtain ⟨y, rfl⟩ := hx.ew
        have eg : a'.tmps[21]?.getD undef = _ := hd 18 21 rfl rfl
        first
        | (refine .inr ⟨unwanted_of (j := 18) (d := 21) rfl rfl eg (by rfl), ?_⟩; exact (rfl : (Mo.is undef).p undef y.on))
        | (refine .inr ⟨unwanted_und (j := 18) (d := 21) rfl rfl eg, ?_⟩; exact (rfl : (Mo.is undef).p undef y.on))
        | (have e33 : a'.tmps[33]?.getD undef = _ := hd 30 33 rfl rfl; refine .inl ⟨wanted_of (j := 18) (d := 21) rfl rfl eg, ?_⟩; clear hs hd hx eg; go_simp; exact ⟨Ext.refl _ _, rfl⟩)
      · intro a' w' hx hs hd
        obtain ⟨y, rfl⟩ := hx.ew
        have eg : a'.tmps[21]?.getD undef = _ := hd 18 21 rfl rfl
        first
        | (refine .inr ⟨unwanted_of (j := 18) (d := 21) rfl rfl eg (by rfl), ?_⟩; exact (rfl : (Mo.is undef).p undef y.on))
        | (refine .inr ⟨unwanted_und (j := 18) (d := 21) rfl rfl eg, ?_⟩; exact (rfl : (Mo.is undef).p undef y.on))
        | (have e34 : a'.tmps[34]?.getD undef = _ := hd 31 34 rfl rfl; refine .inl ⟨wanted_of (j := 18) (d := 21) rfl rfl eg, ?_⟩; clear hs hd hx eg; go_simp; exact ⟨Ext.refl _ _, rfl⟩)
      · intro a' w' hx hs hd
        obtain ⟨y, rfl⟩ := hx.ew
        have eg : a'.tmps[21]?.getD undef = _ := hd 18 21 rfl rfl
        first
        | (refine .inr ⟨unwanted_of (j := 18) (d := 21) rfl rfl eg (by rfl), ?_⟩; exact (rfl : (Mo.is undef).p undef y.on))
        | (refine .inr ⟨unwanted_und (j := 18) (d := 21) rfl rfl eg, ?_⟩; exact (rfl : (Mo.is undef).p undef y.on))
        | (have e31 : a'.tmps[31]?.getD undef = _ := hd 28 31 rfl rfl; have e35 : a'.tmps[35]?.getD undef = _ := hd 32 35 rfl rfl; refine .inl ⟨wanted_of (j := 18) (d := 21) rfl rfl eg, ?_⟩; clear hs hd hx eg; go_simp; exact ⟨Ext.refl _ _, rfl⟩)
      · intro a' w' hx hs hd
        obtain ⟨y, rfl⟩ := hx.ew
        have e21 : a'.tmps[21]?.getD undef = _ := hd 18 21 rfl rfl
        have e36 : a'.tmps[36]?.getD undef = _ := hd 33 36 rfl rfl
        refine .inl ⟨rfl, ?_⟩
        clear hs hd hx
        go_simp
        exact ⟨Ext.refl _ _, rfl⟩
      · intro a' w' hx hs hd
        obtain ⟨y, rfl⟩ := hx.ew
        have e37 : a'.tmps[37]?.getD undef = _ := hd 34 37 rfl rfl
        refine .inl ⟨rfl, ?_⟩
        clear hs hd hx
        go_simp
        exact ⟨Ext.refl _ _, rfl⟩
    case' q12 =>
      intro vs w' hx hRR
      obtain ⟨x2, rfl⟩ := hx.ew
      have q0 : vs 0 = _ := hRR 0 (by decide)
      have q1 : vs 1 = _ := hRR 1 (by decide)
      have q2 : vs 2 = _ := hRR 2 (by decide)
      have q3 : vs 3 = _ := hRR 3 (by decide)
      have q4 : vs 4 = _ := hRR 4 (by decide)
      have q5 : vs 5 = _ := hRR 5 (by decide)
      have q6 : vs 6 = _ := hRR 6 (by decide)
      have q7 : vs 7 = _ := hRR 7 (by decide)
      have q8 : vs 8 = _ := hRR 8 (by decide)
      have q9 : vs 9 = _ := hRR 9 (by decide)
      have q10 : vs 10 = _ := hRR 10 (by decide)
      have q11 : vs 11 = _ := hRR 11 (by decide)
      have q12 : vs 12 = _ := hRR 12 (by decide)
      have q13 : vs 13 = _ := hRR 13 (by decide)
      have q14 : vs 14 = _ := hRR 14 (by decide)
      have q15 : vs 15 = _ := hRR 15 (by decide)
      have q16 : vs 16 = _ := hRR 16 (by decide)
      have q17 : vs 17 = _ := hRR 17 (by decide)
      have q18 : vs 18 = _ := hRR 18 (by decide)
      have q19 : vs 19 = _ := hRR 19 (by decide)
      have q20 : vs 20 = _ := hRR 20 (by decide)
      have q21 : vs 21 = _ := hRR 21 (by decide)
      have q22 : vs 22 = _ := hRR 22 (by decide)
      have q23 : vs 23 = _ := hRR 23 (by decide)
      have q24 : vs 24 = _ := hRR 24 (by decide)
      have q25 : vs 25 = _ := hRR 25 (by decide)
      have q26 : vs 26 = _ := hRR 26 (by decide)
      have q27 : vs 27 = _ := hRR 27 (by decide)
      have q28 : vs 28 = _ := hRR 28 (by decide)
      have q29 : vs 29 = _ := hRR 29 (by decide)
      have q30 : vs 30 = _ := hRR 30 (by decide)
      have q31 : vs 31 = _ := hRR 31 (by decide)
      have q32 : vs 32 = _ := hRR 32 (by decide)
      have q33 : vs 33 = _ := hRR 33 (by decide)
      have q34 : vs 34 = _ := hRR 34 (by decide)
      have q35 : vs 35 = _ := hRR 35 (by decide)
      clear hRR hx
      simp only [putAll, List.take_succ_cons, List.take_zero, List.drop_succ_cons, List.drop_zero, Act.put, List.setIfInBounds_toArray, List.set_cons_zero, List.set_cons_succ, Nat.reduceAdd, Nat.zero_add]
      simp only [q0, q1, q2, q3, q4, q5, q6, q7, q8, q9, q10, q11, q12, q13, q14, q15, q16, q17, q18, q19, q20, q21, q22, q23, q24, q25, q26, q27, q28, q29, q30, q31, q32, q33, q34, q35]
      clear q0 q1 q2 q3 q4 q5 q6 q7 q8 q9 q10 q11 q12 q13 q14 q15 q16 q17 q18 q19 q20 q21 q22 q23 q24 q25 q26 q27 q28 q29 q30 q31 q32 q33 q34 q35 vs
    go_wp2
    go_ret
    exact ⟨ret_bool (by rw [DL.out]; rfl), by (repeat (first | with_reducible (first | exact Ext.refl _ _ | assumption | refine Ext.upN ?_ | refine Ext.alloc ?_ _ | refine Ext.drew ?_ | refine Ext.drewN ?_ _ | refine Ext.up1N (by first | omega | simp) ?_) | refine Ext.alloc ?_ _ | refine Ext.setCell ?_ (.inr (by first | omega | simp)) _))⟩
end
end Go.Proofs.YtflpkoafebjfdaaGreat
