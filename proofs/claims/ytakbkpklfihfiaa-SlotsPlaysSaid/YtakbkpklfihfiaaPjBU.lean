/- Joined texts: R14l. What each proves stands at its head; no conditions beside those in its theorems. -/
import Derived.Laws.CopyOwn
import Derived.Deep.OwnRows
import Derived.Deep.RegionLaw
import Derived.Test.YtakbkpklfihfiaaPjBH
import Derived.Test.YtakbkpklfihfiaaPjBT
/- The law's step on the reference's log. -/
namespace Go.Proofs.Ytakbkpklfihfiaa
open Go.RowKit Go.Lib F64
set_option linter.unusedSimpArgs false
set_option linter.unusedVariables false
attribute [local go_sem] run_store_float
attribute [local go_sem low] EW.cellN EW.frozN alloc_cell_or alloc_froz_or EW.cellF EW.frozF EW.cell1 EW.froz1
attribute [local go_sem] relAt relUpon
def modelE (m : RL14) (o : Stp) : Int := if kindN o.kind = 0 then enterRE m o.view else if kindN o.kind = 1 then proposeRE m o.slot o.req else if kindN o.kind = 2 then prepareRE m o.from_ o.slot o.req o.from_ (stepT m.ep m.view o.slot o.req o.wrong) else commitRE m o.from_ o.slot o.req
def modelR (m : RL14) (o : Stp) : RL14 := if kindN o.kind = 0 then enterR m o.view else if kindN o.kind = 1 then proposeR m o.slot o.req else if kindN o.kind = 2 then prepareR m o.from_ o.slot o.req o.from_ (stepT m.ep m.view o.slot o.req o.wrong) else commitR m o.from_ o.slot o.req
set_option maxHeartbeats 4000000 in
set_option maxRecDepth 100000 in
theorem law14_model (b : Nat) (G : Nat → Prop) (m : RL14) (hep0 : 0 ≤ m.ep ∧ m.ep ≤ 60) (hf : Few14 m) (hp9 : m.props.length ≤ 999) (hv9 : m.votes.length ≤ 999) (o : Stp) (ho : o.ok) (w : World) (h : R14W w b G m) :
    Calls Try.prog 45 #[.pointer (some ⟨b, 0, none⟩), .agg o.cells.toArray] w fun e w' =>
    e = .returned (.int .i64 (modelE m o)) ∧ ∃ G', R14W w' b G' (modelR m o) ∧ (∀ k, G' k → G k ∨ w.heap.size ≤ k) ∧ Ext (LoF b G) w w' := by
  have HL := Go.Lib.hid h
  have KD := Go.Lib.hid (fun w => op_kind o w)
  have DE : Hid (modelE m o = if kindN o.kind = 0 then enterRE m o.view else if kindN o.kind = 1 then proposeRE m o.slot o.req else if kindN o.kind = 2 then prepareRE m o.from_ o.slot o.req o.from_ (stepT m.ep m.view o.slot o.req o.wrong) else commitRE m o.from_ o.slot o.req) := Go.Lib.hid rfl
  have DG : Hid (modelR m o = if kindN o.kind = 0 then enterR m o.view else if kindN o.kind = 1 then proposeR m o.slot o.req else if kindN o.kind = 2 then prepareR m o.from_ o.slot o.req o.from_ (stepT m.ep m.view o.slot o.req o.wrong) else commitR m o.from_ o.slot o.req) := Go.Lib.hid rfl
  obtain ⟨kind, from_, slot, view, c, s, k, key, bt, id, wrong⟩ := o
  obtain ⟨h0, h1, h2, h3, h4⟩ := ho
  have HO : Hid (I64 kind ∧ I64 from_ ∧ I64 slot ∧ I64 view ∧ ReqOk ⟨c, s, ⟨k, key, bt.toNat, id⟩⟩) := Go.Lib.hid ⟨h0, h1, h2, h3, h4⟩
  have HEP0 := Go.Lib.hid hep0; have HF := Go.Lib.hid hf; have HP9 := Go.Lib.hid hp9; have HV9 := Go.Lib.hid hv9
  have hep : I64 m.ep := by unfold I64; omega
  have HEp := Go.Lib.hid hep
  have hbw := h.lt.1
  obtain ⟨_, _, _, _, _, _, _, _, QQ⟩ := h.ex
  have q0 := QQ.c0
  have q2 := QQ.c2
  clear QQ
  have HV : Hid (I64 m.view) := Go.Lib.hid hf.vw
  have KD' : Hid (∀ w : World, Calls Try.prog 36 #[.agg #[.int .i64 kind, .int .i64 from_, .int .i64 slot, .int .i64 view, .int .i64 c, .int .i64 s, .int .i64 k, .string key, .int .u64 bt, .int .i64 id, .bool wrong]] w fun e w' => e = .returned (.int .i64 (kindN kind)) ∧ Ext Non w w') := Go.Lib.hid KD.out
  have hkr := kindN_range kind
  show Calls Try.prog 45 #[.pointer (some ⟨b, 0, none⟩), .agg #[.int .i64 kind, .int .i64 from_, .int .i64 slot, .int .i64 view, .int .i64 c, .int .i64 s, .int .i64 k, .string key, .int .u64 bt, .int .i64 id, .bool wrong]] w _
  clear KD h h0 h1 h2 h3 h4 hep hep0 hf hp9 hv9
  have SIG : Hid (∀ w : World, Calls Try.prog 81 #[.agg #[.int .i64 kind, .int .i64 from_, .int .i64 slot, .int .i64 view, .int .i64 c, .int .i64 s, .int .i64 k, .string key, .int .u64 bt, .int .i64 id, .bool wrong], .int .i64 m.ep, .int .i64 m.view] w fun e w' => e = .returned (.agg #[.int .i64 from_, .string (stepT m.ep m.view slot ⟨c, s, ⟨k, key, bt.toNat, id⟩⟩ wrong)]) ∧ Ext Non w w') := Go.Lib.hid (fun w => op_sig kind from_ slot view c s k key bt id wrong m.ep m.view ⟨HEp.out, HV.out, HO.out.2.2.1⟩ HO.out.2.2.2.2 w)
  have RQ : Hid (∀ w : World, Calls Try.prog 23 #[.agg #[.int .i64 c, .int .i64 s, .int .i64 k, .string key, .int .u64 bt, .int .i64 id]] w fun e w' => e = .returned (.agg #[.int .i64 c, .int .i64 s, .int .i64 k, .string key, .float .f64 bt.toNat, .int .i64 id]) ∧ Ext Non w w') := Go.Lib.hid (fun w => law11_Request c s k key bt id w)
  have hts := stepT_size m.ep m.view slot ⟨c, s, ⟨k, key, bt.toNat, id⟩⟩ wrong
  have HTS := Go.Lib.hid hts
  clear hts
  have HR : Hid ((⟨kind, from_, slot, view, c, s, k, key, bt, id, wrong⟩ : Stp).req = ⟨c, s, ⟨k, key, bt.toNat, id⟩⟩) := Go.Lib.hid rfl
  rw [HR.out] at DE DG
  have HKd : Hid ((⟨kind, from_, slot, view, c, s, k, key, bt, id, wrong⟩ : Stp).kind = kind ∧ (⟨kind, from_, slot, view, c, s, k, key, bt, id, wrong⟩ : Stp).view = view ∧ (⟨kind, from_, slot, view, c, s, k, key, bt, id, wrong⟩ : Stp).slot = slot ∧ (⟨kind, from_, slot, view, c, s, k, key, bt, id, wrong⟩ : Stp).from_ = from_ ∧ (⟨kind, from_, slot, view, c, s, k, key, bt, id, wrong⟩ : Stp).wrong = wrong) := Go.Lib.hid ⟨rfl, rfl, rfl, rfl, rfl⟩
  rw [HKd.out.1, HKd.out.2.1, HKd.out.2.2.1, HKd.out.2.2.2.1, HKd.out.2.2.2.2] at DE DG
  generalize (⟨kind, from_, slot, view, c, s, k, key, bt, id, wrong⟩ : Stp) = O at *
  have XL : Hid (∀ w1 : World, Ext Non w w1 → R14W w1 b G m) := Go.Lib.hid (fun w1 x => HL.out.extN x)
  generalize hkn : kindN kind = kn at *
  by_cases hk0 : kn = 0
  · subst hk0
    have DE0 : Hid (modelE m O = enterRE m view) := Go.Lib.hid (by rw [DE.out, if_pos rfl])
    have DG0 : Hid (modelR m O = enterR m view) := Go.Lib.hid (by rw [DG.out, if_pos rfl])
    clear DE DG hkr
    go_enter Try.func45, Try.ntmps45
    go_wp2_with fail
    refine Calls.ew (KD'.out _) ?_
    rintro e x1 rfl
    go_wp2_with fail
    refine (ref14_Enter b G m view _ (XL.out _ (by (repeat (first | with_reducible (first | exact Ext.refl _ _ | assumption | refine Ext.upN ?_ | refine Ext.alloc ?_ _ | refine Ext.drew ?_ | refine Ext.drewN ?_ _ | refine Ext.up1N (by first | omega | simp) ?_) | refine Ext.alloc ?_ _ | refine Ext.setCell ?_ (.inr (by first | omega | simp)) _))))).mono ?_
    rintro e w2 ⟨rfl, hL, hx⟩
    have hG : ∀ k, G k → G k ∨ w.heap.size ≤ k := fun k h => .inl h
    obtain ⟨G', hG'⟩ : ∃ G', G' = G := ⟨_, rfl⟩
    rw [← hG'] at hL
    have hG : ∀ k, G' k → G k ∨ x1.on.heap.size ≤ k := fun k h => .inl (by rw [← hG']; exact h)
    have X1 : Ext Non w x1.on := by (repeat (first | with_reducible (first | exact Ext.refl _ _ | assumption | refine Ext.upN ?_ | refine Ext.alloc ?_ _ | refine Ext.drew ?_ | refine Ext.drewN ?_ _ | refine Ext.up1N (by first | omega | simp) ?_) | refine Ext.alloc ?_ _ | refine Ext.setCell ?_ (.inr (by first | omega | simp)) _))
    have FIN := Go.Lib.hid (And.intro hL (And.intro hG (X1.ofNon.trans (hx.mono (fun k _ e => (Or.inl e : LoF b G k))))))
    have hs := X1.size
    clear hL hG hx
    go_wp2
    go_ret
    exact ⟨ret_int DE0.out.symm, G', by rw [DG0.out]; exact FIN.out.1, fun k hk => (FIN.out.2.1 k hk).imp (fun h => h) (fun h => by omega), FIN.out.2.2⟩
  by_cases hk1 : kn = 1
  · subst hk1
    have DE0 : Hid (modelE m O = proposeRE m slot ⟨c, s, ⟨k, key, bt.toNat, id⟩⟩) := Go.Lib.hid (by rw [DE.out, if_neg (by decide), if_pos rfl])
    have DG0 : Hid (modelR m O = proposeR m slot ⟨c, s, ⟨k, key, bt.toNat, id⟩⟩) := Go.Lib.hid (by rw [DG.out, if_neg (by decide), if_pos rfl])
    clear DE DG hkr
    go_enter Try.func45, Try.ntmps45
    go_wp2_with fail
    refine Calls.ew (KD'.out _) ?_
    rintro e x1 rfl
    go_upto_region 5 with fail
    apply wp_region_rel_tail 6 (relR [Mo.is _, Mo.is _, Mo.is _, Mo.is _, Mo.is _, Mo.is _]) (by kernel_rfl) (by kernel_rfl) (by kernel_rfl) (by kernel_rfl) (by kernel_rfl) (by decide) (by kernel_rfl) (relR_mono _) (StepD.all ?st1) ?q1
    case st1 =>
      refine ⟨?_, ?_, ?_, ?_, ?_, ?_, trivial⟩
      · intro a' w' hx hs hd
        obtain ⟨y, rfl⟩ := hx.ew
        have e0 : a'.tmps[0]?.getD undef = _ := hs 0 rfl
        simp only [List.getElem?_toArray, List.getElem?_cons_succ, List.getElem?_cons_zero, Option.getD_some, Array.getElem?_eq_some_iff] at e0
        refine .inl ⟨rfl, ?_⟩
        clear hs hd hx
        go_simp
        exact ⟨Ext.refl _ _, rfl⟩
      · intro a' w' hx hs hd
        obtain ⟨y, rfl⟩ := hx.ew
        have e3 : a'.tmps[3]?.getD undef = _ := hs 3 rfl
        simp only [List.getElem?_toArray, List.getElem?_cons_succ, List.getElem?_cons_zero, Option.getD_some, Array.getElem?_eq_some_iff] at e3
        refine .inl ⟨rfl, ?_⟩
        clear hs hd hx
        go_simp
        exact ⟨Ext.refl _ _, rfl⟩
      · intro a' w' hx hs hd
        obtain ⟨y, rfl⟩ := hx.ew
        have e16 : a'.tmps[16]?.getD undef = _ := hd 1 16 rfl rfl
        refine .inl ⟨rfl, ?_⟩
        clear hs hd hx
        go_simp
        exact ⟨Ext.refl _ _, rfl⟩
      · intro a' w' hx hs hd
        obtain ⟨y, rfl⟩ := hx.ew
        have e3 : a'.tmps[3]?.getD undef = _ := hs 3 rfl
        simp only [List.getElem?_toArray, List.getElem?_cons_succ, List.getElem?_cons_zero, Option.getD_some, Array.getElem?_eq_some_iff] at e3
        refine .inl ⟨rfl, ?_⟩
        clear hs hd hx
        go_simp
        exact ⟨Ext.refl _ _, rfl⟩
      · intro a' w' hx hs hd
        obtain ⟨y, rfl⟩ := hx.ew
        have e18 : a'.tmps[18]?.getD undef = _ := hd 3 18 rfl rfl
        refine .inl ⟨rfl, ?_⟩
        clear hs hd hx
        go_simp
        exact ⟨Ext.refl _ _, rfl⟩
      · intro a' w' hx hs hd
        obtain ⟨y, rfl⟩ := hx.ew
        have e19 : a'.tmps[19]?.getD undef = _ := hd 4 19 rfl rfl
        refine .inl ⟨rfl, ?_⟩
        clear hs hd hx
        go_simp
        exact (RQ.out _).mono (fun e w'' ⟨he, hx⟩ => ⟨_, he, hx, rfl⟩)
    case' q1 =>
      intro vs w' hx hRR
      obtain ⟨x2, rfl⟩ := hx.ew
      have q0 : vs 0 = _ := hRR 0 (by decide)
      have q1 : vs 1 = _ := hRR 1 (by decide)
      have q2 : vs 2 = _ := hRR 2 (by decide)
      have q3 : vs 3 = _ := hRR 3 (by decide)
      have q4 : vs 4 = _ := hRR 4 (by decide)
      have q5 : vs 5 = _ := hRR 5 (by decide)
      clear hRR hx
      simp only [putAll, List.take_succ_cons, List.take_zero, List.drop_succ_cons, List.drop_zero, Act.put, List.setIfInBounds_toArray, List.set_cons_zero, List.set_cons_succ, Nat.reduceAdd, Nat.zero_add]
      simp only [q0, q1, q2, q3, q4, q5]
      clear q0 q1 q2 q3 q4 q5 vs
    go_wp2_with fail
    refine (ref14_Propose b G m slot HO.out.2.2.1 c s k key bt.toNat id HO.out.2.2.2.2 HEP0.out HF.out HP9.out _ (XL.out _ (by (repeat (first | with_reducible (first | exact Ext.refl _ _ | assumption | refine Ext.upN ?_ | refine Ext.alloc ?_ _ | refine Ext.drew ?_ | refine Ext.drewN ?_ _ | refine Ext.up1N (by first | omega | simp) ?_) | refine Ext.alloc ?_ _ | refine Ext.setCell ?_ (.inr (by first | omega | simp)) _))))).mono ?_
    rintro e w2 ⟨rfl, G', hL, hG, hx⟩
    have X1 : Ext Non w x2.on := by (repeat (first | with_reducible (first | exact Ext.refl _ _ | assumption | refine Ext.upN ?_ | refine Ext.alloc ?_ _ | refine Ext.drew ?_ | refine Ext.drewN ?_ _ | refine Ext.up1N (by first | omega | simp) ?_) | refine Ext.alloc ?_ _ | refine Ext.setCell ?_ (.inr (by first | omega | simp)) _))
    have FIN := Go.Lib.hid (And.intro hL (And.intro hG (X1.ofNon.trans hx)))
    have hs := X1.size
    clear hL hG hx
    go_wp2
    go_ret
    exact ⟨ret_int DE0.out.symm, G', by rw [DG0.out]; exact FIN.out.1, fun k hk => (FIN.out.2.1 k hk).imp (fun h => h) (fun h => by omega), FIN.out.2.2⟩
  by_cases hk2 : kn = 2
  · subst hk2
    have DE0 : Hid (modelE m O = prepareRE m from_ slot ⟨c, s, ⟨k, key, bt.toNat, id⟩⟩ from_ (stepT m.ep m.view slot ⟨c, s, ⟨k, key, bt.toNat, id⟩⟩ wrong)) := Go.Lib.hid (by rw [DE.out, if_neg (by decide), if_neg (by decide), if_pos rfl])
    have DG0 : Hid (modelR m O = prepareR m from_ slot ⟨c, s, ⟨k, key, bt.toNat, id⟩⟩ from_ (stepT m.ep m.view slot ⟨c, s, ⟨k, key, bt.toNat, id⟩⟩ wrong)) := Go.Lib.hid (by rw [DG.out, if_neg (by decide), if_neg (by decide), if_pos rfl])
    clear DE DG hkr
    go_enter Try.func45, Try.ntmps45
    go_wp2_with fail
    refine Calls.ew (KD'.out _) ?_
    rintro e x1 rfl
    go_upto_region 7 with fail
    apply wp_region_rel_tail 19 (relR [Mo.is _, Mo.is _, Mo.is _, Mo.is _, Mo.is _, Mo.is _, Mo.is _, Mo.is _, Mo.is _, Mo.is _, Mo.is _, Mo.is _, Mo.is _, Mo.is _, Mo.is _, Mo.is _, Mo.is _, Mo.is _, Mo.is _]) (by kernel_rfl) (by kernel_rfl) (by kernel_rfl) (by kernel_rfl) (by kernel_rfl) (by decide) (by kernel_rfl) (relR_mono _) (StepD.all ?st2) ?q2
    case st2 =>
      refine ⟨?_, ?_, ?_, ?_, ?_, ?_, ?_, ?_, ?_, ?_, ?_, ?_, ?_, ?_, ?_, ?_, ?_, ?_, ?_, trivial⟩
      · intro a' w' hx hs hd
        obtain ⟨y, rfl⟩ := hx.ew
        have e0 : a'.tmps[0]?.getD undef = _ := hs 0 rfl
        simp only [List.getElem?_toArray, List.getElem?_cons_succ, List.getElem?_cons_zero, Option.getD_some, Array.getElem?_eq_some_iff] at e0
        refine .inl ⟨rfl, ?_⟩
        clear hs hd hx
        go_simp
        exact ⟨Ext.refl _ _, rfl⟩
      · intro a' w' hx hs hd
        obtain ⟨y, rfl⟩ := hx.ew
        have e3 : a'.tmps[3]?.getD undef = _ := hs 3 rfl
        simp only [List.getElem?_toArray, List.getElem?_cons_succ, List.getElem?_cons_zero, Option.getD_some, Array.getElem?_eq_some_iff] at e3
        refine .inl ⟨rfl, ?_⟩
        clear hs hd hx
        go_simp
        exact ⟨Ext.refl _ _, rfl⟩
      · intro a' w' hx hs hd
        obtain ⟨y, rfl⟩ := hx.ew
        have e25 : a'.tmps[25]?.getD undef = _ := hd 1 25 rfl rfl
        refine .inl ⟨rfl, ?_⟩
        clear hs hd hx
        go_simp
        exact ⟨Ext.refl _ _, rfl⟩
      · intro a' w' hx hs hd
        obtain ⟨y, rfl⟩ := hx.ew
        have e3 : a'.tmps[3]?.getD undef = _ := hs 3 rfl
        simp only [List.getElem?_toArray, List.getElem?_cons_succ, List.getElem?_cons_zero, Option.getD_some, Array.getElem?_eq_some_iff] at e3
        refine .inl ⟨rfl, ?_⟩
        clear hs hd hx
        go_simp
        exact ⟨Ext.refl _ _, rfl⟩
      · intro a' w' hx hs hd
        obtain ⟨y, rfl⟩ := hx.ew
        have e27 : a'.tmps[27]?.getD undef = _ := hd 3 27 rfl rfl
        refine .inl ⟨rfl, ?_⟩
        clear hs hd hx
        go_simp
        exact ⟨Ext.refl _ _, rfl⟩
      · intro a' w' hx hs hd
        obtain ⟨y, rfl⟩ := hx.ew
        have e3 : a'.tmps[3]?.getD undef = _ := hs 3 rfl
        simp only [List.getElem?_toArray, List.getElem?_cons_succ, List.getElem?_cons_zero, Option.getD_some, Array.getElem?_eq_some_iff] at e3
        refine .inl ⟨rfl, ?_⟩
        clear hs hd hx
        go_simp
        exact ⟨Ext.refl _ _, rfl⟩
      · intro a' w' hx hs hd
        obtain ⟨y, rfl⟩ := hx.ew
        have e29 : a'.tmps[29]?.getD undef = _ := hd 5 29 rfl rfl
        refine .inl ⟨rfl, ?_⟩
        clear hs hd hx
        go_simp
        exact ⟨Ext.refl _ _, rfl⟩
      · intro a' w' hx hs hd
        obtain ⟨y, rfl⟩ := hx.ew
        have e30 : a'.tmps[30]?.getD undef = _ := hd 6 30 rfl rfl
        refine .inl ⟨rfl, ?_⟩
        clear hs hd hx
        go_simp
        exact (RQ.out _).mono (fun e w'' ⟨he, hx⟩ => ⟨_, he, hx, rfl⟩)
      · intro a' w' hx hs hd
        obtain ⟨y, rfl⟩ := hx.ew
        have e3 : a'.tmps[3]?.getD undef = _ := hs 3 rfl
        simp only [List.getElem?_toArray, List.getElem?_cons_succ, List.getElem?_cons_zero, Option.getD_some, Array.getElem?_eq_some_iff] at e3
        refine .inl ⟨rfl, ?_⟩
        clear hs hd hx
        go_simp
        exact ⟨Ext.refl _ _, rfl⟩
      · intro a' w' hx hs hd
        obtain ⟨y, rfl⟩ := hx.ew
        have e0 : a'.tmps[0]?.getD undef = _ := hs 0 rfl
        simp only [List.getElem?_toArray, List.getElem?_cons_succ, List.getElem?_cons_zero, Option.getD_some, Array.getElem?_eq_some_iff] at e0
        refine .inl ⟨rfl, ?_⟩
        clear hs hd hx
        go_simp
        exact ⟨Ext.refl _ _, rfl⟩
      · intro a' w' hx hs hd
        obtain ⟨y, rfl⟩ := hx.ew
        have e33 : a'.tmps[33]?.getD undef = _ := hd 9 33 rfl rfl
        refine .inl ⟨rfl, ?_⟩
        clear hs hd hx
        go_simp
        exact ⟨Ext.refl _ _, rfl⟩
      · intro a' w' hx hs hd
        obtain ⟨y, rfl⟩ := hx.ew
        have e34 : a'.tmps[34]?.getD undef = _ := hd 10 34 rfl rfl
        refine .inl ⟨rfl, ?_⟩
        clear hs hd hx
        go_simp
        exact ⟨Ext.refl _ _, rfl⟩
      · intro a' w' hx hs hd
        obtain ⟨y, rfl⟩ := hx.ew
        have e35 : a'.tmps[35]?.getD undef = _ := hd 11 35 rfl rfl
        refine .inl ⟨rfl, ?_⟩
        clear hs hd hx
        go_simp
        exact ⟨Ext.refl _ _, rfl⟩
      · intro a' w' hx hs hd
        obtain ⟨y, rfl⟩ := hx.ew
        have e36 : a'.tmps[36]?.getD undef = _ := hd 12 36 rfl rfl
        refine .inl ⟨rfl, ?_⟩
        clear hs hd hx
        go_simp
        exact ⟨Ext.refl _ _, rfl⟩
      · intro a' w' hx hs hd
        obtain ⟨y, rfl⟩ := hx.ew
        have e0 : a'.tmps[0]?.getD undef = _ := hs 0 rfl
        simp only [List.getElem?_toArray, List.getElem?_cons_succ, List.getElem?_cons_zero, Option.getD_some, Array.getElem?_eq_some_iff] at e0
        refine .inl ⟨rfl, ?_⟩
        clear hs hd hx
        go_simp
        exact ⟨Ext.refl _ _, rfl⟩
      · intro a' w' hx hs hd
        obtain ⟨y, rfl⟩ := hx.ew
        have e38 : a'.tmps[38]?.getD undef = _ := hd 14 38 rfl rfl
        refine .inl ⟨rfl, ?_⟩
        clear hs hd hx
        go_simp
        exact ⟨Ext.refl _ _, rfl⟩
      · intro a' w' hx hs hd
        obtain ⟨y, rfl⟩ := hx.ew
        have e39 : a'.tmps[39]?.getD undef = _ := hd 15 39 rfl rfl
        refine .inl ⟨rfl, ?_⟩
        clear hs hd hx
        go_simp
        exact ⟨Ext.refl _ _, rfl⟩
      · intro a' w' hx hs hd
        obtain ⟨y, rfl⟩ := hx.ew
        have e40 : a'.tmps[40]?.getD undef = _ := hd 16 40 rfl rfl
        refine .inl ⟨rfl, ?_⟩
        clear hs hd hx
        go_simp
        exact ⟨Ext.refl _ _, rfl⟩
      · intro a' w' hx hs hd
        obtain ⟨y, rfl⟩ := hx.ew
        have e32 : a'.tmps[32]?.getD undef = _ := hd 8 32 rfl rfl
        have e37 : a'.tmps[37]?.getD undef = _ := hd 13 37 rfl rfl
        have e41 : a'.tmps[41]?.getD undef = _ := hd 17 41 rfl rfl
        refine .inl ⟨rfl, ?_⟩
        clear hs hd hx
        go_simp
        exact (SIG.out _).mono (fun e w'' ⟨he, hx⟩ => ⟨_, he, hx, rfl⟩)
    case' q2 =>
      intro vs w' hx hRR
      obtain ⟨x2, rfl⟩ := hx.ew
      have q0 : vs 0 = _ := hRR 0 (by decide)
      have q1 : vs 1 = _ := hRR 1 (by decide)
      have q2 : vs 2 = _ := hRR 2 (by decide)
      have q3 : vs 3 = _ := hRR 3 (by decide)
      have q4 : vs 4 = _ := hRR 4 (by decide)
      have q5 : vs 5 = _ := hRR 5 (by decide)
      have q6 : vs 6 = _ := hRR 6 (by decide)
      have q7 : vs 7 = _ := hRR 7 (by decide)
      have q8 : vs 8 = _ := hRR 8 (by decide)
      have q9 : vs 9 = _ := hRR 9 (by decide)
      have q10 : vs 10 = _ := hRR 10 (by decide)
      have q11 : vs 11 = _ := hRR 11 (by decide)
      have q12 : vs 12 = _ := hRR 12 (by decide)
      have q13 : vs 13 = _ := hRR 13 (by decide)
      have q14 : vs 14 = _ := hRR 14 (by decide)
      have q15 : vs 15 = _ := hRR 15 (by decide)
      have q16 : vs 16 = _ := hRR 16 (by decide)
      have q17 : vs 17 = _ := hRR 17 (by decide)
      have q18 : vs 18 = _ := hRR 18 (by decide)
      clear hRR hx
      simp only [putAll, List.take_succ_cons, List.take_zero, List.drop_succ_cons, List.drop_zero, Act.put, List.setIfInBounds_toArray, List.set_cons_zero, List.set_cons_succ, Nat.reduceAdd, Nat.zero_add]
      simp only [q0, q1, q2, q3, q4, q5, q6, q7, q8, q9, q10, q11, q12, q13, q14, q15, q16, q17, q18]
      clear q0 q1 q2 q3 q4 q5 q6 q7 q8 q9 q10 q11 q12 q13 q14 q15 q16 q17 q18 vs
    go_wp2_with fail
    refine (ref14_Prepare b G m from_ slot HO.out.2.2.1 c s k key bt.toNat id HO.out.2.2.2.2 from_ _ HO.out.2.1 HTS.out HEP0.out HF.out HV9.out _ (XL.out _ (by (repeat (first | with_reducible (first | exact Ext.refl _ _ | assumption | refine Ext.upN ?_ | refine Ext.alloc ?_ _ | refine Ext.drew ?_ | refine Ext.drewN ?_ _ | refine Ext.up1N (by first | omega | simp) ?_) | refine Ext.alloc ?_ _ | refine Ext.setCell ?_ (.inr (by first | omega | simp)) _))))).mono ?_
    rintro e w2 ⟨rfl, G', hL, hG, hx⟩
    have X1 : Ext Non w x2.on := by (repeat (first | with_reducible (first | exact Ext.refl _ _ | assumption | refine Ext.upN ?_ | refine Ext.alloc ?_ _ | refine Ext.drew ?_ | refine Ext.drewN ?_ _ | refine Ext.up1N (by first | omega | simp) ?_) | refine Ext.alloc ?_ _ | refine Ext.setCell ?_ (.inr (by first | omega | simp)) _))
    have FIN := Go.Lib.hid (And.intro hL (And.intro hG (X1.ofNon.trans (hx))))
    have hs := X1.size
    clear hL hG hx
    go_wp2
    go_ret
    exact ⟨ret_int DE0.out.symm, G', by rw [DG0.out]; exact FIN.out.1, fun k hk => (FIN.out.2.1 k hk).imp (fun h => h) (fun h => by omega), FIN.out.2.2⟩
  have hk3 : kn = 3 := by omega
  · subst hk3
    have DE0 : Hid (modelE m O = commitRE m from_ slot ⟨c, s, ⟨k, key, bt.toNat, id⟩⟩) := Go.Lib.hid (by rw [DE.out, if_neg (by decide), if_neg (by decide), if_neg (by decide)])
    have DG0 : Hid (modelR m O = commitR m from_ slot ⟨c, s, ⟨k, key, bt.toNat, id⟩⟩) := Go.Lib.hid (by rw [DG.out, if_neg (by decide), if_neg (by decide), if_neg (by decide)])
    clear DE DG hkr
    go_enter Try.func45, Try.ntmps45
    go_wp2_with fail
    refine Calls.ew (KD'.out _) ?_
    rintro e x1 rfl
    go_upto_region 8 with fail
    apply wp_region_rel_tail 8 (relR [Mo.is _, Mo.is _, Mo.is _, Mo.is _, Mo.is _, Mo.is _, Mo.is _, Mo.is _]) (by kernel_rfl) (by kernel_rfl) (by kernel_rfl) (by kernel_rfl) (by kernel_rfl) (by decide) (by kernel_rfl) (relR_mono _) (StepD.all ?st3) ?q3
    case st3 =>
      refine ⟨?_, ?_, ?_, ?_, ?_, ?_, ?_, ?_, trivial⟩
      · intro a' w' hx hs hd
        obtain ⟨y, rfl⟩ := hx.ew
        have e0 : a'.tmps[0]?.getD undef = _ := hs 0 rfl
        simp only [List.getElem?_toArray, List.getElem?_cons_succ, List.getElem?_cons_zero, Option.getD_some, Array.getElem?_eq_some_iff] at e0
        refine .inl ⟨rfl, ?_⟩
        clear hs hd hx
        go_simp
        exact ⟨Ext.refl _ _, rfl⟩
      · intro a' w' hx hs hd
        obtain ⟨y, rfl⟩ := hx.ew
        have e3 : a'.tmps[3]?.getD undef = _ := hs 3 rfl
        simp only [List.getElem?_toArray, List.getElem?_cons_succ, List.getElem?_cons_zero, Option.getD_some, Array.getElem?_eq_some_iff] at e3
        refine .inl ⟨rfl, ?_⟩
        clear hs hd hx
        go_simp
        exact ⟨Ext.refl _ _, rfl⟩
      · intro a' w' hx hs hd
        obtain ⟨y, rfl⟩ := hx.ew
        have e45 : a'.tmps[45]?.getD undef = _ := hd 1 45 rfl rfl
        refine .inl ⟨rfl, ?_⟩
        clear hs hd hx
        go_simp
        exact ⟨Ext.refl _ _, rfl⟩
      · intro a' w' hx hs hd
        obtain ⟨y, rfl⟩ := hx.ew
        have e3 : a'.tmps[3]?.getD undef = _ := hs 3 rfl
        simp only [List.getElem?_toArray, List.getElem?_cons_succ, List.getElem?_cons_zero, Option.getD_some, Array.getElem?_eq_some_iff] at e3
        refine .inl ⟨rfl, ?_⟩
        clear hs hd hx
        go_simp
        exact ⟨Ext.refl _ _, rfl⟩
      · intro a' w' hx hs hd
        obtain ⟨y, rfl⟩ := hx.ew
        have e47 : a'.tmps[47]?.getD undef = _ := hd 3 47 rfl rfl
        refine .inl ⟨rfl, ?_⟩
        clear hs hd hx
        go_simp
        exact ⟨Ext.refl _ _, rfl⟩
      · intro a' w' hx hs hd
        obtain ⟨y, rfl⟩ := hx.ew
        have e3 : a'.tmps[3]?.getD undef = _ := hs 3 rfl
        simp only [List.getElem?_toArray, List.getElem?_cons_succ, List.getElem?_cons_zero, Option.getD_some, Array.getElem?_eq_some_iff] at e3
        refine .inl ⟨rfl, ?_⟩
        clear hs hd hx
        go_simp
        exact ⟨Ext.refl _ _, rfl⟩
      · intro a' w' hx hs hd
        obtain ⟨y, rfl⟩ := hx.ew
        have e49 : a'.tmps[49]?.getD undef = _ := hd 5 49 rfl rfl
        refine .inl ⟨rfl, ?_⟩
        clear hs hd hx
        go_simp
        exact ⟨Ext.refl _ _, rfl⟩
      · intro a' w' hx hs hd
        obtain ⟨y, rfl⟩ := hx.ew
        have e50 : a'.tmps[50]?.getD undef = _ := hd 6 50 rfl rfl
        refine .inl ⟨rfl, ?_⟩
        clear hs hd hx
        go_simp
        exact (RQ.out _).mono (fun e w'' ⟨he, hx⟩ => ⟨_, he, hx, rfl⟩)
    case' q3 =>
      intro vs w' hx hRR
      obtain ⟨x2, rfl⟩ := hx.ew
      have q0 : vs 0 = _ := hRR 0 (by decide)
      have q1 : vs 1 = _ := hRR 1 (by decide)
      have q2 : vs 2 = _ := hRR 2 (by decide)
      have q3 : vs 3 = _ := hRR 3 (by decide)
      have q4 : vs 4 = _ := hRR 4 (by decide)
      have q5 : vs 5 = _ := hRR 5 (by decide)
      have q6 : vs 6 = _ := hRR 6 (by decide)
      have q7 : vs 7 = _ := hRR 7 (by decide)
      clear hRR hx
      simp only [putAll, List.take_succ_cons, List.take_zero, List.drop_succ_cons, List.drop_zero, Act.put, List.setIfInBounds_toArray, List.set_cons_zero, List.set_cons_succ, Nat.reduceAdd, Nat.zero_add]
      simp only [q0, q1, q2, q3, q4, q5, q6, q7]
      clear q0 q1 q2 q3 q4 q5 q6 q7 vs
    go_wp2_with fail
    refine (ref14_Commit b G m from_ slot HO.out.2.2.1 c s k key bt.toNat id HO.out.2.2.2.2 HEP0.out HF.out HV9.out _ (XL.out _ (by (repeat (first | with_reducible (first | exact Ext.refl _ _ | assumption | refine Ext.upN ?_ | refine Ext.alloc ?_ _ | refine Ext.drew ?_ | refine Ext.drewN ?_ _ | refine Ext.up1N (by first | omega | simp) ?_) | refine Ext.alloc ?_ _ | refine Ext.setCell ?_ (.inr (by first | omega | simp)) _))))).mono ?_
    rintro e w2 ⟨rfl, G', hL, hG, hx⟩
    have X1 : Ext Non w x2.on := by (repeat (first | with_reducible (first | exact Ext.refl _ _ | assumption | refine Ext.upN ?_ | refine Ext.alloc ?_ _ | refine Ext.drew ?_ | refine Ext.drewN ?_ _ | refine Ext.up1N (by first | omega | simp) ?_) | refine Ext.alloc ?_ _ | refine Ext.setCell ?_ (.inr (by first | omega | simp)) _))
    have FIN := Go.Lib.hid (And.intro hL (And.intro hG (X1.ofNon.trans (hx))))
    have hs := X1.size
    clear hL hG hx
    go_wp2
    go_ret
    exact ⟨ret_int DE0.out.symm, G', by rw [DG0.out]; exact FIN.out.1, fun k hk => (FIN.out.2.1 k hk).imp (fun h => h) (fun h => by omega), FIN.out.2.2⟩
end Go.Proofs.Ytakbkpklfihfiaa
