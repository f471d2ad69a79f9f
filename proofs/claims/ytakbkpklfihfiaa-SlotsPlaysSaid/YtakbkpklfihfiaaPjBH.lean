/- Joined texts: Slots14, Slots15. What each proves stands at its head; no conditions beside those in its theorems. -/
import Derived.Test.YtakbkpklfihfiaaPjBG
/- Contracts of layer 14's law functions: kind, call. -/
namespace Go.Proofs.Ytakbkpklfihfiaa
open Go.RowKit Go.Lib F64
set_option linter.unusedSimpArgs false
set_option linter.unusedVariables false
attribute [local go_sem] run_store_float
attribute [local go_sem low] EW.cellN EW.frozN alloc_cell_or alloc_froz_or EW.cellF EW.frozF EW.cell1 EW.froz1
attribute [local go_sem] relAt relUpon
def kindN (k : Int) : Int := (IntKind.u64.wrap k).tmod 4
theorem kindN_range (k : Int) : 0 ≤ kindN k ∧ kindN k < 4 := by
  unfold kindN
  have h : 0 ≤ IntKind.u64.wrap k := by rw [IntKind.wrap_u64]; omega
  rw [Int.tmod_eq_emod_of_nonneg h]
  omega
set_option maxRecDepth 100000 in
theorem op_kind (o : Stp) (w : World) : Calls Try.prog 36 #[.agg o.cells.toArray] w fun e w' => e = .returned (.int .i64 (kindN o.kind)) ∧ Ext Non w w' := by
  obtain ⟨kind, from_, slot, view, c, s, k, key, b, id, wrong⟩ := o
  have hr := kindN_range kind
  have hw : IntKind.i64.wrap (kindN kind) = kindN kind := IntWalk.i64_in _ (by omega)
  have hw2 : IntKind.u64.wrap (kindN kind) = kindN kind := by rw [IntKind.wrap_u64]; omega
  unfold kindN at *
  show Calls Try.prog 36 #[.agg #[.int .i64 kind, .int .i64 from_, .int .i64 slot, .int .i64 view, .int .i64 c, .int .i64 s, .int .i64 k, .string key, .int .u64 b, .int .i64 id, .bool wrong]] w _
  go_enter Try.func36, Try.ntmps36
  go_wp2
  go_ret
  exact ⟨rfl, by (repeat (first | with_reducible (first | exact Ext.refl _ _ | assumption | refine Ext.upN ?_ | refine Ext.alloc ?_ _ | refine Ext.drew ?_ | refine Ext.drewN ?_ _ | refine Ext.up1N (by first | omega | simp) ?_) | refine Ext.alloc ?_ _ | refine Ext.setCell ?_ (.inr (by first | omega | simp)) _))⟩
def stepE (g : Lo) (ep : Int) (o : Stp) : Int :=
  if kindN o.kind = 0 then enterE g o.view else if kindN o.kind = 1 then proposeE g o.slot o.req else if kindN o.kind = 2 then prepareE g o.from_ o.slot o.req o.from_ (stepT ep g.view o.slot o.req o.wrong) else commitE g o.from_ o.slot o.req
def stepG (g : Lo) (ep : Int) (o : Stp) : Lo :=
  if kindN o.kind = 0 then enterG g o.view else if kindN o.kind = 1 then proposeG g o.slot o.req else if kindN o.kind = 2 then prepareG g o.from_ o.slot o.req o.from_ (stepT ep g.view o.slot o.req o.wrong) else commitG g o.from_ o.slot o.req
theorem stepT_size (ep v sl : Int) (r : Req) (wr : Bool) : (stepT ep v sl r wr).size ≤ 9223372036854775807 := by
  unfold stepT
  have h := prepS_size ep v sl r
  split
  · rw [ByteArray.size_append]
    have : (⟨#[63]⟩ : ByteArray).size = 1 := rfl
    omega
  · omega
set_option maxHeartbeats 4000000 in
set_option maxRecDepth 100000 in
theorem law14_call (b : Nat) (G : Nat → Prop) (g : Lo) (ep : Int) (hep : I64 ep) (o : Stp) (ho : o.ok) (w : World) (h : LoW w b G g) :
    Calls Try.prog 38 #[.pointer (some ⟨b, 0, none⟩), .int .i64 ep, .agg o.cells.toArray] w fun e w' =>
    e = .returned (.int .i64 (stepE g ep o)) ∧ ∃ G', LoW w' b G' (stepG g ep o) ∧ (∀ k, G' k → G k ∨ w.heap.size ≤ k) ∧ Ext (LoF b G) w w' := by
  have HL := Go.Lib.hid h
  have KD := Go.Lib.hid (fun w => op_kind o w)
  have DE : Hid (stepE g ep o = if kindN o.kind = 0 then enterE g o.view else if kindN o.kind = 1 then proposeE g o.slot o.req else if kindN o.kind = 2 then prepareE g o.from_ o.slot o.req o.from_ (stepT ep g.view o.slot o.req o.wrong) else commitE g o.from_ o.slot o.req) := Go.Lib.hid rfl
  have DG : Hid (stepG g ep o = if kindN o.kind = 0 then enterG g o.view else if kindN o.kind = 1 then proposeG g o.slot o.req else if kindN o.kind = 2 then prepareG g o.from_ o.slot o.req o.from_ (stepT ep g.view o.slot o.req o.wrong) else commitG g o.from_ o.slot o.req) := Go.Lib.hid rfl
  obtain ⟨kind, from_, slot, view, c, s, k, key, bt, id, wrong⟩ := o
  obtain ⟨h0, h1, h2, h3, h4⟩ := ho
  have HO : Hid (I64 kind ∧ I64 from_ ∧ I64 slot ∧ I64 view ∧ ReqOk ⟨c, s, ⟨k, key, bt.toNat, id⟩⟩) := Go.Lib.hid ⟨h0, h1, h2, h3, h4⟩
  have HEp := Go.Lib.hid hep
  have hvw := h.vw
  have HV : Hid (I64 g.view) := Go.Lib.hid (by unfold I64; omega)
  have KD' : Hid (∀ w : World, Calls Try.prog 36 #[.agg #[.int .i64 kind, .int .i64 from_, .int .i64 slot, .int .i64 view, .int .i64 c, .int .i64 s, .int .i64 k, .string key, .int .u64 bt, .int .i64 id, .bool wrong]] w fun e w' => e = .returned (.int .i64 (kindN kind)) ∧ Ext Non w w') := Go.Lib.hid KD.out
  have hkr := kindN_range kind
  show Calls Try.prog 38 #[.pointer (some ⟨b, 0, none⟩), .int .i64 ep, .agg #[.int .i64 kind, .int .i64 from_, .int .i64 slot, .int .i64 view, .int .i64 c, .int .i64 s, .int .i64 k, .string key, .int .u64 bt, .int .i64 id, .bool wrong]] w _
  clear KD h h0 h1 h2 h3 h4 hep
  have SIG : Hid (∀ w : World, Calls Try.prog 81 #[.agg #[.int .i64 kind, .int .i64 from_, .int .i64 slot, .int .i64 view, .int .i64 c, .int .i64 s, .int .i64 k, .string key, .int .u64 bt, .int .i64 id, .bool wrong], .int .i64 ep, .int .i64 g.view] w fun e w' => e = .returned (.agg #[.int .i64 from_, .string (stepT ep g.view slot ⟨c, s, ⟨k, key, bt.toNat, id⟩⟩ wrong)]) ∧ Ext Non w w') := Go.Lib.hid (fun w => op_sig kind from_ slot view c s k key bt id wrong ep g.view ⟨HEp.out, HV.out, HO.out.2.2.1⟩ HO.out.2.2.2.2 w)
  have RQ : Hid (∀ w : World, Calls Try.prog 23 #[.agg #[.int .i64 c, .int .i64 s, .int .i64 k, .string key, .int .u64 bt, .int .i64 id]] w fun e w' => e = .returned (.agg #[.int .i64 c, .int .i64 s, .int .i64 k, .string key, .float .f64 bt.toNat, .int .i64 id]) ∧ Ext Non w w') := Go.Lib.hid (fun w => law11_Request c s k key bt id w)
  have hts := stepT_size ep g.view slot ⟨c, s, ⟨k, key, bt.toNat, id⟩⟩ wrong
  have HTS := Go.Lib.hid hts
  clear hts
  have HR : Hid ((⟨kind, from_, slot, view, c, s, k, key, bt, id, wrong⟩ : Stp).req = ⟨c, s, ⟨k, key, bt.toNat, id⟩⟩) := Go.Lib.hid rfl
  rw [HR.out] at DE DG
  have HKd : Hid ((⟨kind, from_, slot, view, c, s, k, key, bt, id, wrong⟩ : Stp).kind = kind ∧ (⟨kind, from_, slot, view, c, s, k, key, bt, id, wrong⟩ : Stp).view = view ∧ (⟨kind, from_, slot, view, c, s, k, key, bt, id, wrong⟩ : Stp).slot = slot ∧ (⟨kind, from_, slot, view, c, s, k, key, bt, id, wrong⟩ : Stp).from_ = from_ ∧ (⟨kind, from_, slot, view, c, s, k, key, bt, id, wrong⟩ : Stp).wrong = wrong) := Go.Lib.hid ⟨rfl, rfl, rfl, rfl, rfl⟩
  rw [HKd.out.1, HKd.out.2.1, HKd.out.2.2.1, HKd.out.2.2.2.1, HKd.out.2.2.2.2] at DE DG
  generalize (⟨kind, from_, slot, view, c, s, k, key, bt, id, wrong⟩ : Stp) = O at *
  have XL : Hid (∀ w1 : World, Ext Non w w1 → LoW w1 b G g) := Go.Lib.hid (fun w1 x => HL.out.extN x)
  generalize hkn : kindN kind = kn at *
  by_cases hk0 : kn = 0
  · subst hk0
    have DE0 : Hid (stepE g ep O = enterE g view) := Go.Lib.hid (by rw [DE.out, if_pos rfl])
    have DG0 : Hid (stepG g ep O = enterG g view) := Go.Lib.hid (by rw [DG.out, if_pos rfl])
    clear DE DG hkr
    go_enter Try.func38, Try.ntmps38
    go_wp2_with fail
    refine Calls.ew (KD'.out _) ?_
    rintro e x1 rfl
    go_wp2_with fail
    refine (log_Enter b G g view _ (XL.out _ (by (repeat (first | with_reducible (first | exact Ext.refl _ _ | assumption | refine Ext.upN ?_ | refine Ext.alloc ?_ _ | refine Ext.drew ?_ | refine Ext.drewN ?_ _ | refine Ext.up1N (by first | omega | simp) ?_) | refine Ext.alloc ?_ _ | refine Ext.setCell ?_ (.inr (by first | omega | simp)) _))))).mono ?_
    rintro e w2 ⟨rfl, G', hL, hG, hx⟩
    have X1 : Ext Non w x1.on := by (repeat (first | with_reducible (first | exact Ext.refl _ _ | assumption | refine Ext.upN ?_ | refine Ext.alloc ?_ _ | refine Ext.drew ?_ | refine Ext.drewN ?_ _ | refine Ext.up1N (by first | omega | simp) ?_) | refine Ext.alloc ?_ _ | refine Ext.setCell ?_ (.inr (by first | omega | simp)) _))
    have FIN := Go.Lib.hid (And.intro hL (And.intro hG (X1.ofNon.trans (hx.mono (fun k _ e => (Or.inl e : LoF b G k))))))
    have hs := X1.size
    clear hL hG hx
    go_wp2
    go_ret
    exact ⟨ret_int DE0.out.symm, G', by rw [DG0.out]; exact FIN.out.1, fun k hk => (FIN.out.2.1 k hk).imp (fun h => h) (fun h => by omega), FIN.out.2.2⟩
  by_cases hk1 : kn = 1
  · subst hk1
    have DE0 : Hid (stepE g ep O = proposeE g slot ⟨c, s, ⟨k, key, bt.toNat, id⟩⟩) := Go.Lib.hid (by rw [DE.out, if_neg (by decide), if_pos rfl])
    have DG0 : Hid (stepG g ep O = proposeG g slot ⟨c, s, ⟨k, key, bt.toNat, id⟩⟩) := Go.Lib.hid (by rw [DG.out, if_neg (by decide), if_pos rfl])
    clear DE DG hkr
    go_enter Try.func38, Try.ntmps38
    go_wp2_with fail
    refine Calls.ew (KD'.out _) ?_
    rintro e x1 rfl
    go_upto_region 5 with fail
    apply wp_region_rel_tail 6 (relR [Mo.is _, Mo.is _, Mo.is _, Mo.is _, Mo.is _, Mo.is _]) (by kernel_rfl) (by kernel_rfl) (by kernel_rfl) (by kernel_rfl) (by kernel_rfl) (by decide) (by kernel_rfl) (relR_mono _) (StepD.all ?st6) ?q6
    case st6 =>
      refine ⟨?_, ?_, ?_, ?_, ?_, ?_, trivial⟩
      · intro a' w' hx hs hd
        obtain ⟨y, rfl⟩ := hx.ew
        have e0 : a'.tmps[0]?.getD undef = _ := hs 0 rfl
        simp only [List.getElem?_toArray, List.getElem?_cons_succ, List.getElem?_cons_zero, Option.getD_some, Array.getElem?_eq_some_iff] at e0
        refine .inl ⟨rfl, ?_⟩
        clear hs hd hx
        go_simp
        exact ⟨Ext.refl _ _, rfl⟩
      · intro a' w' hx hs hd
        obtain ⟨y, rfl⟩ := hx.ew
        have e5 : a'.tmps[5]?.getD undef = _ := hs 5 rfl
        simp only [List.getElem?_toArray, List.getElem?_cons_succ, List.getElem?_cons_zero, Option.getD_some, Array.getElem?_eq_some_iff] at e5
        refine .inl ⟨rfl, ?_⟩
        clear hs hd hx
        go_simp
        exact ⟨Ext.refl _ _, rfl⟩
      · intro a' w' hx hs hd
        obtain ⟨y, rfl⟩ := hx.ew
        have e18 : a'.tmps[18]?.getD undef = _ := hd 1 18 rfl rfl
        refine .inl ⟨rfl, ?_⟩
        clear hs hd hx
        go_simp
        exact ⟨Ext.refl _ _, rfl⟩
      · intro a' w' hx hs hd
        obtain ⟨y, rfl⟩ := hx.ew
        have e5 : a'.tmps[5]?.getD undef = _ := hs 5 rfl
        simp only [List.getElem?_toArray, List.getElem?_cons_succ, List.getElem?_cons_zero, Option.getD_some, Array.getElem?_eq_some_iff] at e5
        refine .inl ⟨rfl, ?_⟩
        clear hs hd hx
        go_simp
        exact ⟨Ext.refl _ _, rfl⟩
      · intro a' w' hx hs hd
        obtain ⟨y, rfl⟩ := hx.ew
        have e20 : a'.tmps[20]?.getD undef = _ := hd 3 20 rfl rfl
        refine .inl ⟨rfl, ?_⟩
        clear hs hd hx
        go_simp
        exact ⟨Ext.refl _ _, rfl⟩
      · intro a' w' hx hs hd
        obtain ⟨y, rfl⟩ := hx.ew
        have e21 : a'.tmps[21]?.getD undef = _ := hd 4 21 rfl rfl
        refine .inl ⟨rfl, ?_⟩
        clear hs hd hx
        go_simp
        exact (RQ.out _).mono (fun e w'' ⟨he, hx⟩ => ⟨_, he, hx, rfl⟩)
    case' q6 =>
      intro vs w' hx hRR
      obtain ⟨x2, rfl⟩ := hx.ew
      have q0 : vs 0 = _ := hRR 0 (by decide)
      have q1 : vs 1 = _ := hRR 1 (by decide)
      have q2 : vs 2 = _ := hRR 2 (by decide)
      have q3 : vs 3 = _ := hRR 3 (by decide)
      have q4 : vs 4 = _ := hRR 4 (by decide)
      have q5 : vs 5 = _ := hRR 5 (by decide)
      clear hRR hx
      simp only [putAll, List.take_succ_cons, List.take_zero, List.drop_succ_cons, List.drop_zero, Act.put, List.setIfInBounds_toArray, List.set_cons_zero, List.set_cons_succ, Nat.reduceAdd, Nat.zero_add]
      simp only [q0, q1, q2, q3, q4, q5]
      clear q0 q1 q2 q3 q4 q5 vs
    go_wp2_with fail
    refine (log_Propose b G g slot HO.out.2.2.1 c s k key bt.toNat id HO.out.2.2.2.2 _ (XL.out _ (by (repeat (first | with_reducible (first | exact Ext.refl _ _ | assumption | refine Ext.upN ?_ | refine Ext.alloc ?_ _ | refine Ext.drew ?_ | refine Ext.drewN ?_ _ | refine Ext.up1N (by first | omega | simp) ?_) | refine Ext.alloc ?_ _ | refine Ext.setCell ?_ (.inr (by first | omega | simp)) _))))).mono ?_
    rintro e w2 ⟨rfl, G', hL, hG, hx⟩
    have X1 : Ext Non w x2.on := by (repeat (first | with_reducible (first | exact Ext.refl _ _ | assumption | refine Ext.upN ?_ | refine Ext.alloc ?_ _ | refine Ext.drew ?_ | refine Ext.drewN ?_ _ | refine Ext.up1N (by first | omega | simp) ?_) | refine Ext.alloc ?_ _ | refine Ext.setCell ?_ (.inr (by first | omega | simp)) _))
    have FIN := Go.Lib.hid (And.intro hL (And.intro hG (X1.ofNon.trans (hx.mono (fun k _ e => (Or.inl e : LoF b G k))))))
    have hs := X1.size
    clear hL hG hx
    go_wp2
    go_ret
    exact ⟨ret_int DE0.out.symm, G', by rw [DG0.out]; exact FIN.out.1, fun k hk => (FIN.out.2.1 k hk).imp (fun h => h) (fun h => by omega), FIN.out.2.2⟩
  by_cases hk2 : kn = 2
  · subst hk2
    have DE0 : Hid (stepE g ep O = prepareE g from_ slot ⟨c, s, ⟨k, key, bt.toNat, id⟩⟩ from_ (stepT ep g.view slot ⟨c, s, ⟨k, key, bt.toNat, id⟩⟩ wrong)) := Go.Lib.hid (by rw [DE.out, if_neg (by decide), if_neg (by decide), if_pos rfl])
    have DG0 : Hid (stepG g ep O = prepareG g from_ slot ⟨c, s, ⟨k, key, bt.toNat, id⟩⟩ from_ (stepT ep g.view slot ⟨c, s, ⟨k, key, bt.toNat, id⟩⟩ wrong)) := Go.Lib.hid (by rw [DG.out, if_neg (by decide), if_neg (by decide), if_pos rfl])
    clear DE DG hkr
    go_enter Try.func38, Try.ntmps38
    go_wp2_with fail
    refine Calls.ew (KD'.out _) ?_
    rintro e x1 rfl
    go_upto_region 7 with fail
    apply wp_region_rel_tail 13 (relR [Mo.is _, Mo.is _, Mo.is _, Mo.is _, Mo.is _, Mo.is _, Mo.is _, Mo.is _, Mo.is _, Mo.is _, Mo.is _, Mo.is _, Mo.is _]) (by kernel_rfl) (by kernel_rfl) (by kernel_rfl) (by kernel_rfl) (by kernel_rfl) (by decide) (by kernel_rfl) (relR_mono _) (StepD.all ?st7) ?q7
    case st7 =>
      refine ⟨?_, ?_, ?_, ?_, ?_, ?_, ?_, ?_, ?_, ?_, ?_, ?_, ?_, trivial⟩
      · intro a' w' hx hs hd
        obtain ⟨y, rfl⟩ := hx.ew
        have e0 : a'.tmps[0]?.getD undef = _ := hs 0 rfl
        simp only [List.getElem?_toArray, List.getElem?_cons_succ, List.getElem?_cons_zero, Option.getD_some, Array.getElem?_eq_some_iff] at e0
        refine .inl ⟨rfl, ?_⟩
        clear hs hd hx
        go_simp
        exact ⟨Ext.refl _ _, rfl⟩
      · intro a' w' hx hs hd
        obtain ⟨y, rfl⟩ := hx.ew
        have e5 : a'.tmps[5]?.getD undef = _ := hs 5 rfl
        simp only [List.getElem?_toArray, List.getElem?_cons_succ, List.getElem?_cons_zero, Option.getD_some, Array.getElem?_eq_some_iff] at e5
        refine .inl ⟨rfl, ?_⟩
        clear hs hd hx
        go_simp
        exact ⟨Ext.refl _ _, rfl⟩
      · intro a' w' hx hs hd
        obtain ⟨y, rfl⟩ := hx.ew
        have e27 : a'.tmps[27]?.getD undef = _ := hd 1 27 rfl rfl
        refine .inl ⟨rfl, ?_⟩
        clear hs hd hx
        go_simp
        exact ⟨Ext.refl _ _, rfl⟩
      · intro a' w' hx hs hd
        obtain ⟨y, rfl⟩ := hx.ew
        have e5 : a'.tmps[5]?.getD undef = _ := hs 5 rfl
        simp only [List.getElem?_toArray, List.getElem?_cons_succ, List.getElem?_cons_zero, Option.getD_some, Array.getElem?_eq_some_iff] at e5
        refine .inl ⟨rfl, ?_⟩
        clear hs hd hx
        go_simp
        exact ⟨Ext.refl _ _, rfl⟩
      · intro a' w' hx hs hd
        obtain ⟨y, rfl⟩ := hx.ew
        have e29 : a'.tmps[29]?.getD undef = _ := hd 3 29 rfl rfl
        refine .inl ⟨rfl, ?_⟩
        clear hs hd hx
        go_simp
        exact ⟨Ext.refl _ _, rfl⟩
      · intro a' w' hx hs hd
        obtain ⟨y, rfl⟩ := hx.ew
        have e5 : a'.tmps[5]?.getD undef = _ := hs 5 rfl
        simp only [List.getElem?_toArray, List.getElem?_cons_succ, List.getElem?_cons_zero, Option.getD_some, Array.getElem?_eq_some_iff] at e5
        refine .inl ⟨rfl, ?_⟩
        clear hs hd hx
        go_simp
        exact ⟨Ext.refl _ _, rfl⟩
      · intro a' w' hx hs hd
        obtain ⟨y, rfl⟩ := hx.ew
        have e31 : a'.tmps[31]?.getD undef = _ := hd 5 31 rfl rfl
        refine .inl ⟨rfl, ?_⟩
        clear hs hd hx
        go_simp
        exact ⟨Ext.refl _ _, rfl⟩
      · intro a' w' hx hs hd
        obtain ⟨y, rfl⟩ := hx.ew
        have e32 : a'.tmps[32]?.getD undef = _ := hd 6 32 rfl rfl
        refine .inl ⟨rfl, ?_⟩
        clear hs hd hx
        go_simp
        exact (RQ.out _).mono (fun e w'' ⟨he, hx⟩ => ⟨_, he, hx, rfl⟩)
      · intro a' w' hx hs hd
        obtain ⟨y, rfl⟩ := hx.ew
        have e5 : a'.tmps[5]?.getD undef = _ := hs 5 rfl
        simp only [List.getElem?_toArray, List.getElem?_cons_succ, List.getElem?_cons_zero, Option.getD_some, Array.getElem?_eq_some_iff] at e5
        refine .inl ⟨rfl, ?_⟩
        clear hs hd hx
        go_simp
        exact ⟨Ext.refl _ _, rfl⟩
      · intro a' w' hx hs hd
        obtain ⟨y, rfl⟩ := hx.ew
        have e1 : a'.tmps[1]?.getD undef = _ := hs 1 rfl
        simp only [List.getElem?_toArray, List.getElem?_cons_succ, List.getElem?_cons_zero, Option.getD_some, Array.getElem?_eq_some_iff] at e1
        refine .inl ⟨rfl, ?_⟩
        clear hs hd hx
        go_simp
        exact ⟨Ext.refl _ _, rfl⟩
      · intro a' w' hx hs hd
        obtain ⟨y, rfl⟩ := hx.ew
        have e0 : a'.tmps[0]?.getD undef = _ := hs 0 rfl
        simp only [List.getElem?_toArray, List.getElem?_cons_succ, List.getElem?_cons_zero, Option.getD_some, Array.getElem?_eq_some_iff] at e0
        refine .inl ⟨rfl, ?_⟩
        clear hs hd hx
        go_simp
        exact ⟨Ext.refl _ _, rfl⟩
      · intro a' w' hx hs hd
        obtain ⟨y, rfl⟩ := hx.ew
        have e36 : a'.tmps[36]?.getD undef = _ := hd 10 36 rfl rfl
        refine .inl ⟨rfl, ?_⟩
        clear hs hd hx
        go_simp
        exact (log_View b G g _ (XL.out _ (by (repeat (first | with_reducible (first | exact Ext.refl _ _ | assumption | refine Ext.upN ?_ | refine Ext.alloc ?_ _ | refine Ext.drew ?_ | refine Ext.drewN ?_ _ | refine Ext.up1N (by first | omega | simp) ?_) | refine Ext.alloc ?_ _ | refine Ext.setCell ?_ (.inr (by first | omega | simp)) _))))).mono (fun e w'' ⟨he, hx⟩ => by subst hx; exact ⟨_, he, Ext.refl _ _, rfl⟩)
      · intro a' w' hx hs hd
        obtain ⟨y, rfl⟩ := hx.ew
        have e34 : a'.tmps[34]?.getD undef = _ := hd 8 34 rfl rfl
        have e35 : a'.tmps[35]?.getD undef = _ := hd 9 35 rfl rfl
        have e37 : a'.tmps[37]?.getD undef = _ := hd 11 37 rfl rfl
        refine .inl ⟨rfl, ?_⟩
        clear hs hd hx
        go_simp
        exact (SIG.out _).mono (fun e w'' ⟨he, hx⟩ => ⟨_, he, hx, rfl⟩)
    case' q7 =>
      intro vs w' hx hRR
      obtain ⟨x2, rfl⟩ := hx.ew
      have q0 : vs 0 = _ := hRR 0 (by decide)
      have q1 : vs 1 = _ := hRR 1 (by decide)
      have q2 : vs 2 = _ := hRR 2 (by decide)
      have q3 : vs 3 = _ := hRR 3 (by decide)
      have q4 : vs 4 = _ := hRR 4 (by decide)
      have q5 : vs 5 = _ := hRR 5 (by decide)
      have q6 : vs 6 = _ := hRR 6 (by decide)
      have q7 : vs 7 = _ := hRR 7 (by decide)
      have q8 : vs 8 = _ := hRR 8 (by decide)
      have q9 : vs 9 = _ := hRR 9 (by decide)
      have q10 : vs 10 = _ := hRR 10 (by decide)
      have q11 : vs 11 = _ := hRR 11 (by decide)
      have q12 : vs 12 = _ := hRR 12 (by decide)
      clear hRR hx
      simp only [putAll, List.take_succ_cons, List.take_zero, List.drop_succ_cons, List.drop_zero, Act.put, List.setIfInBounds_toArray, List.set_cons_zero, List.set_cons_succ, Nat.reduceAdd, Nat.zero_add]
      simp only [q0, q1, q2, q3, q4, q5, q6, q7, q8, q9, q10, q11, q12]
      clear q0 q1 q2 q3 q4 q5 q6 q7 q8 q9 q10 q11 q12 vs
    go_wp2_with fail
    refine (log_Prepare b G g from_ slot HO.out.2.1 HO.out.2.2.1 c s k key bt.toNat id HO.out.2.2.2.2 from_ _ HO.out.2.1 HTS.out _ (XL.out _ (by (repeat (first | with_reducible (first | exact Ext.refl _ _ | assumption | refine Ext.upN ?_ | refine Ext.alloc ?_ _ | refine Ext.drew ?_ | refine Ext.drewN ?_ _ | refine Ext.up1N (by first | omega | simp) ?_) | refine Ext.alloc ?_ _ | refine Ext.setCell ?_ (.inr (by first | omega | simp)) _))))).mono ?_
    rintro e w2 ⟨rfl, G', hL, hG, hx⟩
    have X1 : Ext Non w x2.on := by (repeat (first | with_reducible (first | exact Ext.refl _ _ | assumption | refine Ext.upN ?_ | refine Ext.alloc ?_ _ | refine Ext.drew ?_ | refine Ext.drewN ?_ _ | refine Ext.up1N (by first | omega | simp) ?_) | refine Ext.alloc ?_ _ | refine Ext.setCell ?_ (.inr (by first | omega | simp)) _))
    have FIN := Go.Lib.hid (And.intro hL (And.intro hG (X1.ofNon.trans (hx))))
    have hs := X1.size
    clear hL hG hx
    go_wp2
    go_ret
    exact ⟨ret_int DE0.out.symm, G', by rw [DG0.out]; exact FIN.out.1, fun k hk => (FIN.out.2.1 k hk).imp (fun h => h) (fun h => by omega), FIN.out.2.2⟩
  have hk3 : kn = 3 := by omega
  · subst hk3
    have DE0 : Hid (stepE g ep O = commitE g from_ slot ⟨c, s, ⟨k, key, bt.toNat, id⟩⟩) := Go.Lib.hid (by rw [DE.out, if_neg (by decide), if_neg (by decide), if_neg (by decide)])
    have DG0 : Hid (stepG g ep O = commitG g from_ slot ⟨c, s, ⟨k, key, bt.toNat, id⟩⟩) := Go.Lib.hid (by rw [DG.out, if_neg (by decide), if_neg (by decide), if_neg (by decide)])
    clear DE DG hkr
    go_enter Try.func38, Try.ntmps38
    go_wp2_with fail
    refine Calls.ew (KD'.out _) ?_
    rintro e x1 rfl
    go_upto_region 8 with fail
    apply wp_region_rel_tail 8 (relR [Mo.is _, Mo.is _, Mo.is _, Mo.is _, Mo.is _, Mo.is _, Mo.is _, Mo.is _]) (by kernel_rfl) (by kernel_rfl) (by kernel_rfl) (by kernel_rfl) (by kernel_rfl) (by decide) (by kernel_rfl) (relR_mono _) (StepD.all ?st8) ?q8
    case st8 =>
      refine ⟨?_, ?_, ?_, ?_, ?_, ?_, ?_, ?_, trivial⟩
      · intro a' w' hx hs hd
        obtain ⟨y, rfl⟩ := hx.ew
        have e0 : a'.tmps[0]?.getD undef = _ := hs 0 rfl
        simp only [List.getElem?_toArray, List.getElem?_cons_succ, List.getElem?_cons_zero, Option.getD_some, Array.getElem?_eq_some_iff] at e0
        refine .inl ⟨rfl, ?_⟩
        clear hs hd hx
        go_simp
        exact ⟨Ext.refl _ _, rfl⟩
      · intro a' w' hx hs hd
        obtain ⟨y, rfl⟩ := hx.ew
        have e5 : a'.tmps[5]?.getD undef = _ := hs 5 rfl
        simp only [List.getElem?_toArray, List.getElem?_cons_succ, List.getElem?_cons_zero, Option.getD_some, Array.getElem?_eq_some_iff] at e5
        refine .inl ⟨rfl, ?_⟩
        clear hs hd hx
        go_simp
        exact ⟨Ext.refl _ _, rfl⟩
      · intro a' w' hx hs hd
        obtain ⟨y, rfl⟩ := hx.ew
        have e41 : a'.tmps[41]?.getD undef = _ := hd 1 41 rfl rfl
        refine .inl ⟨rfl, ?_⟩
        clear hs hd hx
        go_simp
        exact ⟨Ext.refl _ _, rfl⟩
      · intro a' w' hx hs hd
        obtain ⟨y, rfl⟩ := hx.ew
        have e5 : a'.tmps[5]?.getD undef = _ := hs 5 rfl
        simp only [List.getElem?_toArray, List.getElem?_cons_succ, List.getElem?_cons_zero, Option.getD_some, Array.getElem?_eq_some_iff] at e5
        refine .inl ⟨rfl, ?_⟩
        clear hs hd hx
        go_simp
        exact ⟨Ext.refl _ _, rfl⟩
      · intro a' w' hx hs hd
        obtain ⟨y, rfl⟩ := hx.ew
        have e43 : a'.tmps[43]?.getD undef = _ := hd 3 43 rfl rfl
        refine .inl ⟨rfl, ?_⟩
        clear hs hd hx
        go_simp
        exact ⟨Ext.refl _ _, rfl⟩
      · intro a' w' hx hs hd
        obtain ⟨y, rfl⟩ := hx.ew
        have e5 : a'.tmps[5]?.getD undef = _ := hs 5 rfl
        simp only [List.getElem?_toArray, List.getElem?_cons_succ, List.getElem?_cons_zero, Option.getD_some, Array.getElem?_eq_some_iff] at e5
        refine .inl ⟨rfl, ?_⟩
        clear hs hd hx
        go_simp
        exact ⟨Ext.refl _ _, rfl⟩
      · intro a' w' hx hs hd
        obtain ⟨y, rfl⟩ := hx.ew
        have e45 : a'.tmps[45]?.getD undef = _ := hd 5 45 rfl rfl
        refine .inl ⟨rfl, ?_⟩
        clear hs hd hx
        go_simp
        exact ⟨Ext.refl _ _, rfl⟩
      · intro a' w' hx hs hd
        obtain ⟨y, rfl⟩ := hx.ew
        have e46 : a'.tmps[46]?.getD undef = _ := hd 6 46 rfl rfl
        refine .inl ⟨rfl, ?_⟩
        clear hs hd hx
        go_simp
        exact (RQ.out _).mono (fun e w'' ⟨he, hx⟩ => ⟨_, he, hx, rfl⟩)
    case' q8 =>
      intro vs w' hx hRR
      obtain ⟨x2, rfl⟩ := hx.ew
      have q0 : vs 0 = _ := hRR 0 (by decide)
      have q1 : vs 1 = _ := hRR 1 (by decide)
      have q2 : vs 2 = _ := hRR 2 (by decide)
      have q3 : vs 3 = _ := hRR 3 (by decide)
      have q4 : vs 4 = _ := hRR 4 (by decide)
      have q5 : vs 5 = _ := hRR 5 (by decide)
      have q6 : vs 6 = _ := hRR 6 (by decide)
      have q7 : vs 7 = _ := hRR 7 (by decide)
      clear hRR hx
      simp only [putAll, List.take_succ_cons, List.take_zero, List.drop_succ_cons, List.drop_zero, Act.put, List.setIfInBounds_toArray, List.set_cons_zero, List.set_cons_succ, Nat.reduceAdd, Nat.zero_add]
      simp only [q0, q1, q2, q3, q4, q5, q6, q7]
      clear q0 q1 q2 q3 q4 q5 q6 q7 vs
    go_wp2_with fail
    refine (log_Commit b G g from_ slot HO.out.2.1 HO.out.2.2.1 c s k key bt.toNat id HO.out.2.2.2.2 _ (XL.out _ (by (repeat (first | with_reducible (first | exact Ext.refl _ _ | assumption | refine Ext.upN ?_ | refine Ext.alloc ?_ _ | refine Ext.drew ?_ | refine Ext.drewN ?_ _ | refine Ext.up1N (by first | omega | simp) ?_) | refine Ext.alloc ?_ _ | refine Ext.setCell ?_ (.inr (by first | omega | simp)) _))))).mono ?_
    rintro e w2 ⟨rfl, G', hL, hG, hx⟩
    have X1 : Ext Non w x2.on := by (repeat (first | with_reducible (first | exact Ext.refl _ _ | assumption | refine Ext.upN ?_ | refine Ext.alloc ?_ _ | refine Ext.drew ?_ | refine Ext.drewN ?_ _ | refine Ext.up1N (by first | omega | simp) ?_) | refine Ext.alloc ?_ _ | refine Ext.setCell ?_ (.inr (by first | omega | simp)) _))
    have FIN := Go.Lib.hid (And.intro hL (And.intro hG (X1.ofNon.trans (hx))))
    have hs := X1.size
    clear hL hG hx
    go_wp2
    go_ret
    exact ⟨ret_int DE0.out.symm, G', by rw [DG0.out]; exact FIN.out.1, fun k hk => (FIN.out.2.1 k hk).imp (fun h => h) (fun h => by omega), FIN.out.2.2⟩
end Go.Proofs.Ytakbkpklfihfiaa

/- A row of steps, as it comes in. -/
namespace Go.Proofs.Ytakbkpklfihfiaa
open Go.RowKit Go.ChangeShapes Go.WideShapes
set_option linter.unusedSimpArgs false
set_option linter.unusedVariables false
instance : Inhabited Stp := ⟨⟨0, 0, 0, 0, 0, 0, 0, ByteArray.empty, 0, 0, false⟩⟩
def stAt (l : List Stp) (j : Nat) : Stp := l.getD j default
theorem stAt_get {l : List Stp} {j : Nat} (h : j < l.length) : stAt l j = l[j] := by simp [stAt, List.getElem?_eq_getElem h]
structure Stps (w : World) (a : Option Addr) (cap : Nat) (l : List Stp) : Prop where
  le : l.length ≤ cap
  small : cap ≤ 9223372036854775807
  at_ : ∀ j (h : j < l.length), ∃ b o, a = some ⟨b, o, none⟩ ∧ b < w.heap.size ∧ (∀ i v, (stAt l j).cells[i]? = some v → w.cell? ⟨b, o + j * 11 + i, none⟩ = some v) ∧ (stAt l j).ok
theorem Stps.extN {w w' : World} {a : Option Addr} {cap : Nat} {l : List Stp} (h : Stps w a cap l) (x : Ext Non w w') : Stps w' a cap l :=
  ⟨h.le, h.small, fun j hj => by
    obtain ⟨b, o, e, hb, c, r⟩ := h.at_ j hj
    exact ⟨b, o, e, Nat.lt_of_lt_of_le hb x.size, fun i v hv => (x.cell (p := ⟨b, o + j * 11 + i, none⟩) hb (fun f => f)).trans (c i v hv), r⟩⟩
section
variable {H : Type} {enc : TypeId × Value → H} {W : World} {base n : Nat} {spare : Nat → Bool} {held : Bool}
theorem read_ops14 {cs : List Value} {x : DataW H × List MemPlace} (h : DataW.trod enc Try.prog W base spare held n 69 cs = some x) : ∃ a cap l, cs = [.slice a (l : List Stp).length cap] ∧ Stps W a cap l := by
  obtain ⟨a, len, cap, rfl, hl, hc, hm, hn, F, hF⟩ := read_slice (α := Stp) (k := 11) (fun q cs => cs = q.cells ∧ q.ok) Try.underlying69 c_op14 (fun m cs y hy => read_op14 hy) h
  have hlen : ((List.range len).map F).length = len := by simp
  refine ⟨a, cap, (List.range len).map F, by rw [hlen], ⟨by rw [hlen]; exact hc, by unfold maxLen at hm; omega, fun j hj => ?_⟩⟩
  have hj' : j < len := by rw [hlen] at hj; exact hj
  obtain ⟨cs', ⟨rfl, w1⟩, hlc, hcell⟩ := hF j hj'
  obtain ⟨b, o, rfl, hcc⟩ := hcell (by omega)
  have e : stAt ((List.range len).map F) j = F j := by rw [stAt_get hj]; simp
  rw [e]
  refine ⟨b, o, rfl, lt_of_cell (hcc 0 (by rw [hlc]; omega)), fun i v hv => ?_, w1⟩
  obtain ⟨hi, rfl⟩ := List.getElem?_eq_some_iff.1 hv
  exact hcc i hi
set_option maxRecDepth 100000 in
theorem arg_ops14 {v : Value} {d : DataW H} {p : List MemPlace} {b0 : Nat} {r : Reach} (ok : Value.okWide Try.prog W r b0 69 v) (h : DataW.Trod enc Try.prog W base spare held 69 v d p) :
    ∃ (a : Option Addr) (cap : Nat) (l : List Stp), v = .slice a l.length cap ∧ Stps W a cap l := by
  obtain ⟨n, x, hx⟩ := arg_slice Try.underlying69 ok h
  obtain ⟨a, cap, l, e, hc⟩ := read_ops14 hx
  simp at e
  exact ⟨a, cap, l, e, hc⟩
end
end Go.Proofs.Ytakbkpklfihfiaa
