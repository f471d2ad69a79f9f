/- The law ChangeMore: the walk. -/
import Derived.Test.YtakbkpklfihfiaaLaws16
import Derived.Test.YtakbkpklfihfiaaMoreP
namespace Go.Proofs.Ytakbkpklfihfiaa
open Go.RowKit Go.Lib F64
set_option linter.unusedSimpArgs false
set_option linter.unusedVariables false
attribute [local go_sem] run_store_float
attribute [local go_sem low] EW.cellN EW.frozN alloc_cell_or alloc_froz_or EW.cellF EW.frozF EW.cell1 EW.froz1
attribute [local go_sem] relAt relUpon
theorem Chs.pre {w : World} {a : Option Addr} {cap : Nat} {l : List Ch} (h : Chs w a cap l) (k : Nat) (hk : k ≤ l.length) : Chs w a cap (l.take k) :=
  ⟨by simp; have := h.le; omega, h.small, fun j hj => by
    have hj' : j < k ∧ j < l.length := by simp at hj; omega
    have e : chAt (l.take k) j = chAt l j := by rw [chAt_get hj, chAt_get hj'.2]; simp
    rw [e]; exact h.at_ j hj'.2⟩
def anyN (slot : Int) (cs : List Ct) : Bool := cs.any (fun c => c.slot == slot)
theorem anyN_snoc (slot : Int) (cs : List Ct) (n : Nat) (h : n < cs.length) : anyN slot (cs.take (n + 1)) = (anyN slot (cs.take n) || ((ctAt cs n).slot == slot)) := by
  unfold anyN
  rw [List.take_succ_eq_append_getElem h, ctAt_get h, List.any_append]; simp only [List.any_cons, List.any_nil, Bool.or_false]
theorem anyN_false {slot : Int} {cs : List Ct} (h : anyN slot cs = false) : ∀ x ∈ cs, x.slot ≠ slot := fun x hx e => by
  unfold anyN at h
  rw [List.any_eq_false] at h
  exact h x hx (by simp [e])
theorem pickR_get (ep : Int) (l : List Ch) (i : Nat) (h : i < (pickR ep l).length) : (pickR ep l)[i] = reqOf (bestC (slotN ep i) (l.flatMap (·.certs))) := by simp [pickR]
theorem more_law (ep : Int) (l : List Ch) (k : Nat) (hk : l.length = k + 1) : (pickR ep (l.take k)).length ≤ (pickR ep l).length ∧
    ∀ i (h : i < (pickR ep l).length), anyN (slotN ep i) (chAt l k).certs = false → (∀ h0 : i < (pickR ep (l.take k)).length, wholeB (pickR ep l)[i] (pickR ep (l.take k))[i] = true) ∧ ((pickR ep (l.take k)).length ≤ i → wholeB (pickR ep l)[i] nullR = true) := by
  have e : l.flatMap (·.certs) = (l.take k).flatMap (·.certs) ++ (chAt l k).certs := by
    have hl : k < l.length := by omega
    conv => lhs; rw [show l = l.take k ++ [l[k]] by rw [← List.take_succ_eq_append_getElem hl, List.take_of_length_le (by omega)]]
    rw [chAt_get hl, List.flatMap_append]; simp only [List.flatMap_cons, List.flatMap_nil, List.append_nil]
  refine ⟨by rw [pickR_length, pickR_length, e]; exact lastC_mono _ _ _, fun i h ha => ?_⟩
  have h4 : i < 4 := by rw [pickR_length] at h; have := lastC_le ep (l.flatMap (·.certs)); omega
  have eb : bestC (slotN ep i) (l.flatMap (·.certs)) = bestC (slotN ep i) ((l.take k).flatMap (·.certs)) := by
    rw [e, bestC_append, fold_other _ _ _ (anyN_false ha)]
  refine ⟨fun h0 => ?_, fun h0 => ?_⟩
  · rw [pickR_get, pickR_get, eb]; exact wholeB_self _
  · rw [pickR_get, eb, lastC_none ep _ i (by rw [pickR_length] at h0; exact h0) h4]; exact wholeB_self _
def moP (pl : List Req) (te : Int) : Mo := ⟨fun v w => ∃ ra rc, v = .tuple #[.slice ra pl.length rc, .int .i64 te] ∧ Reqs w ra rc pl, fun _ _ _ x ⟨g, c, e, h⟩ => ⟨g, c, e, h.extN x⟩⟩
def moR (pl : List Req) : Mo := ⟨fun v w => ∃ ra rc, v = .slice ra pl.length rc ∧ Reqs w ra rc pl, fun _ _ _ x ⟨g, c, e, h⟩ => ⟨g, c, e, h.extN x⟩⟩
theorem zero_req (w : World) : (zeroValue 49).run Try.prog w = .ok (.agg #[.int .i64 0, .int .i64 0, .int .i64 0, .string ByteArray.empty, .float .f64 0, .int .i64 0]) w := by kernel_rfl
theorem info_req6 : (Try.prog.info? 49).map (·.size) = some 6 := by kernel_rfl
set_option maxHeartbeats 4000000 in
set_option maxRecDepth 100000 in
theorem walk_ChangeMore (ep : Int) (a : Option Addr) (cap : Nat) (xs : List Int) (view : Int) (la : Option Addr) (lcap : Nat) (l : List Ch) (hie : I64 ep) (w : World) (hi : Ints w a cap xs) (h : Chs w la lcap l) :
    Calls Try.prog 8 #[.agg #[.int .i64 ep, .slice a xs.length cap], .int .i64 view, .slice la l.length lcap] w fun e w' => e = .returned (.bool true) ∧ Ext Non w w' := by
  have HH := Go.Lib.hid h; have HX := Go.Lib.hid hi; have HI := Go.Lib.hid hie
  have hsm := h.small; have hsl := h.le
  clear h hi hie
  rcases Nat.eq_zero_or_pos l.length with hz | hz
  · as_aux_lemma =>
    have hb : ((l.length : Int) == 0) = true := by simp [hz]
    clear hz
    go_enter Try.func8, Try.ntmps8
    go_wp2_with fail
    refine Calls.ew (law16_lives _) ?_
    rintro e x1 rfl
    go_wp2
    go_ret
    exact ⟨rfl, by (repeat (first | with_reducible exact Ext.refl _ _ | assumption | with_reducible refine Ext.upN ?_ | with_reducible refine Ext.alloc ?_ _ | with_reducible refine Ext.upA (by assumption) ?_ | with_reducible refine Ext.upW ?_ | with_reducible refine Ext.drew ?_ | with_reducible refine Ext.drewN ?_ _ | with_reducible refine Ext.upF ?_ | with_reducible refine Ext.upFF (by first | omega | simp) ?_ | with_reducible refine Ext.setCellsF _ _ _ (by first | omega | simp) ?_ | with_reducible refine Ext.setCellF _ _ _ (by first | omega | simp) ?_ | with_reducible refine Ext.upFN (by first | omega | simp) ?_ | with_reducible refine Ext.up1F (by first | omega | simp) ?_ | with_reducible refine Ext.up1N (by first | omega | simp) ?_ | with_reducible refine Ext.setCell ?_ (.inr (by first | omega | simp)) _ | refine Ext.alloc ?_ _ | refine Ext.setCellF _ _ _ (by first | omega | simp) ?_ | refine Ext.setCell ?_ (.inr (by first | omega | simp)) _))⟩
  · obtain ⟨k, hk⟩ : ∃ k, l.length = k + 1 := ⟨l.length - 1, by omega⟩
    have HK := Go.Lib.hid hk
    have hb : ((l.length : Int) == 0) = false := by rw [beq_eq_false_iff_ne]; omega
    have hw : IntKind.i64.wrap ((l.length : Int) - 1) = (k : Int) := by rw [show (l.length : Int) - 1 = (k : Int) by omega]; exact IntWalk.i64_in _ (by omega)
    have hkl : k < l.length := by omega
    have hkc : k ≤ lcap := by omega
    have HM := Go.Lib.hid (more_law ep l k hk)
    have CK1 := Go.Lib.hid (fun h => check_parts (ep := ep) (xs := xs) (view := view) (l := l) h)
    have P0 : Hid (∀ w', Ints w' a cap xs → Chs w' la lcap l → Calls Try.prog 19 #[.agg #[.int .i64 ep, .slice a xs.length cap], .int .i64 view, .slice la k lcap] w' fun e w'' => ∃ ra rc, e = .returned (.tuple #[.slice ra (pickL ep xs view (l.take k)).length rc, .int .i64 (checkE ep xs view (l.take k))]) ∧ Reqs w'' ra rc (pickL ep xs view (l.take k)) ∧ Ext Non w' w'') := Go.Lib.hid (fun w' h1 h2 => by
      have := change_Pick ep a cap xs view la lcap (l.take k) HI.out w' h1 (h2.pre k (by omega))
      rw [show (l.take k).length = k by simp; omega] at this
      refine this.mono ?_
      rintro e w'' ⟨v, rfl, hO, hx⟩
      obtain ⟨ra, rc, rfl, hR⟩ := reqs_of_own hO
      exact ⟨ra, rc, rfl, hR, hx⟩)
    have P1 : Hid (∀ w', Ints w' a cap xs → Chs w' la lcap l → Calls Try.prog 19 #[.agg #[.int .i64 ep, .slice a xs.length cap], .int .i64 view, .slice la l.length lcap] w' fun e w'' => ∃ ra rc, e = .returned (.tuple #[.slice ra (pickL ep xs view l).length rc, .int .i64 (checkE ep xs view l)]) ∧ Reqs w'' ra rc (pickL ep xs view l) ∧ Ext Non w' w'') := Go.Lib.hid (fun w' h1 h2 => by
      have := change_Pick ep a cap xs view la lcap l HI.out w' h1 h2
      refine this.mono ?_
      rintro e w'' ⟨v, rfl, hO, hx⟩
      obtain ⟨ra, rc, rfl, hR⟩ := reqs_of_own hO
      exact ⟨ra, rc, rfl, hR, hx⟩)
    have D0 : Hid (checkE ep xs view (l.take k) = 0 → pickL ep xs view (l.take k) = pickR ep (l.take k)) := Go.Lib.hid (fun h => if_pos h)
    have D1 : Hid (checkE ep xs view l = 0 → pickL ep xs view l = pickR ep l) := Go.Lib.hid (fun h => if_pos h)
    generalize checkE ep xs view (l.take k) = te0 at *
    generalize checkE ep xs view l = te1 at *
    generalize pickL ep xs view (l.take k) = pl0 at *
    generalize pickL ep xs view l = pl1 at *
    obtain ⟨lb, lo, ca, ccap, rfl, hlb, hrow, hcs, -⟩ := HH.out.at_ k (by omega)
    have HCs := Go.Lib.hid hcs
    have hcsm := hcs.small; have hcsl := hcs.le
    generalize hcc : chAt l k = cc at *
    obtain ⟨cf, cv, certs, cy, ct⟩ := cc
    have r2 : w.cell? ⟨lb, lo + k * 5 + 2, none⟩ = some (.slice ca certs.length ccap) := hrow 2 _ rfl
    clear hcc hrow hcs hz hk
    go_enter Try.func8, Try.ntmps8
    go_wp2_with fail
    refine Calls.ew (law16_lives _) ?_
    rintro e x1 rfl
    go_upto_region 6 with fail
    apply wp_region_rel (relR [Mo.is _, Mo.is _, Mo.is _, Mo.is _, Mo.is _, moP pl0 te0, moP pl0 te0, moR pl0, Mo.is _, moR pl0, Mo.is _]) (by kernel_rfl) (by kernel_rfl) (by kernel_rfl) (relR_mono _) (StepD.all ?st) ?q
    case st =>
      refine ⟨?_, ?_, ?_, ?_, ?_, ?_, ?_, ?_, ?_, ?_, ?_, trivial⟩
      · intro a' w' hx hs hd
        obtain ⟨y, rfl⟩ := hx.ew
        have e3 : a'.tmps[3]?.getD undef = _ := hs 3 rfl
        simp only [List.getElem?_toArray, List.getElem?_cons_succ, List.getElem?_cons_zero, Option.getD_some, Array.getElem?_eq_some_iff] at e3
        refine .inl ⟨rfl, ?_⟩
        clear hs hd hx
        go_simp
        exact ⟨Ext.refl _ _, rfl⟩
      · intro a' w' hx hs hd
        obtain ⟨y, rfl⟩ := hx.ew
        have e1 : a'.tmps[1]?.getD undef = _ := hs 1 rfl
        simp only [List.getElem?_toArray, List.getElem?_cons_succ, List.getElem?_cons_zero, Option.getD_some, Array.getElem?_eq_some_iff] at e1
        refine .inl ⟨rfl, ?_⟩
        clear hs hd hx
        go_simp
        exact ⟨Ext.refl _ _, rfl⟩
      · intro a' w' hx hs hd
        obtain ⟨y, rfl⟩ := hx.ew
        have e2 : a'.tmps[2]?.getD undef = _ := hs 2 rfl
        simp only [List.getElem?_toArray, List.getElem?_cons_succ, List.getElem?_cons_zero, Option.getD_some, Array.getElem?_eq_some_iff] at e2
        refine .inl ⟨rfl, ?_⟩
        clear hs hd hx
        go_simp
        exact ⟨Ext.refl _ _, rfl⟩
      · intro a' w' hx hs hd
        obtain ⟨y, rfl⟩ := hx.ew
        have e7 : a'.tmps[7]?.getD undef = _ := hs 7 rfl
        simp only [List.getElem?_toArray, List.getElem?_cons_succ, List.getElem?_cons_zero, Option.getD_some, Array.getElem?_eq_some_iff] at e7
        refine .inl ⟨rfl, ?_⟩
        clear hs hd hx
        go_simp
        exact ⟨Ext.refl _ _, rfl⟩
      · intro a' w' hx hs hd
        obtain ⟨y, rfl⟩ := hx.ew
        have e27 : a'.tmps[27]?.getD undef = _ := hd 2 27 rfl rfl
        have e28 : a'.tmps[28]?.getD undef = _ := hd 3 28 rfl rfl
        refine .inl ⟨rfl, ?_⟩
        clear hs hd hx
        go_simp
        exact ⟨Ext.refl _ _, rfl⟩
      · intro a' w' hx hs hd
        obtain ⟨y, rfl⟩ := hx.ew
        have e25 : a'.tmps[25]?.getD undef = _ := hd 0 25 rfl rfl
        have e26 : a'.tmps[26]?.getD undef = _ := hd 1 26 rfl rfl
        have e29 : a'.tmps[29]?.getD undef = _ := hd 4 29 rfl rfl
        refine .inl ⟨rfl, ?_⟩
        clear hs hd hx
        go_simp
        exact (P0.out _ (HX.out.extN (by (repeat (first | with_reducible exact Ext.refl _ _ | assumption | with_reducible refine Ext.upN ?_ | with_reducible refine Ext.alloc ?_ _ | with_reducible refine Ext.upA (by assumption) ?_ | with_reducible refine Ext.upW ?_ | with_reducible refine Ext.drew ?_ | with_reducible refine Ext.drewN ?_ _ | with_reducible refine Ext.upF ?_ | with_reducible refine Ext.upFF (by first | omega | simp) ?_ | with_reducible refine Ext.setCellsF _ _ _ (by first | omega | simp) ?_ | with_reducible refine Ext.setCellF _ _ _ (by first | omega | simp) ?_ | with_reducible refine Ext.upFN (by first | omega | simp) ?_ | with_reducible refine Ext.up1F (by first | omega | simp) ?_ | with_reducible refine Ext.up1N (by first | omega | simp) ?_ | with_reducible refine Ext.setCell ?_ (.inr (by first | omega | simp)) _ | refine Ext.alloc ?_ _ | refine Ext.setCellF _ _ _ (by first | omega | simp) ?_ | refine Ext.setCell ?_ (.inr (by first | omega | simp)) _)))) (HH.out.extN (by (repeat (first | with_reducible exact Ext.refl _ _ | assumption | with_reducible refine Ext.upN ?_ | with_reducible refine Ext.alloc ?_ _ | with_reducible refine Ext.upA (by assumption) ?_ | with_reducible refine Ext.upW ?_ | with_reducible refine Ext.drew ?_ | with_reducible refine Ext.drewN ?_ _ | with_reducible refine Ext.upF ?_ | with_reducible refine Ext.upFF (by first | omega | simp) ?_ | with_reducible refine Ext.setCellsF _ _ _ (by first | omega | simp) ?_ | with_reducible refine Ext.setCellF _ _ _ (by first | omega | simp) ?_ | with_reducible refine Ext.upFN (by first | omega | simp) ?_ | with_reducible refine Ext.up1F (by first | omega | simp) ?_ | with_reducible refine Ext.up1N (by first | omega | simp) ?_ | with_reducible refine Ext.setCell ?_ (.inr (by first | omega | simp)) _ | refine Ext.alloc ?_ _ | refine Ext.setCellF _ _ _ (by first | omega | simp) ?_ | refine Ext.setCell ?_ (.inr (by first | omega | simp)) _))))).mono (fun e w'' ⟨ra, rc, he, hR, hx⟩ => ⟨_, he, hx, ra, rc, rfl, hR⟩)
      · intro a' w' hx hs hd
        obtain ⟨y, rfl⟩ := hx.ew
        obtain ⟨ra, rc, e30, hR⟩ : ∃ ra rc, a'.tmps[30]?.getD undef = .tuple #[.slice ra pl0.length rc, .int .i64 te0] ∧ Reqs y.on ra rc pl0 := hd 5 30 rfl rfl
        refine .inl ⟨rfl, ?_⟩
        clear hs hd hx
        go_simp
        exact ⟨Ext.refl _ _, ra, rc, rfl, hR⟩
      · intro a' w' hx hs hd
        obtain ⟨y, rfl⟩ := hx.ew
        obtain ⟨ra, rc, e24, hR⟩ : ∃ ra rc, a'.tmps[24]?.getD undef = .tuple #[.slice ra pl0.length rc, .int .i64 te0] ∧ Reqs y.on ra rc pl0 := hd 6 24 rfl rfl
        refine .inl ⟨rfl, ?_⟩
        clear hs hd hx
        go_simp
        exact ⟨Ext.refl _ _, ra, rc, rfl, hR⟩
      · intro a' w' hx hs hd
        obtain ⟨y, rfl⟩ := hx.ew
        obtain ⟨ra, rc, e24, hR⟩ : ∃ ra rc, a'.tmps[24]?.getD undef = .tuple #[.slice ra pl0.length rc, .int .i64 te0] ∧ Reqs y.on ra rc pl0 := hd 6 24 rfl rfl
        refine .inl ⟨rfl, ?_⟩
        clear hs hd hx
        go_simp
        exact ⟨Ext.refl _ _, rfl⟩
      · intro a' w' hx hs hd
        obtain ⟨y, rfl⟩ := hx.ew
        obtain ⟨ra, rc, e31, hR⟩ : ∃ ra rc, a'.tmps[31]?.getD undef = .slice ra pl0.length rc ∧ Reqs y.on ra rc pl0 := hd 7 31 rfl rfl
        refine .inl ⟨rfl, ?_⟩
        clear hs hd hx
        go_simp
        exact ⟨Ext.refl _ _, ra, rc, rfl, hR⟩
      · intro a' w' hx hs hd
        obtain ⟨y, rfl⟩ := hx.ew
        have e32 : a'.tmps[32]?.getD undef = _ := hd 8 32 rfl rfl
        refine .inl ⟨rfl, ?_⟩
        clear hs hd hx
        go_simp
        exact ⟨Ext.refl _ _, rfl⟩
    case' q =>
      intro vs w' hx hRR
      obtain ⟨x2, rfl⟩ := hx.ew
      have q0 : vs 0 = _ := hRR 0 (by decide)
      have q1 : vs 1 = _ := hRR 1 (by decide)
      have q2 : vs 2 = _ := hRR 2 (by decide)
      have q3 : vs 3 = _ := hRR 3 (by decide)
      have q4 : vs 4 = _ := hRR 4 (by decide)
      obtain ⟨ra, rc, q5, hR⟩ : ∃ ra rc, vs 5 = .tuple #[.slice ra pl0.length rc, .int .i64 te0] ∧ Reqs x2.on ra rc pl0 := hRR 5 (by decide)
      obtain ⟨ra, rc, q6, hR⟩ : ∃ ra rc, vs 6 = .tuple #[.slice ra pl0.length rc, .int .i64 te0] ∧ Reqs x2.on ra rc pl0 := hRR 6 (by decide)
      obtain ⟨ra, rc, q7, hR⟩ : ∃ ra rc, vs 7 = .slice ra pl0.length rc ∧ Reqs x2.on ra rc pl0 := hRR 7 (by decide)
      have q8 : vs 8 = _ := hRR 8 (by decide)
      obtain ⟨ra, rc, q9, hR⟩ : ∃ ra rc, vs 9 = .slice ra pl0.length rc ∧ Reqs x2.on ra rc pl0 := hRR 9 (by decide)
      have q10 : vs 10 = _ := hRR 10 (by decide)
      clear hRR hx
      simp only [putAll, List.take_succ_cons, List.take_zero, List.drop_succ_cons, List.drop_zero, Act.put, List.setIfInBounds_toArray, List.set_cons_zero, List.set_cons_succ, Nat.reduceAdd, Nat.zero_add]
      simp only [q0, q1, q2, q3, q4, q5, q6, q7, q8, q9, q10]
      clear q0 q1 q2 q3 q4 q5 q6 q7 q8 q9 q10 vs
    have HR0 := Go.Lib.hid hR
    clear hR
    go_wp2_with fail
    refine (P1.out _ (HX.out.extN (by (repeat (first | with_reducible exact Ext.refl _ _ | assumption | with_reducible refine Ext.upN ?_ | with_reducible refine Ext.alloc ?_ _ | with_reducible refine Ext.upA (by assumption) ?_ | with_reducible refine Ext.upW ?_ | with_reducible refine Ext.drew ?_ | with_reducible refine Ext.drewN ?_ _ | with_reducible refine Ext.upF ?_ | with_reducible refine Ext.upFF (by first | omega | simp) ?_ | with_reducible refine Ext.setCellsF _ _ _ (by first | omega | simp) ?_ | with_reducible refine Ext.setCellF _ _ _ (by first | omega | simp) ?_ | with_reducible refine Ext.upFN (by first | omega | simp) ?_ | with_reducible refine Ext.up1F (by first | omega | simp) ?_ | with_reducible refine Ext.up1N (by first | omega | simp) ?_ | with_reducible refine Ext.setCell ?_ (.inr (by first | omega | simp)) _ | refine Ext.alloc ?_ _ | refine Ext.setCellF _ _ _ (by first | omega | simp) ?_ | refine Ext.setCell ?_ (.inr (by first | omega | simp)) _)))) (HH.out.extN (by (repeat (first | with_reducible exact Ext.refl _ _ | assumption | with_reducible refine Ext.upN ?_ | with_reducible refine Ext.alloc ?_ _ | with_reducible refine Ext.upA (by assumption) ?_ | with_reducible refine Ext.upW ?_ | with_reducible refine Ext.drew ?_ | with_reducible refine Ext.drewN ?_ _ | with_reducible refine Ext.upF ?_ | with_reducible refine Ext.upFF (by first | omega | simp) ?_ | with_reducible refine Ext.setCellsF _ _ _ (by first | omega | simp) ?_ | with_reducible refine Ext.setCellF _ _ _ (by first | omega | simp) ?_ | with_reducible refine Ext.upFN (by first | omega | simp) ?_ | with_reducible refine Ext.up1F (by first | omega | simp) ?_ | with_reducible refine Ext.up1N (by first | omega | simp) ?_ | with_reducible refine Ext.setCell ?_ (.inr (by first | omega | simp)) _ | refine Ext.alloc ?_ _ | refine Ext.setCellF _ _ _ (by first | omega | simp) ?_ | refine Ext.setCell ?_ (.inr (by first | omega | simp)) _))))).mono ?_
    rintro e _ ⟨rb1, rc1, rfl, hR, hx⟩
    obtain ⟨x3, rfl⟩ := hx.ew
    have HR1 := Go.Lib.hid hR
    clear hR hx
    by_cases h0 : te0 = 0
    · by_cases h1 : te1 = 0
      · subst h0; subst h1
        obtain ⟨hep0, hep1⟩ := conf_ep (CK1.out rfl).1
        have M := HM.out
        rw [← D0.out rfl, ← D1.out rfl] at M
        obtain ⟨ML, MW⟩ := M
        have HMW := Go.Lib.hid MW
        have M4 : pl1.length ≤ 4 := by rw [D1.out rfl, pickR_length]; exact lastC_le _ _
        clear MW HM D0 D1 CK1 P0 P1
        have hd : decide ((pl1.length : Int) < (pl0.length : Int)) = false := by rw [decide_eq_false_iff_not]; omega
        go_wp2_with fail
        go_loopw [12] (fun iv wr => ∃ (i : Nat) (z : EW Non x3.on), i ≤ pl1.length ∧ iv = .int .i64 i ∧ wr = z.on) (fun iv _ => pl1.length - (intOf iv).toNat)
        case atStart => exact ⟨0, ⟨_, by (repeat (first | with_reducible exact Ext.refl _ _ | assumption | with_reducible refine Ext.upN ?_ | with_reducible refine Ext.alloc ?_ _ | with_reducible refine Ext.upA (by assumption) ?_ | with_reducible refine Ext.upW ?_ | with_reducible refine Ext.drew ?_ | with_reducible refine Ext.drewN ?_ _ | with_reducible refine Ext.upF ?_ | with_reducible refine Ext.upFF (by first | omega | simp) ?_ | with_reducible refine Ext.setCellsF _ _ _ (by first | omega | simp) ?_ | with_reducible refine Ext.setCellF _ _ _ (by first | omega | simp) ?_ | with_reducible refine Ext.upFN (by first | omega | simp) ?_ | with_reducible refine Ext.up1F (by first | omega | simp) ?_ | with_reducible refine Ext.up1N (by first | omega | simp) ?_ | with_reducible refine Ext.setCell ?_ (.inr (by first | omega | simp)) _ | refine Ext.alloc ?_ _ | refine Ext.setCellF _ _ _ (by first | omega | simp) ?_ | refine Ext.setCell ?_ (.inr (by first | omega | simp)) _))⟩, Nat.zero_le _, rfl, rfl⟩
        case round =>
          obtain ⟨i, z, hi, rfl, rfl⟩ := hrel
          by_cases hlt : i < pl1.length
          · have HMi := Go.Lib.hid (HMW.out i hlt)
            obtain ⟨b1, o1, rfl, hb1, k1⟩ := HR1.out.at_ i hlt
            generalize hq1 : pl1[i] = q1 at *
            obtain ⟨rc, rs, ⟨rk, rkey, rx, rid⟩⟩ := q1
            clear hq1
            have p0 : x3.on.cell? ⟨b1, o1 + i * 6, none⟩ = some (.int .i64 rc) := k1 0 _ rfl
            have p1 : x3.on.cell? ⟨b1, o1 + i * 6 + 1, none⟩ = some (.int .i64 rs) := k1 1 _ rfl
            have p2 : x3.on.cell? ⟨b1, o1 + i * 6 + 2, none⟩ = some (.int .i64 rk) := k1 2 _ rfl
            have p3 : x3.on.cell? ⟨b1, o1 + i * 6 + 3, none⟩ = some (.string rkey) := k1 3 _ rfl
            have p4 : x3.on.cell? ⟨b1, o1 + i * 6 + 4, none⟩ = some (.float .f64 rx) := k1 4 _ rfl
            have p5 : x3.on.cell? ⟨b1, o1 + i * 6 + 5, none⟩ = some (.int .i64 rid) := k1 5 _ rfl
            clear k1
            have hw4 : IntKind.i64.wrap (4 * ep) = 4 * ep := IntWalk.i64_in _ (by omega)
            have hw5 : IntKind.i64.wrap (4 * ep + 1) = 4 * ep + 1 := IntWalk.i64_in _ (by omega)
            have hw6 : IntKind.i64.wrap (4 * ep + 1 + (i : Int)) = 4 * ep + 1 + (i : Int) := IntWalk.i64_in _ (by omega)
            go_wp2_with fail
            go_loopw [13, 14] (fun hv nv wr => ∃ (n : Nat) (z2 : EW Non z.on), n ≤ certs.length ∧ hv = .bool (anyN (slotN ep i) (certs.take n)) ∧ nv = .int .i64 n ∧ wr = z2.on) (fun _ nv _ => certs.length - (intOf nv).toNat)
            case atStart => exact ⟨0, ⟨_, by (repeat (first | with_reducible exact Ext.refl _ _ | assumption | with_reducible refine Ext.upN ?_ | with_reducible refine Ext.alloc ?_ _ | with_reducible refine Ext.upA (by assumption) ?_ | with_reducible refine Ext.upW ?_ | with_reducible refine Ext.drew ?_ | with_reducible refine Ext.drewN ?_ _ | with_reducible refine Ext.upF ?_ | with_reducible refine Ext.upFF (by first | omega | simp) ?_ | with_reducible refine Ext.setCellsF _ _ _ (by first | omega | simp) ?_ | with_reducible refine Ext.setCellF _ _ _ (by first | omega | simp) ?_ | with_reducible refine Ext.upFN (by first | omega | simp) ?_ | with_reducible refine Ext.up1F (by first | omega | simp) ?_ | with_reducible refine Ext.up1N (by first | omega | simp) ?_ | with_reducible refine Ext.setCell ?_ (.inr (by first | omega | simp)) _ | refine Ext.alloc ?_ _ | refine Ext.setCellF _ _ _ (by first | omega | simp) ?_ | refine Ext.setCell ?_ (.inr (by first | omega | simp)) _))⟩, Nat.zero_le _, rfl, rfl, rfl⟩
            case round =>
              obtain ⟨n, z2, hn, rfl, rfl, rfl⟩ := hrel
              by_cases hnl : n < certs.length
              · obtain ⟨cb, co, sa, scap, rfl, hcb, hcells, -⟩ := HCs.out.at_ n hnl
                have c1 : w.cell? ⟨cb, co + n * 9 + 1, none⟩ = some (.int .i64 (ctAt certs n).slot) := hcells 1 _ rfl
                clear hcells
                have HA := Go.Lib.hid (anyN_snoc (slotN ep i) certs n hnl)
                generalize (ctAt certs n).slot = cs at *
                have HSl : Hid ((cs == slotN ep i) = (cs == 4 * ep + 1 + (i : Int))) := Go.Lib.hid rfl
                generalize anyN (slotN ep i) (certs.take n) = hv at *
                go_upto_region 19 with fail
                cases hs : (cs == 4 * ep + 1 + (i : Int)) <;> cases hh : hv
                all_goals
                  have HS := Go.Lib.hid hs
                  have HHv := Go.Lib.hid hh
                  (refine wp_region_ext_lit (by kernel_rfl) (by kernel_rfl) ?_; (repeat (go_big_quiet_step (fail))); refine wpQuiet_nil ?_; intro _ hw'; obtain ⟨xq, hw''⟩ := hw'; subst hw'')
                  go_wp2_with fail
                  go_roundw
                  case rel => exact ⟨n + 1, ⟨_, by (repeat (first | with_reducible exact Ext.refl _ _ | assumption | with_reducible refine Ext.upN ?_ | with_reducible refine Ext.alloc ?_ _ | with_reducible refine Ext.upA (by assumption) ?_ | with_reducible refine Ext.upW ?_ | with_reducible refine Ext.drew ?_ | with_reducible refine Ext.drewN ?_ _ | with_reducible refine Ext.upF ?_ | with_reducible refine Ext.upFF (by first | omega | simp) ?_ | with_reducible refine Ext.setCellsF _ _ _ (by first | omega | simp) ?_ | with_reducible refine Ext.setCellF _ _ _ (by first | omega | simp) ?_ | with_reducible refine Ext.upFN (by first | omega | simp) ?_ | with_reducible refine Ext.up1F (by first | omega | simp) ?_ | with_reducible refine Ext.up1N (by first | omega | simp) ?_ | with_reducible refine Ext.setCell ?_ (.inr (by first | omega | simp)) _ | refine Ext.alloc ?_ _ | refine Ext.setCellF _ _ _ (by first | omega | simp) ?_ | refine Ext.setCell ?_ (.inr (by first | omega | simp)) _))⟩, hnl, by rw [HA.out, HSl.out, HS.out, HHv.out]; rfl, by go_num, rfl⟩
                  case measure => simp [intOf]; omega
              · have hN : certs.take n = certs := List.take_of_length_le (by omega)
                have HN := Go.Lib.hid hN
                clear hN
                generalize hhv : anyN (slotN ep i) (certs.take n) = hv at *
                have HV : Hid (anyN (slotN ep i) certs = hv) := Go.Lib.hid (by rw [← hhv, HN.out])
                clear hhv
                by_cases hi0 : i < pl0.length
                · obtain ⟨b0, o0, rfl, hb0, k0⟩ := HR0.out.at_ i hi0
                  have HMw := Go.Lib.hid (fun hf => (HMi.out hf).1 hi0)
                  generalize hq0 : pl0[i] = q0 at *
                  obtain ⟨tc, ts, ⟨tk, tkey, tx, tid⟩⟩ := q0
                  clear hq0 HMi
                  have s0 : x2.on.cell? ⟨b0, o0 + i * 6, none⟩ = some (.int .i64 tc) := k0 0 _ rfl
                  have s1 : x2.on.cell? ⟨b0, o0 + i * 6 + 1, none⟩ = some (.int .i64 ts) := k0 1 _ rfl
                  have s2 : x2.on.cell? ⟨b0, o0 + i * 6 + 2, none⟩ = some (.int .i64 tk) := k0 2 _ rfl
                  have s3 : x2.on.cell? ⟨b0, o0 + i * 6 + 3, none⟩ = some (.string tkey) := k0 3 _ rfl
                  have s4 : x2.on.cell? ⟨b0, o0 + i * 6 + 4, none⟩ = some (.float .f64 tx) := k0 4 _ rfl
                  have s5 : x2.on.cell? ⟨b0, o0 + i * 6 + 5, none⟩ = some (.int .i64 tid) := k0 5 _ rfl
                  clear k0
                  go_upto_region 23 with (refine wpList_store_box rfl 49 _ _ rfl z2.on.heap.size _ [.int .i64 tc, .int .i64 ts, .int .i64 tk, .string tkey, .float .f64 tx, .int .i64 tid] _ rfl rfl (Bx.newAt _ _ _ _ rfl) rfl info_req6 (by simp [Value.oneCell']) (fun W hB => ?_); have BZ := Go.Lib.hid hB; clear hB)
                  simp only [Act.put]
                  have r0 : W.on.cell? ⟨z2.on.heap.size, 0, none⟩ = some (.int .i64 tc) := BZ.out.cell rfl
                  have r1 : W.on.cell? ⟨z2.on.heap.size, 1, none⟩ = some (.int .i64 ts) := BZ.out.cell rfl
                  have r2 : W.on.cell? ⟨z2.on.heap.size, 2, none⟩ = some (.int .i64 tk) := BZ.out.cell rfl
                  have r3 : W.on.cell? ⟨z2.on.heap.size, 3, none⟩ = some (.string tkey) := BZ.out.cell rfl
                  have r4 : W.on.cell? ⟨z2.on.heap.size, 4, none⟩ = some (.float .f64 tx) := BZ.out.cell rfl
                  have r5 : W.on.cell? ⟨z2.on.heap.size, 5, none⟩ = some (.int .i64 tid) := BZ.out.cell rfl
                  have hs1 : x3.on.heap.size ≤ z2.on.heap.size := by have h1 := z2.ext.size; have h2 := z.ext.size; omega
                  have n1 : ¬ b1 = z2.on.heap.size := by have h1 := z2.ext.size; have h2 := z.ext.size; have h3 : b1 < x3.on.heap.size := hb1; omega
                  generalize hwb : wholeB ⟨rc, rs, ⟨rk, rkey, rx, rid⟩⟩ ⟨tc, ts, ⟨tk, tkey, tx, tid⟩⟩ = tw at *
                  cases hh : hv
                  · as_aux_lemma =>
                    have htw : tw = true := HMw.out (by rw [HV.out]; exact hh)
                    subst htw
                    (refine wp_region_ext_lit (by kernel_rfl) (by kernel_rfl) ?_; (repeat (go_big_quiet_step ((go_at_call 22; exact Calls.ext_ofv (ref_Whole rc rs rk rkey rx rid tc ts tk tkey tx tid _) (congrArg Value.bool hwb))))); refine wpQuiet_nil ?_; intro _ hw'; obtain ⟨xq, hw''⟩ := hw'; subst hw'')
                    go_wp2_with fail
                    go_roundw
                    case rel => exact ⟨i + 1, ⟨_, by (repeat (first | with_reducible exact Ext.refl _ _ | assumption | with_reducible refine Ext.upN ?_ | with_reducible refine Ext.alloc ?_ _ | with_reducible refine Ext.upA (by assumption) ?_ | with_reducible refine Ext.upW ?_ | with_reducible refine Ext.drew ?_ | with_reducible refine Ext.drewN ?_ _ | with_reducible refine Ext.upF ?_ | with_reducible refine Ext.upFF (by first | omega | simp) ?_ | with_reducible refine Ext.setCellsF _ _ _ (by first | omega | simp) ?_ | with_reducible refine Ext.setCellF _ _ _ (by first | omega | simp) ?_ | with_reducible refine Ext.upFN (by first | omega | simp) ?_ | with_reducible refine Ext.up1F (by first | omega | simp) ?_ | with_reducible refine Ext.up1N (by first | omega | simp) ?_ | with_reducible refine Ext.setCell ?_ (.inr (by first | omega | simp)) _ | refine Ext.alloc ?_ _ | refine Ext.setCellF _ _ _ (by first | omega | simp) ?_ | refine Ext.setCell ?_ (.inr (by first | omega | simp)) _))⟩, hlt, by go_num, rfl⟩
                    case measure => simp [intOf]; omega
                  · as_aux_lemma =>
                    (refine wp_region_ext_lit (by kernel_rfl) (by kernel_rfl) ?_; (repeat (go_big_quiet_step (fail))); refine wpQuiet_nil ?_; intro _ hw'; obtain ⟨xq, hw''⟩ := hw'; subst hw'')
                    go_wp2_with fail
                    go_roundw
                    case rel => exact ⟨i + 1, ⟨_, by (repeat (first | with_reducible exact Ext.refl _ _ | assumption | with_reducible refine Ext.upN ?_ | with_reducible refine Ext.alloc ?_ _ | with_reducible refine Ext.upA (by assumption) ?_ | with_reducible refine Ext.upW ?_ | with_reducible refine Ext.drew ?_ | with_reducible refine Ext.drewN ?_ _ | with_reducible refine Ext.upF ?_ | with_reducible refine Ext.upFF (by first | omega | simp) ?_ | with_reducible refine Ext.setCellsF _ _ _ (by first | omega | simp) ?_ | with_reducible refine Ext.setCellF _ _ _ (by first | omega | simp) ?_ | with_reducible refine Ext.upFN (by first | omega | simp) ?_ | with_reducible refine Ext.up1F (by first | omega | simp) ?_ | with_reducible refine Ext.up1N (by first | omega | simp) ?_ | with_reducible refine Ext.setCell ?_ (.inr (by first | omega | simp)) _ | refine Ext.alloc ?_ _ | refine Ext.setCellF _ _ _ (by first | omega | simp) ?_ | refine Ext.setCell ?_ (.inr (by first | omega | simp)) _))⟩, hlt, by go_num, rfl⟩
                    case measure => simp [intOf]; omega
                · have HMw := Go.Lib.hid (fun hf => (HMi.out hf).2 (by omega))
                  clear HMi
                  go_upto_region 23 with fail
                  generalize hwb : wholeB ⟨rc, rs, ⟨rk, rkey, rx, rid⟩⟩ nullR = tw at *
                  cases hh : hv
                  · as_aux_lemma =>
                    have htw : tw = true := HMw.out (by rw [HV.out]; exact hh)
                    subst htw
                    (refine wp_region_ext_lit (by kernel_rfl) (by kernel_rfl) ?_; (repeat (go_big_quiet_step ((go_at_call 22; exact Calls.ext_ofv (ref_Whole rc rs rk rkey rx rid 0 0 0 ByteArray.empty 0 0 _) (congrArg Value.bool hwb))))); refine wpQuiet_nil ?_; intro _ hw'; obtain ⟨xq, hw''⟩ := hw'; subst hw'')
                    go_wp2_with fail
                    go_roundw
                    case rel => exact ⟨i + 1, ⟨_, by (repeat (first | with_reducible exact Ext.refl _ _ | assumption | with_reducible refine Ext.upN ?_ | with_reducible refine Ext.alloc ?_ _ | with_reducible refine Ext.upA (by assumption) ?_ | with_reducible refine Ext.upW ?_ | with_reducible refine Ext.drew ?_ | with_reducible refine Ext.drewN ?_ _ | with_reducible refine Ext.upF ?_ | with_reducible refine Ext.upFF (by first | omega | simp) ?_ | with_reducible refine Ext.setCellsF _ _ _ (by first | omega | simp) ?_ | with_reducible refine Ext.setCellF _ _ _ (by first | omega | simp) ?_ | with_reducible refine Ext.upFN (by first | omega | simp) ?_ | with_reducible refine Ext.up1F (by first | omega | simp) ?_ | with_reducible refine Ext.up1N (by first | omega | simp) ?_ | with_reducible refine Ext.setCell ?_ (.inr (by first | omega | simp)) _ | refine Ext.alloc ?_ _ | refine Ext.setCellF _ _ _ (by first | omega | simp) ?_ | refine Ext.setCell ?_ (.inr (by first | omega | simp)) _))⟩, hlt, by go_num, rfl⟩
                    case measure => simp [intOf]; omega
                  · as_aux_lemma =>
                    (refine wp_region_ext_lit (by kernel_rfl) (by kernel_rfl) ?_; (repeat (go_big_quiet_step (fail))); refine wpQuiet_nil ?_; intro _ hw'; obtain ⟨xq, hw''⟩ := hw'; subst hw'')
                    go_wp2_with fail
                    go_roundw
                    case rel => exact ⟨i + 1, ⟨_, by (repeat (first | with_reducible exact Ext.refl _ _ | assumption | with_reducible refine Ext.upN ?_ | with_reducible refine Ext.alloc ?_ _ | with_reducible refine Ext.upA (by assumption) ?_ | with_reducible refine Ext.upW ?_ | with_reducible refine Ext.drew ?_ | with_reducible refine Ext.drewN ?_ _ | with_reducible refine Ext.upF ?_ | with_reducible refine Ext.upFF (by first | omega | simp) ?_ | with_reducible refine Ext.setCellsF _ _ _ (by first | omega | simp) ?_ | with_reducible refine Ext.setCellF _ _ _ (by first | omega | simp) ?_ | with_reducible refine Ext.upFN (by first | omega | simp) ?_ | with_reducible refine Ext.up1F (by first | omega | simp) ?_ | with_reducible refine Ext.up1N (by first | omega | simp) ?_ | with_reducible refine Ext.setCell ?_ (.inr (by first | omega | simp)) _ | refine Ext.alloc ?_ _ | refine Ext.setCellF _ _ _ (by first | omega | simp) ?_ | refine Ext.setCell ?_ (.inr (by first | omega | simp)) _))⟩, hlt, by go_num, rfl⟩
                    case measure => simp [intOf]; omega
          · go_wp2
            go_ret
            exact ⟨rfl, by (repeat (first | with_reducible exact Ext.refl _ _ | assumption | with_reducible refine Ext.upN ?_ | with_reducible refine Ext.alloc ?_ _ | with_reducible refine Ext.upA (by assumption) ?_ | with_reducible refine Ext.upW ?_ | with_reducible refine Ext.drew ?_ | with_reducible refine Ext.drewN ?_ _ | with_reducible refine Ext.upF ?_ | with_reducible refine Ext.upFF (by first | omega | simp) ?_ | with_reducible refine Ext.setCellsF _ _ _ (by first | omega | simp) ?_ | with_reducible refine Ext.setCellF _ _ _ (by first | omega | simp) ?_ | with_reducible refine Ext.upFN (by first | omega | simp) ?_ | with_reducible refine Ext.up1F (by first | omega | simp) ?_ | with_reducible refine Ext.up1N (by first | omega | simp) ?_ | with_reducible refine Ext.setCell ?_ (.inr (by first | omega | simp)) _ | refine Ext.alloc ?_ _ | refine Ext.setCellF _ _ _ (by first | omega | simp) ?_ | refine Ext.setCell ?_ (.inr (by first | omega | simp)) _))⟩
      · as_aux_lemma =>
        have hb1 : (te1 != 0) = true := by rw [bne_iff_ne]; exact h1
        subst h0
        clear HM D0 D1 CK1 P0 P1 h1
        go_wp2
        go_ret
        exact ⟨rfl, by (repeat (first | with_reducible exact Ext.refl _ _ | assumption | with_reducible refine Ext.upN ?_ | with_reducible refine Ext.alloc ?_ _ | with_reducible refine Ext.upA (by assumption) ?_ | with_reducible refine Ext.upW ?_ | with_reducible refine Ext.drew ?_ | with_reducible refine Ext.drewN ?_ _ | with_reducible refine Ext.upF ?_ | with_reducible refine Ext.upFF (by first | omega | simp) ?_ | with_reducible refine Ext.setCellsF _ _ _ (by first | omega | simp) ?_ | with_reducible refine Ext.setCellF _ _ _ (by first | omega | simp) ?_ | with_reducible refine Ext.upFN (by first | omega | simp) ?_ | with_reducible refine Ext.up1F (by first | omega | simp) ?_ | with_reducible refine Ext.up1N (by first | omega | simp) ?_ | with_reducible refine Ext.setCell ?_ (.inr (by first | omega | simp)) _ | refine Ext.alloc ?_ _ | refine Ext.setCellF _ _ _ (by first | omega | simp) ?_ | refine Ext.setCell ?_ (.inr (by first | omega | simp)) _))⟩
    · as_aux_lemma =>
      have hb1 : (te0 != 0) = true := by rw [bne_iff_ne]; exact h0
      clear HM D0 D1 CK1 P0 P1 h0
      go_wp2
      go_ret
      exact ⟨rfl, by (repeat (first | with_reducible exact Ext.refl _ _ | assumption | with_reducible refine Ext.upN ?_ | with_reducible refine Ext.alloc ?_ _ | with_reducible refine Ext.upA (by assumption) ?_ | with_reducible refine Ext.upW ?_ | with_reducible refine Ext.drew ?_ | with_reducible refine Ext.drewN ?_ _ | with_reducible refine Ext.upF ?_ | with_reducible refine Ext.upFF (by first | omega | simp) ?_ | with_reducible refine Ext.setCellsF _ _ _ (by first | omega | simp) ?_ | with_reducible refine Ext.setCellF _ _ _ (by first | omega | simp) ?_ | with_reducible refine Ext.upFN (by first | omega | simp) ?_ | with_reducible refine Ext.up1F (by first | omega | simp) ?_ | with_reducible refine Ext.up1N (by first | omega | simp) ?_ | with_reducible refine Ext.setCell ?_ (.inr (by first | omega | simp)) _ | refine Ext.alloc ?_ _ | refine Ext.setCellF _ _ _ (by first | omega | simp) ?_ | refine Ext.setCell ?_ (.inr (by first | omega | simp)) _))⟩
set_option maxRecDepth 100000 in
open Go.ChangeShapes Go.WideShapes in
theorem law_ChangeMore {H : Type} {enc : TypeId × Value → H} (W : World) {base : Nat} (v0 : Value) (d0 : DataW H) (p0 : List MemPlace) (v1 : Value) (d1 : DataW H) (p1 : List MemPlace) (v2 : Value) (d2 : DataW H) (p2 : List MemPlace)
    (h0 : DataW.Trod enc Try.prog W 0 (fun _ => true) true 34 v0 d0 p0) (ok0 : Value.okWide Try.prog W .any base 34 v0)
    (h1 : DataW.Trod enc Try.prog W 0 (fun _ => true) true 3 v1 d1 p1) (ok1 : Value.okWide Try.prog W .any base 3 v1)
    (h2 : DataW.Trod enc Try.prog W 0 (fun _ => true) true 37 v2 d2 p2) (ok2 : Value.okWide Try.prog W .any base 37 v2) :
    Calls Try.prog 8 #[v0, v1, v2] W fun e w' => e = .returned (.bool true) ∧ Below W.heap.size W w' := by
  obtain ⟨ep, a, cap, xs, rfl, hep, hi, _⟩ := arg_conf ok0 h0
  obtain ⟨vw, rfl, hvw⟩ := arg_int ok1 h1
  obtain ⟨la, lcap, l, rfl, hc⟩ := arg_changes ok2 h2
  exact (walk_ChangeMore ep a cap xs vw la lcap l hep W hi hc).mono fun _ _ ⟨a, b⟩ => ⟨a, b.toBelow⟩
end Go.Proofs.Ytakbkpklfihfiaa
