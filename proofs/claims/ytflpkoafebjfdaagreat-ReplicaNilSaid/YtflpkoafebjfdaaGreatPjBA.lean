/- Joined texts: Slots8, Slots9, Slots11. What each proves stands at its head; no conditions beside those in its theorems. -/
import Derived.Test.YtflpkoafebjfdaaGreatPjAZ
/- Contracts of layer 14: Log.Prepare, Log.Commit. -/
namespace Go.Proofs.YtflpkoafebjfdaaGreat
open Go.RowKit Go.Lib F64
set_option linter.unusedSimpArgs false
set_option linter.unusedVariables false
attribute [local go_sem] run_store_float
attribute [local go_sem low] EW.cellN EW.frozN alloc_cell_or alloc_froz_or EW.cellF EW.frozF EW.cell1 EW.froz1
attribute [local go_sem] relAt relUpon
theorem setG_ok {l : List (Int × Vt)} (h : VtsOk l) {k : Int} {v : Vt} (hv : v.ok) : VtsOk (setG l k v) := by
  intro p hp
  unfold setG at hp
  split at hp
  · obtain ⟨q, hq, rfl⟩ := List.mem_map.1 hp
    split
    · exact hv
    · exact h q hq
  · rcases List.mem_append.1 hp with hp | hp
    · exact h p hp
    · simp at hp; subst hp; exact hv
set_option maxHeartbeats 4000000 in
set_option maxRecDepth 100000 in
theorem log_Prepare (b : Nat) (G : Nat → Prop) (g : Lo) (from_ n : Int) (hf : I64 from_) (hn : I64 n) (c s k : Int) (key : ByteArray) (x : Nat) (id : Int) (hr : ReqOk ⟨c, s, ⟨k, key, x, id⟩⟩) (by_ : Int) (text : ByteArray) (hby : I64 by_) (htx : text.size ≤ 9223372036854775807) (w : World) (h : LoW w b G g) :
    Calls Tryz.prog 200 #[.pointer (some ⟨b, 0, none⟩), .int .i64 from_, .int .i64 n, .agg #[.int .i64 c, .int .i64 s, .int .i64 k, .string key, .float .f64 x, .int .i64 id], .agg #[.int .i64 by_, .string text]] w fun e w' =>
    e = .returned (.int .i64 (prepareE g from_ n ⟨c, s, ⟨k, key, x, id⟩⟩ by_ text)) ∧ ∃ G', LoW w' b G' (prepareG g from_ n ⟨c, s, ⟨k, key, x, id⟩⟩ by_ text) ∧ (∀ k, G' k → G k ∨ w.heap.size ≤ k) ∧ Ext (LoF b G) w w' := by
  have HL := Go.Lib.hid h
  obtain ⟨a, cc, pt, P⟩ := h.parts
  have HP := Go.Lib.hid P
  have c0 := P.c0
  have c1 := P.c1
  have c2 := P.c2
  have HR := Go.Lib.hid hr
  have hbl := h.bl
  have hep := h.epb; have hvw := h.vw; have hml := h.len
  have HI : Hid (I64 g.ep ∧ I64 g.view) := Go.Lib.hid ⟨by unfold I64; omega, by unfold I64; omega⟩
  have DE : Hid (prepareE g from_ n ⟨c, s, ⟨k, key, x, id⟩⟩ by_ text = if askedB ⟨c, s, ⟨k, key, x, id⟩⟩ = true then (match idxN g.ep n with | none => 14 | some i => if hasB g.mem from_ = true then (if by_ = from_ ∧ text = prepS g.ep g.view n ⟨c, s, ⟨k, key, x, id⟩⟩ then (if hasG (g.sl i).prep from_ = true then 7 else 0) else 16) else 8) else 1) := Go.Lib.hid rfl
  have DG : Hid (prepareG g from_ n ⟨c, s, ⟨k, key, x, id⟩⟩ by_ text = if prepareE g from_ n ⟨c, s, ⟨k, key, x, id⟩⟩ by_ text = 0 then (match idxN g.ep n with | some i => putS g i (lookS g.mem g.view n { g.sl i with prep := setG (g.sl i).prep from_ ⟨⟨c, s, ⟨k, key, x, id⟩⟩, by_, text⟩ }) | none => g) else g) := Go.Lib.hid rfl
  have ST : Hid (∀ (e : Int) (w' : World), prepareE g from_ n ⟨c, s, ⟨k, key, x, id⟩⟩ by_ text = e → e ≠ 0 → Ext Non w w' → Ending.returned (.int .i64 e) = Ending.returned (.int .i64 (prepareE g from_ n ⟨c, s, ⟨k, key, x, id⟩⟩ by_ text)) ∧ ∃ G', LoW w' b G' (prepareG g from_ n ⟨c, s, ⟨k, key, x, id⟩⟩ by_ text) ∧ (∀ k, G' k → G k ∨ w.heap.size ≤ k) ∧ Ext (LoF b G) w w') := Go.Lib.hid (fun e w' h1 h2 hx => ⟨ret_int h1.symm, G, by rw [DG.out, if_neg (by rw [h1]; exact h2)]; exact HL.out.extN hx, fun k hk => .inl hk, hx.ofNon⟩)
  clear P h hr
  cases ha : askedB ⟨c, s, ⟨k, key, x, id⟩⟩
  · as_aux_lemma =>
    have HE : Hid (prepareE g from_ n ⟨c, s, ⟨k, key, x, id⟩⟩ by_ text = 1) := Go.Lib.hid (by rw [DE.out, ha]; rfl)
    have HM := Go.Lib.hid (slots_may_bad b n c s k key x id HR.out ha)
    clear ha
    go_enter Tryz.func200, Tryz.ntmps200
    go_wp2_with fail
    refine Calls.ew (HM.out _) ?_
    rintro e x1 rfl
    go_wp2
    go_ret
    exact ST.out _ _ HE.out (by decide) (by (repeat (first | with_reducible (first | exact Ext.refl _ _ | assumption | refine Ext.upN ?_ | refine Ext.alloc ?_ _ | refine Ext.drew ?_ | refine Ext.drewN ?_ _ | refine Ext.up1N (by first | omega | simp) ?_) | refine Ext.alloc ?_ _ | refine Ext.setCell ?_ (.inr (by first | omega | simp)) _)))
  have HM := Go.Lib.hid (fun w h => slots_may_good b g.ep n c s k key x id HR.out HL.out.epb hn ha w h)
  cases hio : idxN g.ep n with
  | none =>
    as_aux_lemma =>
    have HE : Hid (prepareE g from_ n ⟨c, s, ⟨k, key, x, id⟩⟩ by_ text = 14) := Go.Lib.hid (by rw [DE.out, ha, hio]; rfl)
    rw [hio] at HM
    clear ha hio
    go_enter Tryz.func200, Tryz.ntmps200
    go_wp2_with fail
    refine Calls.ew (HM.out _ (by simp only [EW.cellN, alloc_cell_or, c0, Option.some_or])) ?_
    rintro e x1 rfl
    unfold atV
    go_wp2
    go_ret
    exact ST.out _ _ HE.out (by decide) (by (repeat (first | with_reducible (first | exact Ext.refl _ _ | assumption | refine Ext.upN ?_ | refine Ext.alloc ?_ _ | refine Ext.drew ?_ | refine Ext.drewN ?_ _ | refine Ext.up1N (by first | omega | simp) ?_) | refine Ext.alloc ?_ _ | refine Ext.setCell ?_ (.inr (by first | omega | simp)) _)))
  | some i =>
    rw [hio] at HM
    obtain ⟨hi, -⟩ := idxN_lt hio
    have HQ := Go.Lib.hid (HP.out.sl i hi)
    have s1 : w.cell? ⟨b, 3 + i * 5 + 1, none⟩ = some (.map (some (pt i).m1)) := HP.out.cs hi (show 1 < 5 by omega) rfl
    have HIO := Go.Lib.hid hio
    have HEE : Hid (prepareE g from_ n ⟨c, s, ⟨k, key, x, id⟩⟩ by_ text = if hasB g.mem from_ = true then (if by_ = from_ ∧ text = prepS g.ep g.view n ⟨c, s, ⟨k, key, x, id⟩⟩ then (if hasG (g.sl i).prep from_ = true then 7 else 0) else 16) else 8) := Go.Lib.hid (by rw [DE.out, ha, hio]; rfl)
    clear ha hio
    go_enter Tryz.func200, Tryz.ntmps200
    go_wp2_with fail
    refine Calls.ew (HM.out _ (by simp only [EW.cellN, alloc_cell_or, c0, Option.some_or])) ?_
    rintro e x1 rfl
    unfold atV
    go_upto_region 4 with fail
    generalize hpt : prepS g.ep g.view n ⟨c, s, ⟨k, key, x, id⟩⟩ = ptx at *
    have HPT := Go.Lib.hid hpt
    clear hpt
    (refine wp_region_ext_lit (by kernel_rfl) (by kernel_rfl) ?_; (repeat (go_big_quiet_step ((go_at_call 273; exact Calls.ext_ofv (deeds_Prepared g.ep g.view n c s k key x id HI.out.1 HI.out.2 hn HR.out.c HR.out.s HR.out.k HR.out.id HR.out.x HR.out.key _) (by rw [HPT.out]))))); refine wpQuiet_nil ?_; intro _ hw'; obtain ⟨xq, hw''⟩ := hw'; subst hw'')
    have hlk : (Instr.lookup 187 (.map (some (pt i).m1)) (.int .i64 from_) true).run Tryz.prog xq.on = .ok (.tuple #[vtV ((getG (g.sl i).prep from_).getD zeroV), .bool (hasG (g.sl i).prep from_)]) xq.on :=
      MapG.lookup (E := vtE) Tryz.underlying187 Tryz.underlying3 (zero_vote _) (HQ.out.prep.extN (by (repeat (first | with_reducible (first | exact Ext.refl _ _ | assumption | refine Ext.upN ?_ | refine Ext.alloc ?_ _ | refine Ext.drew ?_ | refine Ext.drewN ?_ _ | refine Ext.up1N (by first | omega | simp) ?_) | refine Ext.alloc ?_ _ | refine Ext.setCell ?_ (.inr (by first | omega | simp)) _)) : Ext Non w xq.on)) from_
    generalize (getG (g.sl i).prep from_).getD zeroV = vt at *
    obtain ⟨⟨tc, ts, ⟨tk, tkey, tx, tid⟩⟩, tby, ttx⟩ := vt
    unfold vtV at hlk
    simp only at hlk
    go_wp2_with fail
    refine Calls.ew (council_Has g.ep a cc g.mem from_ _ (HP.out.ints.extN (by (repeat (first | with_reducible (first | exact Ext.refl _ _ | assumption | refine Ext.upN ?_ | refine Ext.alloc ?_ _ | refine Ext.drew ?_ | refine Ext.drewN ?_ _ | refine Ext.up1N (by first | omega | simp) ?_) | refine Ext.alloc ?_ _ | refine Ext.setCell ?_ (.inr (by first | omega | simp)) _))))) ?_
    rintro e x3 rfl
    cases hh : hasB g.mem from_
    · as_aux_lemma =>
      have HE : Hid (prepareE g from_ n ⟨c, s, ⟨k, key, x, id⟩⟩ by_ text = 8) := Go.Lib.hid (by rw [HEE.out, hh]; rfl)
      clear hh hlk
      go_wp2
      go_ret
      exact ST.out _ _ HE.out (by decide) (by (repeat (first | with_reducible (first | exact Ext.refl _ _ | assumption | refine Ext.upN ?_ | refine Ext.alloc ?_ _ | refine Ext.drew ?_ | refine Ext.drewN ?_ _ | refine Ext.up1N (by first | omega | simp) ?_) | refine Ext.alloc ?_ _ | refine Ext.setCell ?_ (.inr (by first | omega | simp)) _)))
    have HHh := Go.Lib.hid hh
    clear hh hlk
    by_cases hb : by_ = from_
    · subst hb
      have hbb : (by_ != by_) = false := by simp
      have hbe : (by_ == by_) = true := by simp
      by_cases ht : text = ptx
      · have hte : (text.toList == ptx.toList) = true := by rw [ht]; simp
        have hte2 : text.toList = ptx.toList := by rw [ht]
        have HT := Go.Lib.hid ht
        clear ht
        cases hgs : hasG (g.sl i).prep by_
        · have HGS := Go.Lib.hid hgs
          have HE : Hid (prepareE g by_ n ⟨c, s, ⟨k, key, x, id⟩⟩ by_ text = 0) := Go.Lib.hid (by rw [HEE.out, HHh.out, if_pos rfl, if_pos ⟨rfl, HT.out⟩, HGS.out]; rfl)
          clear hgs
          go_upto_region 12 with fail
          apply wp_region_rel_tail 8 (relR [Mo.is _, Mo.is _, Mo.is _, Mo.is _, Mo.is _, Mo.is _, Mo.is _, Mo.is _]) (by kernel_rfl) (by kernel_rfl) (by kernel_rfl) (by kernel_rfl) (by kernel_rfl) (by decide) (by kernel_rfl) (relR_mono _) (StepD.all ?st7) ?q7
          case st7 =>
            refine ⟨?_, ?_, ?_, ?_, ?_, ?_, ?_, ?_, trivial⟩
            · intro a' w' hx hs hd
              obtain ⟨y, rfl⟩ := hx.ew
              have e11 : a'.tmps[11]?.getD undef = _ := hs 11 rfl
              simp only [List.getElem?_toArray, List.getElem?_cons_succ, List.getElem?_cons_zero, Option.getD_some, Array.getElem?_eq_some_iff] at e11
              refine .inl ⟨rfl, ?_⟩
              clear hs hd hx
              go_simp
              exact ⟨Ext.refl _ _, rfl⟩
            · intro a' w' hx hs hd
              obtain ⟨y, rfl⟩ := hx.ew
              have e67 : a'.tmps[67]?.getD undef = _ := hd 0 67 rfl rfl
              refine .inl ⟨rfl, ?_⟩
              clear hs hd hx
              go_simp
              exact ⟨Ext.refl _ _, rfl⟩
            · intro a' w' hx hs hd
              obtain ⟨y, rfl⟩ := hx.ew
              have e68 : a'.tmps[68]?.getD undef = _ := hd 1 68 rfl rfl
              refine .inl ⟨rfl, ?_⟩
              clear hs hd hx
              go_simp
              exact ⟨Ext.refl _ _, rfl⟩
            · intro a' w' hx hs hd
              obtain ⟨y, rfl⟩ := hx.ew
              have e69 : a'.tmps[69]?.getD undef = _ := hd 2 69 rfl rfl
              refine .inl ⟨rfl, ?_⟩
              clear hs hd hx
              go_simp
              exact ⟨Ext.refl _ _, rfl⟩
            · intro a' w' hx hs hd
              obtain ⟨y, rfl⟩ := hx.ew
              have e1 : a'.tmps[1]?.getD undef = _ := hs 1 rfl
              simp only [List.getElem?_toArray, List.getElem?_cons_succ, List.getElem?_cons_zero, Option.getD_some, Array.getElem?_eq_some_iff] at e1
              refine .inl ⟨rfl, ?_⟩
              clear hs hd hx
              go_simp
              exact ⟨Ext.refl _ _, rfl⟩
            · intro a' w' hx hs hd
              obtain ⟨y, rfl⟩ := hx.ew
              have e8 : a'.tmps[8]?.getD undef = _ := hs 8 rfl
              simp only [List.getElem?_toArray, List.getElem?_cons_succ, List.getElem?_cons_zero, Option.getD_some, Array.getElem?_eq_some_iff] at e8
              refine .inl ⟨rfl, ?_⟩
              clear hs hd hx
              go_simp
              exact ⟨Ext.refl _ _, rfl⟩
            · intro a' w' hx hs hd
              obtain ⟨y, rfl⟩ := hx.ew
              have e9 : a'.tmps[9]?.getD undef = _ := hs 9 rfl
              simp only [List.getElem?_toArray, List.getElem?_cons_succ, List.getElem?_cons_zero, Option.getD_some, Array.getElem?_eq_some_iff] at e9
              refine .inl ⟨rfl, ?_⟩
              clear hs hd hx
              go_simp
              exact ⟨Ext.refl _ _, rfl⟩
            · intro a' w' hx hs hd
              obtain ⟨y, rfl⟩ := hx.ew
              have e72 : a'.tmps[72]?.getD undef = _ := hd 5 72 rfl rfl
              have e73 : a'.tmps[73]?.getD undef = _ := hd 6 73 rfl rfl
              refine .inl ⟨rfl, ?_⟩
              clear hs hd hx
              go_simp
              exact ⟨Ext.refl _ _, rfl⟩
          case' q7 =>
            intro vs w' hx hRR
            obtain ⟨x5, rfl⟩ := hx.ew
            have q0 : vs 0 = _ := hRR 0 (by decide)
            have q1 : vs 1 = _ := hRR 1 (by decide)
            have q2 : vs 2 = _ := hRR 2 (by decide)
            have q3 : vs 3 = _ := hRR 3 (by decide)
            have q4 : vs 4 = _ := hRR 4 (by decide)
            have q5 : vs 5 = _ := hRR 5 (by decide)
            have q6 : vs 6 = _ := hRR 6 (by decide)
            have q7 : vs 7 = _ := hRR 7 (by decide)
            clear hRR hx
            simp only [putAll, List.take_succ_cons, List.take_zero, List.drop_succ_cons, List.drop_zero, Act.put, List.setIfInBounds_toArray, List.set_cons_zero, List.set_cons_succ, Nat.reduceAdd, Nat.zero_add]
            simp only [q0, q1, q2, q3, q4, q5, q6, q7]
            clear q0 q1 q2 q3 q4 q5 q6 q7 vs
          have X5 : Ext Non w x5.on := by (repeat (first | with_reducible (first | exact Ext.refl _ _ | assumption | refine Ext.upN ?_ | refine Ext.alloc ?_ _ | refine Ext.drew ?_ | refine Ext.drewN ?_ _ | refine Ext.up1N (by first | omega | simp) ?_) | refine Ext.alloc ?_ _ | refine Ext.setCell ?_ (.inr (by first | omega | simp)) _))
          have hLx := HL.out.extN X5
          have hPx := HP.out.extN X5
          have hQx := hPx.sl i hi
          obtain ⟨w2, hup, hM, hX⟩ := MapG.update (P := Tryz.prog) (E := vtE) Tryz.underlying187 Tryz.underlying3 hQx.prep by_ ⟨⟨c, s, ⟨k, key, x, id⟩⟩, by_, text⟩
          have hup' : (Instr.mapUpdate 187 (.map (some (pt i).m1)) (.int .i64 by_) (.agg #[.int .i64 c, .int .i64 s, .int .i64 k, .string key, .float .f64 x, .int .i64 id, .int .i64 by_, .string text])).run Tryz.prog x5.on = .ok () w2 := hup
          have hd := HP.out.d
          have hmb : (pt i).m2 ≠ (pt i).m1 := fun e => (hd i i hi hi).2.2 e.symm
          have hL1 : LoW w2 b G (putS g i { g.sl i with prep := setG (g.sl i).prep by_ ⟨⟨c, s, ⟨k, key, x, id⟩⟩, by_, text⟩ }) :=
            hLx.upd hPx hi hQx.prep hQx.f1 hX _ (fun j hj hne => ⟨fun e => hne ((hd j i hj hi).1 e), fun e => (hd i j hi hj).2.2 e.symm⟩) hM (hQx.com.ext hX (fun e => hmb e)) ⟨rfl, rfl, rfl⟩ (setG_ok hQx.ok1 ⟨HR.out, hby, htx⟩) hQx.ok2
          have HL1 := Go.Lib.hid hL1
          have HX : Hid (Ext (LoF b G) w w2) := Go.Lib.hid (X5.ofNon.trans (hX.mono (fun k _ e => by unfold One at e; subst e; exact .inr hQx.f1)))
          clear hup hM hX hL1 hQx hPx hLx hd hmb
          go_wp2_with fail
          refine (slots_look b i _ _ n hi hn _ HL1.out).mono ?_
          rintro e w3 ⟨rfl, G', hL2, hG2, hX2⟩
          have HL2 := Go.Lib.hid hL2; have HG2 := Go.Lib.hid hG2; have HX2 := Go.Lib.hid hX2
          clear hL2 hG2 hX2 hup'
          go_wp2
          go_ret
          refine ⟨ret_int HE.out.symm, G', ?_, fun k hk => ?_, HX.out.trans (HX2.out.mono (fun k _ e => .inl e))⟩
          · rw [DG.out, if_pos HE.out, HIO.out]
            have := HL2.out
            rw [putS_put, putS_same] at this
            exact this
          · rcases HG2.out k hk with h | h
            · exact .inl h
            · exact .inr (by have := HX.out.size; omega)
        · as_aux_lemma =>
          have HGS := Go.Lib.hid hgs
          have HE : Hid (prepareE g by_ n ⟨c, s, ⟨k, key, x, id⟩⟩ by_ text = 7) := Go.Lib.hid (by rw [HEE.out, HHh.out, if_pos rfl, if_pos ⟨rfl, HT.out⟩, HGS.out]; rfl)
          clear hgs
          go_wp2
          go_ret
          exact ST.out _ _ HE.out (by decide) (by (repeat (first | with_reducible (first | exact Ext.refl _ _ | assumption | refine Ext.upN ?_ | refine Ext.alloc ?_ _ | refine Ext.drew ?_ | refine Ext.drewN ?_ _ | refine Ext.up1N (by first | omega | simp) ?_) | refine Ext.alloc ?_ _ | refine Ext.setCell ?_ (.inr (by first | omega | simp)) _)))
      · as_aux_lemma =>
        have hte : (text.toList == ptx.toList) = false := by rw [beq_eq_false_iff_ne]; intro h; exact ht (toList_inj h)
        have hte2 : ¬ text.toList = ptx.toList := fun h => ht (toList_inj h)
        have HE : Hid (prepareE g by_ n ⟨c, s, ⟨k, key, x, id⟩⟩ by_ text = 16) := Go.Lib.hid (by rw [HEE.out, HHh.out, if_pos rfl, if_neg (fun h => ht h.2)])
        clear ht
        go_wp2
        go_ret
        exact ST.out _ _ HE.out (by decide) (by (repeat (first | with_reducible (first | exact Ext.refl _ _ | assumption | refine Ext.upN ?_ | refine Ext.alloc ?_ _ | refine Ext.drew ?_ | refine Ext.drewN ?_ _ | refine Ext.up1N (by first | omega | simp) ?_) | refine Ext.alloc ?_ _ | refine Ext.setCell ?_ (.inr (by first | omega | simp)) _)))
    · as_aux_lemma =>
      have hbn : (by_ != from_) = true := by rw [bne_iff_ne]; exact hb
      have hbe : (by_ == from_) = false := by rw [beq_eq_false_iff_ne]; exact hb
      have HE : Hid (prepareE g from_ n ⟨c, s, ⟨k, key, x, id⟩⟩ by_ text = 16) := Go.Lib.hid (by rw [HEE.out, HHh.out, if_pos rfl, if_neg (fun h => hb h.1)])
      go_wp2
      go_ret
      exact ST.out _ _ HE.out (by decide) (by (repeat (first | with_reducible (first | exact Ext.refl _ _ | assumption | refine Ext.upN ?_ | refine Ext.alloc ?_ _ | refine Ext.drew ?_ | refine Ext.drewN ?_ _ | refine Ext.up1N (by first | omega | simp) ?_) | refine Ext.alloc ?_ _ | refine Ext.setCell ?_ (.inr (by first | omega | simp)) _)))
end Go.Proofs.YtflpkoafebjfdaaGreat

/- Contracts of layer 14: Log.Proposed, Log.Committed, Log.Prepared. -/
namespace Go.Proofs.YtflpkoafebjfdaaGreat
open Go.RowKit Go.Lib F64
set_option linter.unusedSimpArgs false
set_option linter.unusedVariables false
attribute [local go_sem] run_store_float
attribute [local go_sem low] EW.cellN EW.frozN alloc_cell_or alloc_froz_or EW.cellF EW.frozF EW.cell1 EW.froz1
attribute [local go_sem] relAt relUpon
set_option maxHeartbeats 1000000 in
set_option maxRecDepth 100000 in
theorem log_Proposed (b : Nat) (G : Nat → Prop) (g : Lo) (n : Int) (hn : I64 n) (w : World) (h : LoW w b G g) : Calls Tryz.prog 274 #[.pointer (some ⟨b, 0, none⟩), .int .i64 n] w fun e w' => e = .returned (toldV (proposedO g n)) ∧ Ext Non w w' := by
  obtain ⟨a, cc, pt, P⟩ := h.parts
  have HP := Go.Lib.hid P
  have c0 := P.c0
  have HE := Go.Lib.hid h.epb
  have DP : Hid (proposedO g n = match idxN g.ep n with | none => none | some i => (g.sl i).prop) := Go.Lib.hid rfl
  clear P h
  cases hio : idxN g.ep n with
  | none =>
    have HZ : Hid (toldV (proposedO g n) = .tuple #[.agg #[.int .i64 0, .int .i64 0, .int .i64 0, .string ByteArray.empty, .float .f64 0, .int .i64 0], .bool false]) := Go.Lib.hid (by rw [DP.out, hio]; rfl)
    have HIO := Go.Lib.hid hio
    clear hio
    go_enter Tryz.func274, Tryz.ntmps274
    go_wp2_with fail
    refine (slots_at b g.ep n HE.out hn _ (by simp only [alloc_cell_or, c0, Option.some_or])).mono ?_
    rintro e _ ⟨rfl, rfl⟩
    rw [HIO.out]
    unfold atV
    go_wp2
    go_returns
    exact ⟨by rw [HZ.out]; rfl, by (repeat (first | with_reducible (first | exact Ext.refl _ _ | assumption | refine Ext.upN ?_ | refine Ext.alloc ?_ _ | refine Ext.drew ?_ | refine Ext.drewN ?_ _ | refine Ext.up1N (by first | omega | simp) ?_) | refine Ext.alloc ?_ _ | refine Ext.setCell ?_ (.inr (by first | omega | simp)) _))⟩
  | some i =>
    obtain ⟨hi, -⟩ := idxN_lt hio
    have HQ := Go.Lib.hid (HP.out.sl i hi)
    have s0 : w.cell? ⟨b, 3 + i * 5, none⟩ = some (ptV (pt i).pp) := HP.out.cs hi (show 0 < 5 by omega) rfl
    have HZ : Hid (toldV (proposedO g n) = toldV (g.sl i).prop) := Go.Lib.hid (by rw [DP.out, hio])
    have HIO := Go.Lib.hid hio
    clear hio
    go_enter Tryz.func274, Tryz.ntmps274
    go_wp2_with fail
    refine (slots_at b g.ep n HE.out hn _ (by simp only [alloc_cell_or, c0, Option.some_or])).mono ?_
    rintro e _ ⟨rfl, rfl⟩
    rw [HIO.out]
    unfold atV
    go_wp2_with fail
    refine Calls.ew (slots_told G (pt i).pp (g.sl i).prop _ (HQ.out.prop.ext (by (repeat (first | with_reducible (first | exact Ext.refl _ _ | assumption | refine Ext.upN ?_ | refine Ext.alloc ?_ _ | refine Ext.drew ?_ | refine Ext.drewN ?_ _ | refine Ext.up1N (by first | omega | simp) ?_) | refine Ext.alloc ?_ _ | refine Ext.setCell ?_ (.inr (by first | omega | simp)) _)) : Ext Non w _) (fun _ _ _ _ _ f => f) (fun _ h => h))) ?_
    rintro e x1 rfl
    have HT : Hid (toldV (g.sl i).prop = .tuple #[reqV ((g.sl i).prop.getD nullR), .bool (g.sl i).prop.isSome]) := Go.Lib.hid rfl
    rw [HT.out]
    generalize (g.sl i).prop.isSome = fs at *
    generalize (g.sl i).prop.getD nullR = fr at *
    obtain ⟨fc, fst, ⟨fk, fkey, fx, fid⟩⟩ := fr
    unfold reqV
    have hsz : w.heap.size < x1.on.heap.size := by have := x1.ext.size; simp at this; omega
    go_wp2_with (refine wpList_store_box rfl 37 _ _ rfl w.heap.size _ [.int .i64 fc, .int .i64 fst, .int .i64 fk, .string fkey, .float .f64 fx, .int .i64 fid] _ rfl rfl (Bx.extN (Bx.newAt _ _ _ _ rfl) x1.ext) rfl info_req6 (by simp [Value.oneCell']) (fun W hB => ?_); have BZ := Go.Lib.hid hB; clear hB)
    have r0 : W.on.cell? ⟨w.heap.size, 0, none⟩ = some (.int .i64 fc) := BZ.out.cell rfl
    have r1 : W.on.cell? ⟨w.heap.size, 1, none⟩ = some (.int .i64 fst) := BZ.out.cell rfl
    have r2 : W.on.cell? ⟨w.heap.size, 2, none⟩ = some (.int .i64 fk) := BZ.out.cell rfl
    have r3 : W.on.cell? ⟨w.heap.size, 3, none⟩ = some (.string fkey) := BZ.out.cell rfl
    have r4 : W.on.cell? ⟨w.heap.size, 4, none⟩ = some (.float .f64 fx) := BZ.out.cell rfl
    have r5 : W.on.cell? ⟨w.heap.size, 5, none⟩ = some (.int .i64 fid) := BZ.out.cell rfl
    exact bodyPost_ret (v := .tuple #[.agg #[.int .i64 fc, .int .i64 fst, .int .i64 fk, .string fkey, .float .f64 fx, .int .i64 fid], .bool fs]) (by simp [results, Tryz.results274, go_sem, r0, r1, r2, r3, r4, r5]) rfl ⟨by rw [HZ.out, HT.out]; rfl, by (repeat (first | with_reducible (first | exact Ext.refl _ _ | assumption | refine Ext.upN ?_ | refine Ext.alloc ?_ _ | refine Ext.drew ?_ | refine Ext.drewN ?_ _ | refine Ext.up1N (by first | omega | simp) ?_) | refine Ext.alloc ?_ _ | refine Ext.setCell ?_ (.inr (by first | omega | simp)) _))⟩
set_option maxHeartbeats 1000000 in
set_option maxRecDepth 100000 in
theorem log_Committed (b : Nat) (G : Nat → Prop) (g : Lo) (n : Int) (hn : I64 n) (w : World) (h : LoW w b G g) : Calls Tryz.prog 323 #[.pointer (some ⟨b, 0, none⟩), .int .i64 n] w fun e w' => e = .returned (toldV (committedO g n)) ∧ Ext Non w w' := by
  obtain ⟨a, cc, pt, P⟩ := h.parts
  have HP := Go.Lib.hid P
  have c0 := P.c0
  have HE := Go.Lib.hid h.epb
  have DP : Hid (committedO g n = match idxN g.ep n with | none => none | some i => (g.sl i).done) := Go.Lib.hid rfl
  clear P h
  cases hio : idxN g.ep n with
  | none =>
    have HZ : Hid (toldV (committedO g n) = .tuple #[.agg #[.int .i64 0, .int .i64 0, .int .i64 0, .string ByteArray.empty, .float .f64 0, .int .i64 0], .bool false]) := Go.Lib.hid (by rw [DP.out, hio]; rfl)
    have HIO := Go.Lib.hid hio
    clear hio
    go_enter Tryz.func323, Tryz.ntmps323
    go_wp2_with fail
    refine (slots_at b g.ep n HE.out hn _ (by simp only [alloc_cell_or, c0, Option.some_or])).mono ?_
    rintro e _ ⟨rfl, rfl⟩
    rw [HIO.out]
    unfold atV
    go_wp2
    go_returns
    exact ⟨by rw [HZ.out]; rfl, by (repeat (first | with_reducible (first | exact Ext.refl _ _ | assumption | refine Ext.upN ?_ | refine Ext.alloc ?_ _ | refine Ext.drew ?_ | refine Ext.drewN ?_ _ | refine Ext.up1N (by first | omega | simp) ?_) | refine Ext.alloc ?_ _ | refine Ext.setCell ?_ (.inr (by first | omega | simp)) _))⟩
  | some i =>
    obtain ⟨hi, -⟩ := idxN_lt hio
    have HQ := Go.Lib.hid (HP.out.sl i hi)
    have s0 : w.cell? ⟨b, 3 + i * 5 + 4, none⟩ = some (ptV (pt i).pd) := HP.out.cs hi (show 4 < 5 by omega) rfl
    have HZ : Hid (toldV (committedO g n) = toldV (g.sl i).done) := Go.Lib.hid (by rw [DP.out, hio])
    have HIO := Go.Lib.hid hio
    clear hio
    go_enter Tryz.func323, Tryz.ntmps323
    go_wp2_with fail
    refine (slots_at b g.ep n HE.out hn _ (by simp only [alloc_cell_or, c0, Option.some_or])).mono ?_
    rintro e _ ⟨rfl, rfl⟩
    rw [HIO.out]
    unfold atV
    go_wp2_with fail
    refine Calls.ew (slots_told G (pt i).pd (g.sl i).done _ (HQ.out.done.ext (by (repeat (first | with_reducible (first | exact Ext.refl _ _ | assumption | refine Ext.upN ?_ | refine Ext.alloc ?_ _ | refine Ext.drew ?_ | refine Ext.drewN ?_ _ | refine Ext.up1N (by first | omega | simp) ?_) | refine Ext.alloc ?_ _ | refine Ext.setCell ?_ (.inr (by first | omega | simp)) _)) : Ext Non w _) (fun _ _ _ _ _ f => f) (fun _ h => h))) ?_
    rintro e x1 rfl
    have HT : Hid (toldV (g.sl i).done = .tuple #[reqV ((g.sl i).done.getD nullR), .bool (g.sl i).done.isSome]) := Go.Lib.hid rfl
    rw [HT.out]
    generalize (g.sl i).done.isSome = fs at *
    generalize (g.sl i).done.getD nullR = fr at *
    obtain ⟨fc, fst, ⟨fk, fkey, fx, fid⟩⟩ := fr
    unfold reqV
    have hsz : w.heap.size < x1.on.heap.size := by have := x1.ext.size; simp at this; omega
    go_wp2_with (refine wpList_store_box rfl 37 _ _ rfl w.heap.size _ [.int .i64 fc, .int .i64 fst, .int .i64 fk, .string fkey, .float .f64 fx, .int .i64 fid] _ rfl rfl (Bx.extN (Bx.newAt _ _ _ _ rfl) x1.ext) rfl info_req6 (by simp [Value.oneCell']) (fun W hB => ?_); have BZ := Go.Lib.hid hB; clear hB)
    have r0 : W.on.cell? ⟨w.heap.size, 0, none⟩ = some (.int .i64 fc) := BZ.out.cell rfl
    have r1 : W.on.cell? ⟨w.heap.size, 1, none⟩ = some (.int .i64 fst) := BZ.out.cell rfl
    have r2 : W.on.cell? ⟨w.heap.size, 2, none⟩ = some (.int .i64 fk) := BZ.out.cell rfl
    have r3 : W.on.cell? ⟨w.heap.size, 3, none⟩ = some (.string fkey) := BZ.out.cell rfl
    have r4 : W.on.cell? ⟨w.heap.size, 4, none⟩ = some (.float .f64 fx) := BZ.out.cell rfl
    have r5 : W.on.cell? ⟨w.heap.size, 5, none⟩ = some (.int .i64 fid) := BZ.out.cell rfl
    exact bodyPost_ret (v := .tuple #[.agg #[.int .i64 fc, .int .i64 fst, .int .i64 fk, .string fkey, .float .f64 fx, .int .i64 fid], .bool fs]) (by simp [results, Tryz.results323, go_sem, r0, r1, r2, r3, r4, r5]) rfl ⟨by rw [HZ.out, HT.out]; rfl, by (repeat (first | with_reducible (first | exact Ext.refl _ _ | assumption | refine Ext.upN ?_ | refine Ext.alloc ?_ _ | refine Ext.drew ?_ | refine Ext.drewN ?_ _ | refine Ext.up1N (by first | omega | simp) ?_) | refine Ext.alloc ?_ _ | refine Ext.setCell ?_ (.inr (by first | omega | simp)) _))⟩
set_option maxHeartbeats 1000000 in
set_option maxRecDepth 100000 in
theorem log_Prepared (b : Nat) (G : Nat → Prop) (g : Lo) (n : Int) (hn : I64 n) (w : World) (h : LoW w b G g) : Calls Tryz.prog 275 #[.pointer (some ⟨b, 0, none⟩), .int .i64 n] w fun e w' => e = .returned (.bool (preparedB g n)) ∧ Ext Non w w' := by
  obtain ⟨a, cc, pt, P⟩ := h.parts
  have HP := Go.Lib.hid P
  have c0 := P.c0
  have c1 := P.c1
  have hml := h.len
  have HE := Go.Lib.hid h.epb
  have DP : Hid (preparedB g n = match idxN g.ep n with | none => false | some i => enoughB g.mem (agreeO (g.sl i).prep (g.sl i).prop g.mem).length) := Go.Lib.hid rfl
  clear P h
  cases hio : idxN g.ep n with
  | none =>
    have HZ : Hid (preparedB g n = false) := Go.Lib.hid (by rw [DP.out, hio])
    have HIO := Go.Lib.hid hio
    clear hio
    go_enter Tryz.func275, Tryz.ntmps275
    go_wp2_with fail
    refine (slots_at b g.ep n HE.out hn _ c0).mono ?_
    rintro e _ ⟨rfl, rfl⟩
    rw [HIO.out]
    unfold atV
    go_wp2
    go_ret
    exact ⟨ret_bool HZ.out.symm, by (repeat (first | with_reducible (first | exact Ext.refl _ _ | assumption | refine Ext.upN ?_ | refine Ext.alloc ?_ _ | refine Ext.drew ?_ | refine Ext.drewN ?_ _ | refine Ext.up1N (by first | omega | simp) ?_) | refine Ext.alloc ?_ _ | refine Ext.setCell ?_ (.inr (by first | omega | simp)) _))⟩
  | some i =>
    obtain ⟨hi, -⟩ := idxN_lt hio
    have HQ := Go.Lib.hid (HP.out.sl i hi)
    have s0 : w.cell? ⟨b, 3 + i * 5, none⟩ = some (ptV (pt i).pp) := HP.out.cs hi (show 0 < 5 by omega) rfl
    have s1 : w.cell? ⟨b, 3 + i * 5 + 1, none⟩ = some (.map (some (pt i).m1)) := HP.out.cs hi (show 1 < 5 by omega) rfl
    have HZ : Hid (preparedB g n = enoughB g.mem (agreeO (g.sl i).prep (g.sl i).prop g.mem).length) := Go.Lib.hid (by rw [DP.out, hio])
    have HIO := Go.Lib.hid hio
    have AG := Go.Lib.hid (slots_agree b (3 + i * 5) a cc g.mem (by omega) (pt i).m1 (g.sl i).prep HQ.out.ok1 G (pt i).pp (g.sl i).prop w c1 HP.out.ints s0 HQ.out.prop HQ.out.prep)
    clear hio s0
    go_enter Tryz.func275, Tryz.ntmps275
    go_wp2_with fail
    refine (slots_at b g.ep n HE.out hn _ c0).mono ?_
    rintro e _ ⟨rfl, rfl⟩
    rw [HIO.out]
    unfold atV
    go_wp2_with fail
    refine AG.out.mono ?_
    rintro e _ ⟨sa, scap, rfl, hS, hx, hf⟩
    obtain ⟨x1, rfl⟩ := hx.ew
    clear hS hx hf AG
    generalize hal : (agreeO (g.sl i).prep (g.sl i).prop g.mem).length = al at *
    clear hal
    go_wp2_with fail
    refine (slots_enough b a cc g.mem (by omega) sa al scap _ (by simp only [EW.cellN, c1, Option.some_or])).mono ?_
    rintro e _ ⟨rfl, rfl⟩
    generalize enoughB g.mem al = eb at *
    go_wp2
    go_ret
    exact ⟨ret_bool HZ.out.symm, by (repeat (first | with_reducible (first | exact Ext.refl _ _ | assumption | refine Ext.upN ?_ | refine Ext.alloc ?_ _ | refine Ext.drew ?_ | refine Ext.drewN ?_ _ | refine Ext.up1N (by first | omega | simp) ?_) | refine Ext.alloc ?_ _ | refine Ext.setCell ?_ (.inr (by first | omega | simp)) _))⟩
end Go.Proofs.YtflpkoafebjfdaaGreat

/- Contracts of layer 14: slices.Clone of signatures, Log.Certs. -/
namespace Go.Proofs.YtflpkoafebjfdaaGreat
open Go.RowKit Go.Lib F64
set_option linter.unusedSimpArgs false
set_option linter.unusedVariables false
attribute [local go_sem] run_store_float
attribute [local go_sem low] EW.cellN EW.frozN alloc_cell_or alloc_froz_or EW.cellF EW.frozF EW.cell1 EW.froz1
attribute [local go_sem] relAt relUpon
/-- Votes of members alone, as many as there are members at most. -/
def SigsB (g : Lo) : Prop := ∀ i, i < 4 → ∀ c, (g.sl i).cert = some c → c.sigs.length ≤ 100000
end Go.Proofs.YtflpkoafebjfdaaGreat
