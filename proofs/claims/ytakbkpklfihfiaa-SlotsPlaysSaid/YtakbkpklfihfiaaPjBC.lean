/- Joined texts: Slots7. What each proves stands at its head; no conditions beside those in its theorems. -/
import Derived.Test.YtakbkpklfihfiaaPjBB
/- Contracts of layer 14: Log.Propose, Log.Prepare, Log.Commit. -/
namespace Go.Proofs.Ytakbkpklfihfiaa
open Go.RowKit Go.Lib F64
set_option linter.unusedSimpArgs false
set_option linter.unusedVariables false
attribute [local go_sem] run_store_float
attribute [local go_sem low] EW.cellN EW.frozN alloc_cell_or alloc_froz_or EW.cellF EW.frozF EW.cell1 EW.froz1
attribute [local go_sem] relAt relUpon
/-- A map of votes has changed: the others stand. -/
theorem LoW.upd {w w2 : World} {b : Nat} {G : Nat → Prop} {g : Lo} {a : Option Addr} {c : Nat} {pt : Nat → Pt} (h : LoW w b G g) (hp : LoP w b G g a c pt) {i m : Nat} (hi : i < 4) {l0 : List (Int × Vt)} (hm0 : MapG vtE w m l0) (hG : G m) (hX : Ext (One m) w w2) (s : Sl)
    (hmm : ∀ j, j < 4 → (j ≠ i → (pt j).m1 ≠ m ∧ (pt j).m2 ≠ m)) (h1 : MapG vtE w2 (pt i).m1 s.prep) (h2 : MapG vtE w2 (pt i).m2 s.com) (e : s.prop = (g.sl i).prop ∧ s.cert = (g.sl i).cert ∧ s.done = (g.sl i).done) (o1 : VtsOk s.prep) (o2 : VtsOk s.com) : LoW w2 b G (putS g i s) := by
  have hbm : ¬ One m b := fun e => by
    unfold One at e
    obtain ⟨es, ck, hb, -⟩ := hm0.ex
    have := hp.h
    rw [e, hb] at this
    cases this
  have hbx : ∀ k vs t, G k → Bx w k vs t → ¬ One m k := fun k vs t _ hB e => map_no_box hm0 hB e
  have hcl : ∀ k i v, G k → w.cell? ⟨k, i, none⟩ = some v → ¬ One m k := fun k i v _ hc e => by unfold One at e; subst e; exact map_no_cell hm0 i v hc
  refine ⟨⟨a, c, pt, (hX.block b h.bl hbm).trans hp.h, ?_, hp.ia, fun j hj => ?_, hp.d⟩, h.nb, fun k hk => Nat.lt_of_lt_of_le (h.lt k hk) hX.size, h.conf, h.vw⟩
  · refine hp.ints.ext hX (fun b' o e q => ?_)
    obtain ⟨b2, o2, e2, c2, -⟩ := hp.ints.at_ 0 (by have := h.len.1; omega)
    rw [e] at e2; injection e2 with e2; injection e2 with e2 _; subst e2
    unfold One at q; subst q
    exact map_no_cell hm0 _ _ c2
  · have q := hp.sl j hj
    by_cases e2 : j = i
    · subst e2
      show SlW _ G (pt j) (if j = j then s else g.sl j)
      rw [if_pos rfl]
      exact ⟨by rw [e.1]; exact q.prop.ext hX (fun k vs t hk hB => hbx k vs t hk hB) (fun _ h => h), h1, h2, by rw [e.2.1]; exact q.cert.ext hX (fun k vs t hk hB => hbx k vs t hk hB) (fun k i v hk hc => hcl k i v hk hc) (fun _ h => h), by rw [e.2.2]; exact q.done.ext hX (fun k vs t hk hB => hbx k vs t hk hB) (fun _ h => h), q.f1, q.f2, o1, o2⟩
    · show SlW _ G (pt j) (if j = i then s else g.sl j)
      rw [if_neg e2]
      obtain ⟨d1, d2⟩ := hmm j hj e2
      exact ⟨q.prop.ext hX (fun k vs t hk hB => hbx k vs t hk hB) (fun _ h => h), q.prep.ext hX d1, q.com.ext hX d2, q.cert.ext hX (fun k vs t hk hB => hbx k vs t hk hB) (fun k i v hk hc => hcl k i v hk hc) (fun _ h => h), q.done.ext hX (fun k vs t hk hB => hbx k vs t hk hB) (fun _ h => h), q.f1, q.f2, q.ok1, q.ok2⟩
set_option maxHeartbeats 2000000 in
set_option maxRecDepth 100000 in
theorem log_Propose (b : Nat) (G : Nat → Prop) (g : Lo) (n : Int) (hn : I64 n) (c s k : Int) (key : ByteArray) (x : Nat) (id : Int) (hr : ReqOk ⟨c, s, ⟨k, key, x, id⟩⟩) (w : World) (h : LoW w b G g) :
    Calls Try.prog 49 #[.pointer (some ⟨b, 0, none⟩), .int .i64 n, .agg #[.int .i64 c, .int .i64 s, .int .i64 k, .string key, .float .f64 x, .int .i64 id]] w fun e w' =>
    e = .returned (.int .i64 (proposeE g n ⟨c, s, ⟨k, key, x, id⟩⟩)) ∧ ∃ G', LoW w' b G' (proposeG g n ⟨c, s, ⟨k, key, x, id⟩⟩) ∧ (∀ k, G' k → G k ∨ w.heap.size ≤ k) ∧ Ext (One b) w w' := by
  have HL := Go.Lib.hid h
  obtain ⟨a, cc, pt, P⟩ := h.parts
  have HP := Go.Lib.hid P
  have c0 := P.c0
  have HR := Go.Lib.hid hr
  have hbl := h.bl
  have DE : Hid (proposeE g n ⟨c, s, ⟨k, key, x, id⟩⟩ = if askedB ⟨c, s, ⟨k, key, x, id⟩⟩ = true then (match idxN g.ep n with | none => 14 | some i => match (g.sl i).prop with | some y => if sameT y ⟨c, s, ⟨k, key, x, id⟩⟩ = true then 7 else 22 | none => 0) else 1) := Go.Lib.hid rfl
  have DG : Hid (proposeG g n ⟨c, s, ⟨k, key, x, id⟩⟩ = if proposeE g n ⟨c, s, ⟨k, key, x, id⟩⟩ = 0 then (match idxN g.ep n with | some i => putS g i (lookS g.mem g.view n { g.sl i with prop := some ⟨c, s, ⟨k, key, x, id⟩⟩ }) | none => g) else g) := Go.Lib.hid rfl
  have ST : Hid (∀ (e : Int) (w' : World), proposeE g n ⟨c, s, ⟨k, key, x, id⟩⟩ = e → e ≠ 0 → Ext Non w w' → Ending.returned (.int .i64 e) = Ending.returned (.int .i64 (proposeE g n ⟨c, s, ⟨k, key, x, id⟩⟩)) ∧ ∃ G', LoW w' b G' (proposeG g n ⟨c, s, ⟨k, key, x, id⟩⟩) ∧ (∀ k, G' k → G k ∨ w.heap.size ≤ k) ∧ Ext (One b) w w') := Go.Lib.hid (fun e w' h1 h2 hx => ⟨ret_int h1.symm, G, by rw [DG.out, if_neg (by rw [h1]; exact h2)]; exact HL.out.extN hx, fun k hk => .inl hk, hx.ofNon⟩)
  clear P h hr
  cases ha : askedB ⟨c, s, ⟨k, key, x, id⟩⟩
  · as_aux_lemma =>
    have HE : Hid (proposeE g n ⟨c, s, ⟨k, key, x, id⟩⟩ = 1) := Go.Lib.hid (by rw [DE.out, ha]; rfl)
    have HM := Go.Lib.hid (slots_may_bad b n c s k key x id HR.out ha)
    clear ha
    go_enter Try.func49, Try.ntmps49
    go_wp2_with fail
    refine Calls.ew (HM.out _) ?_
    rintro e x1 rfl
    go_wp2
    go_ret
    exact ST.out _ _ HE.out (by decide) (by (repeat (first | with_reducible (first | exact Ext.refl _ _ | assumption | refine Ext.upN ?_ | refine Ext.alloc ?_ _ | refine Ext.drew ?_ | refine Ext.drewN ?_ _ | refine Ext.up1N (by first | omega | simp) ?_) | refine Ext.alloc ?_ _ | refine Ext.setCell ?_ (.inr (by first | omega | simp)) _)))
  have HM := Go.Lib.hid (fun w h => slots_may_good b g.ep n c s k key x id HR.out HL.out.epb hn ha w h)
  cases hio : idxN g.ep n with
  | none =>
    as_aux_lemma =>
    have HE : Hid (proposeE g n ⟨c, s, ⟨k, key, x, id⟩⟩ = 14) := Go.Lib.hid (by rw [DE.out, ha, hio]; rfl)
    rw [hio] at HM
    clear ha hio
    go_enter Try.func49, Try.ntmps49
    go_wp2_with fail
    refine Calls.ew (HM.out _ (by simp only [EW.cellN, alloc_cell_or, c0, Option.some_or])) ?_
    rintro e x1 rfl
    unfold atV
    go_wp2
    go_ret
    exact ST.out _ _ HE.out (by decide) (by (repeat (first | with_reducible (first | exact Ext.refl _ _ | assumption | refine Ext.upN ?_ | refine Ext.alloc ?_ _ | refine Ext.drew ?_ | refine Ext.drewN ?_ _ | refine Ext.up1N (by first | omega | simp) ?_) | refine Ext.alloc ?_ _ | refine Ext.setCell ?_ (.inr (by first | omega | simp)) _)))
  | some i =>
    rw [hio] at HM
    obtain ⟨hi, -⟩ := idxN_lt hio
    have Q := HP.out.sl i hi
    have HQ := Go.Lib.hid Q
    have s0 : w.cell? ⟨b, 3 + i * 5, none⟩ = some (ptV (pt i).pp) := HP.out.cs hi (show 0 < 5 by omega) rfl
    have f0 : w.frozen? ⟨b, 3 + i * 5, none⟩ = false := HP.out.fz _
    have HIO := Go.Lib.hid hio; have HA := Go.Lib.hid ha
    rcases Q.prop with ⟨k1, k2⟩ | ⟨kr, ⟨rc, rs, ⟨rk, rkey, rx, rid⟩⟩, k1, k2, -, hro, hbr⟩
    · have s0' : w.cell? ⟨b, 3 + i * 5, none⟩ = some (.pointer none) := by rw [s0, k1]; rfl
      have HE : Hid (proposeE g n ⟨c, s, ⟨k, key, x, id⟩⟩ = 0) := Go.Lib.hid (by rw [DE.out, ha, hio]; simp only [if_true, k2])
      clear ha hio Q s0 k1 k2
      go_enter Try.func49, Try.ntmps49
      go_wp2_with fail
      refine Calls.ew (HM.out _ (by simp only [EW.cellN, alloc_cell_or, c0, Option.some_or])) ?_
      rintro e x1 rfl
      unfold atV
      have XA : Ext Non w (w.alloc (.cells [.int .i64 c, .int .i64 s, .int .i64 k, .string key, .float .f64 x, .int .i64 id].toArray 49)) := (Ext.refl _ _).alloc _
      have X1 : Ext Non w x1.on := XA.trans x1.ext
      have hsz : w.heap.size < x1.on.heap.size := by have := x1.ext.size; simp at this; omega
      have XB : Ext (One b) x1.on (x1.on.setCell ⟨b, 3 + i * 5, none⟩ (.pointer (some ⟨w.heap.size, 0, none⟩))) := (Ext.refl _ _).set1 _
      have hL1 : LoW (x1.on.setCell ⟨b, 3 + i * 5, none⟩ (.pointer (some ⟨w.heap.size, 0, none⟩))) b (fun k => G k ∨ k = w.heap.size) (putS g i { g.sl i with prop := some ⟨c, s, ⟨k, key, x, id⟩⟩ }) := by
        have q := ((HQ.out.extN X1).set (k := 3 + i * 5) (G' := fun k => G k ∨ k = w.heap.size) HL.out.nb (fun k h => .inl h) (.pointer (some ⟨w.heap.size, 0, none⟩)))
        refine (HL.out.extN X1).put (HP.out.extN X1) hi (show 0 < 5 by omega) _ { pt i with pp := some w.heap.size } _ rfl ⟨rfl, rfl⟩ (fun k h => .inl h) (fun h => by rcases h with h | h; exact HL.out.nb h; omega) (fun k h => by rcases h with h | h; exact (HL.out.extN X1).lt k h; omega) ?_
        exact ⟨.inr ⟨_, _, rfl, rfl, .inr rfl, HR.out, ((Bx.new w [.int .i64 c, .int .i64 s, .int .i64 k, .string key, .float .f64 x, .int .i64 id] 49).extN x1.ext).ext XB (fun e => by unfold One at e; omega)⟩, q.prep, q.com, q.cert, q.done, q.f1, q.f2, q.ok1, q.ok2⟩
      have HL1 := Go.Lib.hid hL1
      clear hL1
      go_wp2_with fail
      refine (slots_look b i _ _ n hi hn _ HL1.out).mono ?_
      rintro e w2 ⟨rfl, G', hL2, hG2, hX2⟩
      have HL2 := Go.Lib.hid hL2; have HG2 := Go.Lib.hid hG2; have HX2 := Go.Lib.hid hX2
      clear hL2 hG2 hX2
      go_wp2
      go_ret
      refine ⟨ret_int HE.out.symm, G', ?_, fun k hk => ?_, (X1.ofNon.trans XB).trans HX2.out⟩
      · rw [DG.out, if_pos HE.out, HIO.out]
        have := HL2.out
        rw [putS_put, putS_same] at this
        exact this
      · rcases HG2.out k hk with h | h
        · rcases h with h | h
          · exact .inl h
          · exact .inr (by omega)
        · exact .inr (by have := XB.size; omega)
    · have s0' : w.cell? ⟨b, 3 + i * 5, none⟩ = some (.pointer (some ⟨kr, 0, none⟩)) := by rw [s0, k1]; rfl
      have n0 : w.cell? ⟨kr, 0, none⟩ = some (.int .i64 rc) := hbr.cell rfl
      have n1 : w.cell? ⟨kr, 1, none⟩ = some (.int .i64 rs) := hbr.cell rfl
      have n2 : w.cell? ⟨kr, 2, none⟩ = some (.int .i64 rk) := hbr.cell rfl
      have n3 : w.cell? ⟨kr, 3, none⟩ = some (.string rkey) := hbr.cell rfl
      have n4 : w.cell? ⟨kr, 4, none⟩ = some (.float .f64 rx) := hbr.cell rfl
      have n5 : w.cell? ⟨kr, 5, none⟩ = some (.int .i64 rid) := hbr.cell rfl
      have HRo := Go.Lib.hid hro
      have HEE : Hid (proposeE g n ⟨c, s, ⟨k, key, x, id⟩⟩ = if sameT ⟨rc, rs, ⟨rk, rkey, rx, rid⟩⟩ ⟨c, s, ⟨k, key, x, id⟩⟩ = true then 7 else 22) := Go.Lib.hid (by rw [DE.out, ha, hio]; simp only [if_true, k2])
      clear ha hio Q s0 k1 k2 hbr hro
      go_enter Try.func49, Try.ntmps49
      go_wp2_with fail
      refine Calls.ew (HM.out _ (by simp only [EW.cellN, alloc_cell_or, c0, Option.some_or])) ?_
      rintro e x1 rfl
      unfold atV
      go_upto_region 5 with fail
      cases hsm : sameT ⟨rc, rs, ⟨rk, rkey, rx, rid⟩⟩ ⟨c, s, ⟨k, key, x, id⟩⟩
      · have HSM := Go.Lib.hid hsm
        clear hsm
        (refine wp_region_ext_lit (by kernel_rfl) (by kernel_rfl) ?_; (repeat (go_big_quiet_step ((go_at_call 98; exact Calls.ext_ofv (deeds_Same rc rs rk rkey rx rid c s k key x id HRo.out HR.out _) (congrArg Value.bool HSM.out))))); refine wpQuiet_nil ?_; intro _ hw'; obtain ⟨xq, hw''⟩ := hw'; subst hw'')
        go_wp2
        go_ret
        exact ST.out _ _ (by rw [HEE.out, HSM.out]; rfl) (by decide) (by (repeat (first | with_reducible (first | exact Ext.refl _ _ | assumption | refine Ext.upN ?_ | refine Ext.alloc ?_ _ | refine Ext.drew ?_ | refine Ext.drewN ?_ _ | refine Ext.up1N (by first | omega | simp) ?_) | refine Ext.alloc ?_ _ | refine Ext.setCell ?_ (.inr (by first | omega | simp)) _)))
      · have HSM := Go.Lib.hid hsm
        clear hsm
        (refine wp_region_ext_lit (by kernel_rfl) (by kernel_rfl) ?_; (repeat (go_big_quiet_step ((go_at_call 98; exact Calls.ext_ofv (deeds_Same rc rs rk rkey rx rid c s k key x id HRo.out HR.out _) (congrArg Value.bool HSM.out))))); refine wpQuiet_nil ?_; intro _ hw'; obtain ⟨xq, hw''⟩ := hw'; subst hw'')
        go_wp2
        go_ret
        exact ST.out _ _ (by rw [HEE.out, HSM.out]; rfl) (by decide) (by (repeat (first | with_reducible (first | exact Ext.refl _ _ | assumption | refine Ext.upN ?_ | refine Ext.alloc ?_ _ | refine Ext.drew ?_ | refine Ext.drewN ?_ _ | refine Ext.up1N (by first | omega | simp) ?_) | refine Ext.alloc ?_ _ | refine Ext.setCell ?_ (.inr (by first | omega | simp)) _)))
end Go.Proofs.Ytakbkpklfihfiaa
