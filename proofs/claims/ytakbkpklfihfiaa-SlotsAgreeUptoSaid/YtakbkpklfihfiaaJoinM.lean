/- Joined texts: Slots7, Slots8, Slots9. What each proves stands at its head; no conditions beside those in its theorems. -/
import Derived.Test.YtakbkpklfihfiaaJoinL
/- Contracts of layer 14: Log.Propose, Log.Prepare, Log.Commit. -/
namespace Go.Proofs.Ytakbkpklfihfiaa
open Go.RowKit Go.Lib F64
set_option linter.unusedSimpArgs false
set_option linter.unusedVariables false
attribute [local go_sem] run_store_float
attribute [local go_sem low] EW.cellN EW.frozN alloc_cell_or alloc_froz_or EW.cellF EW.frozF EW.cell1 EW.froz1
attribute [local go_sem] relAt relUpon
/-- A map of votes has changed: the others stand. -/
theorem LoW.upd {w w2 : World} {b : Nat} {G : Nat → Prop} {g : Lo} {a : Option Addr} {c : Nat} {pt : Nat → Pt} (h : LoW w b G g) (hp : LoP w b G g a c pt) {i m : Nat} (hi : i < 4) {l0 : List (Int × Vt)} (hm0 : MapG vtE w m l0) (hG : G m) (hX : Ext (One m) w w2) (s : Sl)
    (hmm : ∀ j, j < 4 → (j ≠ i → (pt j).m1 ≠ m ∧ (pt j).m2 ≠ m)) (h1 : MapG vtE w2 (pt i).m1 s.prep) (h2 : MapG vtE w2 (pt i).m2 s.com) (e : s.prop = (g.sl i).prop ∧ s.cert = (g.sl i).cert ∧ s.done = (g.sl i).done) (o1 : VtsOk s.prep) (o2 : VtsOk s.com) : LoW w2 b G (putS g i s) := by
  have hbm : ¬ One m b := fun e => by
    unfold One at e
    obtain ⟨es, ck, hb, -⟩ := hm0.ex
    have := hp.h
    rw [e, hb] at this
    cases this
  have hbx : ∀ k vs t, G k → Bx w k vs t → ¬ One m k := fun k vs t _ hB e => map_no_box hm0 hB e
  have hcl : ∀ k i v, G k → w.cell? ⟨k, i, none⟩ = some v → ¬ One m k := fun k i v _ hc e => by unfold One at e; subst e; exact map_no_cell hm0 i v hc
  refine ⟨⟨a, c, pt, (hX.block b h.bl hbm).trans hp.h, ?_, hp.ia, fun j hj => ?_, hp.d⟩, h.nb, fun k hk => Nat.lt_of_lt_of_le (h.lt k hk) hX.size, h.conf, h.vw⟩
  · refine hp.ints.ext hX (fun b' o e q => ?_)
    obtain ⟨b2, o2, e2, c2, -⟩ := hp.ints.at_ 0 (by have := h.len.1; omega)
    rw [e] at e2; injection e2 with e2; injection e2 with e2 _; subst e2
    unfold One at q; subst q
    exact map_no_cell hm0 _ _ c2
  · have q := hp.sl j hj
    by_cases e2 : j = i
    · subst e2
      show SlW _ G (pt j) (if j = j then s else g.sl j)
      rw [if_pos rfl]
      exact ⟨by rw [e.1]; exact q.prop.ext hX (fun k vs t hk hB => hbx k vs t hk hB) (fun _ h => h), h1, h2, by rw [e.2.1]; exact q.cert.ext hX (fun k vs t hk hB => hbx k vs t hk hB) (fun k i v hk hc => hcl k i v hk hc) (fun _ h => h), by rw [e.2.2]; exact q.done.ext hX (fun k vs t hk hB => hbx k vs t hk hB) (fun _ h => h), q.f1, q.f2, o1, o2⟩
    · show SlW _ G (pt j) (if j = i then s else g.sl j)
      rw [if_neg e2]
      obtain ⟨d1, d2⟩ := hmm j hj e2
      exact ⟨q.prop.ext hX (fun k vs t hk hB => hbx k vs t hk hB) (fun _ h => h), q.prep.ext hX d1, q.com.ext hX d2, q.cert.ext hX (fun k vs t hk hB => hbx k vs t hk hB) (fun k i v hk hc => hcl k i v hk hc) (fun _ h => h), q.done.ext hX (fun k vs t hk hB => hbx k vs t hk hB) (fun _ h => h), q.f1, q.f2, q.ok1, q.ok2⟩
set_option maxHeartbeats 2000000 in
set_option maxRecDepth 100000 in
theorem log_Propose (b : Nat) (G : Nat → Prop) (g : Lo) (n : Int) (hn : I64 n) (c s k : Int) (key : ByteArray) (x : Nat) (id : Int) (hr : ReqOk ⟨c, s, ⟨k, key, x, id⟩⟩) (w : World) (h : LoW w b G g) :
    Calls Try.prog 49 #[.pointer (some ⟨b, 0, none⟩), .int .i64 n, .agg #[.int .i64 c, .int .i64 s, .int .i64 k, .string key, .float .f64 x, .int .i64 id]] w fun e w' =>
    e = .returned (.int .i64 (proposeE g n ⟨c, s, ⟨k, key, x, id⟩⟩)) ∧ ∃ G', LoW w' b G' (proposeG g n ⟨c, s, ⟨k, key, x, id⟩⟩) ∧ (∀ k, G' k → G k ∨ w.heap.size ≤ k) ∧ Ext (One b) w w' := by
  have HL := Go.Lib.hid h
  obtain ⟨a, cc, pt, P⟩ := h.parts
  have HP := Go.Lib.hid P
  have c0 := P.c0
  have HR := Go.Lib.hid hr
  have hbl := h.bl
  have DE : Hid (proposeE g n ⟨c, s, ⟨k, key, x, id⟩⟩ = if askedB ⟨c, s, ⟨k, key, x, id⟩⟩ = true then (match idxN g.ep n with | none => 14 | some i => match (g.sl i).prop with | some y => if sameT y ⟨c, s, ⟨k, key, x, id⟩⟩ = true then 7 else 22 | none => 0) else 1) := Go.Lib.hid rfl
  have DG : Hid (proposeG g n ⟨c, s, ⟨k, key, x, id⟩⟩ = if proposeE g n ⟨c, s, ⟨k, key, x, id⟩⟩ = 0 then (match idxN g.ep n with | some i => putS g i (lookS g.mem g.view n { g.sl i with prop := some ⟨c, s, ⟨k, key, x, id⟩⟩ }) | none => g) else g) := Go.Lib.hid rfl
  have ST : Hid (∀ (e : Int) (w' : World), proposeE g n ⟨c, s, ⟨k, key, x, id⟩⟩ = e → e ≠ 0 → Ext Non w w' → Ending.returned (.int .i64 e) = Ending.returned (.int .i64 (proposeE g n ⟨c, s, ⟨k, key, x, id⟩⟩)) ∧ ∃ G', LoW w' b G' (proposeG g n ⟨c, s, ⟨k, key, x, id⟩⟩) ∧ (∀ k, G' k → G k ∨ w.heap.size ≤ k) ∧ Ext (One b) w w') := Go.Lib.hid (fun e w' h1 h2 hx => ⟨ret_int h1.symm, G, by rw [DG.out, if_neg (by rw [h1]; exact h2)]; exact HL.out.extN hx, fun k hk => .inl hk, hx.ofNon⟩)
  clear P h hr
  cases ha : askedB ⟨c, s, ⟨k, key, x, id⟩⟩
  · as_aux_lemma =>
    have HE : Hid (proposeE g n ⟨c, s, ⟨k, key, x, id⟩⟩ = 1) := Go.Lib.hid (by rw [DE.out, ha]; rfl)
    have HM := Go.Lib.hid (slots_may_bad b n c s k key x id HR.out ha)
    clear ha
    go_enter Try.func49, Try.ntmps49
    go_wp2_with fail
    refine Calls.ew (HM.out _) ?_
    rintro e x1 rfl
    go_wp2
    go_ret
    exact ST.out _ _ HE.out (by decide) (by (repeat (first | with_reducible exact Ext.refl _ _ | assumption | with_reducible refine Ext.upN ?_ | with_reducible refine Ext.alloc ?_ _ | with_reducible refine Ext.upA (by assumption) ?_ | with_reducible refine Ext.upW ?_ | with_reducible refine Ext.drew ?_ | with_reducible refine Ext.drewN ?_ _ | with_reducible refine Ext.upF ?_ | with_reducible refine Ext.upFF (by first | omega | simp) ?_ | with_reducible refine Ext.setCellsF _ _ _ (by first | omega | simp) ?_ | with_reducible refine Ext.setCellF _ _ _ (by first | omega | simp) ?_ | with_reducible refine Ext.upFN (by first | omega | simp) ?_ | with_reducible refine Ext.up1F (by first | omega | simp) ?_ | with_reducible refine Ext.up1N (by first | omega | simp) ?_ | with_reducible refine Ext.setCell ?_ (.inr (by first | omega | simp)) _ | refine Ext.alloc ?_ _ | refine Ext.setCellF _ _ _ (by first | omega | simp) ?_ | refine Ext.setCell ?_ (.inr (by first | omega | simp)) _)))
  have HM := Go.Lib.hid (fun w h => slots_may_good b g.ep n c s k key x id HR.out HL.out.epb hn ha w h)
  cases hio : idxN g.ep n with
  | none =>
    as_aux_lemma =>
    have HE : Hid (proposeE g n ⟨c, s, ⟨k, key, x, id⟩⟩ = 14) := Go.Lib.hid (by rw [DE.out, ha, hio]; rfl)
    rw [hio] at HM
    clear ha hio
    go_enter Try.func49, Try.ntmps49
    go_wp2_with fail
    refine Calls.ew (HM.out _ (by simp only [EW.cellN, alloc_cell_or, c0, Option.some_or])) ?_
    rintro e x1 rfl
    unfold atV
    go_wp2
    go_ret
    exact ST.out _ _ HE.out (by decide) (by (repeat (first | with_reducible exact Ext.refl _ _ | assumption | with_reducible refine Ext.upN ?_ | with_reducible refine Ext.alloc ?_ _ | with_reducible refine Ext.upA (by assumption) ?_ | with_reducible refine Ext.upW ?_ | with_reducible refine Ext.drew ?_ | with_reducible refine Ext.drewN ?_ _ | with_reducible refine Ext.upF ?_ | with_reducible refine Ext.upFF (by first | omega | simp) ?_ | with_reducible refine Ext.setCellsF _ _ _ (by first | omega | simp) ?_ | with_reducible refine Ext.setCellF _ _ _ (by first | omega | simp) ?_ | with_reducible refine Ext.upFN (by first | omega | simp) ?_ | with_reducible refine Ext.up1F (by first | omega | simp) ?_ | with_reducible refine Ext.up1N (by first | omega | simp) ?_ | with_reducible refine Ext.setCell ?_ (.inr (by first | omega | simp)) _ | refine Ext.alloc ?_ _ | refine Ext.setCellF _ _ _ (by first | omega | simp) ?_ | refine Ext.setCell ?_ (.inr (by first | omega | simp)) _)))
  | some i =>
    rw [hio] at HM
    obtain ⟨hi, -⟩ := idxN_lt hio
    have Q := HP.out.sl i hi
    have HQ := Go.Lib.hid Q
    have s0 : w.cell? ⟨b, 3 + i * 5, none⟩ = some (ptV (pt i).pp) := HP.out.cs hi (show 0 < 5 by omega) rfl
    have f0 : w.frozen? ⟨b, 3 + i * 5, none⟩ = false := HP.out.fz _
    have HIO := Go.Lib.hid hio; have HA := Go.Lib.hid ha
    rcases Q.prop with ⟨k1, k2⟩ | ⟨kr, ⟨rc, rs, ⟨rk, rkey, rx, rid⟩⟩, k1, k2, -, hro, hbr⟩
    · have s0' : w.cell? ⟨b, 3 + i * 5, none⟩ = some (.pointer none) := by rw [s0, k1]; rfl
      have HE : Hid (proposeE g n ⟨c, s, ⟨k, key, x, id⟩⟩ = 0) := Go.Lib.hid (by rw [DE.out, ha, hio]; simp only [if_true, k2])
      clear ha hio Q s0 k1 k2
      go_enter Try.func49, Try.ntmps49
      go_wp2_with fail
      refine Calls.ew (HM.out _ (by simp only [EW.cellN, alloc_cell_or, c0, Option.some_or])) ?_
      rintro e x1 rfl
      unfold atV
      have XA : Ext Non w (w.alloc (.cells [.int .i64 c, .int .i64 s, .int .i64 k, .string key, .float .f64 x, .int .i64 id].toArray 49)) := (Ext.refl _ _).alloc _
      have X1 : Ext Non w x1.on := XA.trans x1.ext
      have hsz : w.heap.size < x1.on.heap.size := by have := x1.ext.size; simp at this; omega
      have XB : Ext (One b) x1.on (x1.on.setCell ⟨b, 3 + i * 5, none⟩ (.pointer (some ⟨w.heap.size, 0, none⟩))) := (Ext.refl _ _).set1 _
      have hL1 : LoW (x1.on.setCell ⟨b, 3 + i * 5, none⟩ (.pointer (some ⟨w.heap.size, 0, none⟩))) b (fun k => G k ∨ k = w.heap.size) (putS g i { g.sl i with prop := some ⟨c, s, ⟨k, key, x, id⟩⟩ }) := by
        have q := ((HQ.out.extN X1).set (k := 3 + i * 5) (G' := fun k => G k ∨ k = w.heap.size) HL.out.nb (fun k h => .inl h) (.pointer (some ⟨w.heap.size, 0, none⟩)))
        refine (HL.out.extN X1).put (HP.out.extN X1) hi (show 0 < 5 by omega) _ { pt i with pp := some w.heap.size } _ rfl ⟨rfl, rfl⟩ (fun k h => .inl h) (fun h => by rcases h with h | h; exact HL.out.nb h; omega) (fun k h => by rcases h with h | h; exact (HL.out.extN X1).lt k h; omega) ?_
        exact ⟨.inr ⟨_, _, rfl, rfl, .inr rfl, HR.out, ((Bx.new w [.int .i64 c, .int .i64 s, .int .i64 k, .string key, .float .f64 x, .int .i64 id] 49).extN x1.ext).ext XB (fun e => by unfold One at e; omega)⟩, q.prep, q.com, q.cert, q.done, q.f1, q.f2, q.ok1, q.ok2⟩
      have HL1 := Go.Lib.hid hL1
      clear hL1
      go_wp2_with fail
      refine (slots_look b i _ _ n hi hn _ HL1.out).mono ?_
      rintro e w2 ⟨rfl, G', hL2, hG2, hX2⟩
      have HL2 := Go.Lib.hid hL2; have HG2 := Go.Lib.hid hG2; have HX2 := Go.Lib.hid hX2
      clear hL2 hG2 hX2
      go_wp2
      go_ret
      refine ⟨ret_int HE.out.symm, G', ?_, fun k hk => ?_, (X1.ofNon.trans XB).trans HX2.out⟩
      · rw [DG.out, if_pos HE.out, HIO.out]
        have := HL2.out
        rw [putS_put, putS_same] at this
        exact this
      · rcases HG2.out k hk with h | h
        · rcases h with h | h
          · exact .inl h
          · exact .inr (by omega)
        · exact .inr (by have := XB.size; omega)
    · have s0' : w.cell? ⟨b, 3 + i * 5, none⟩ = some (.pointer (some ⟨kr, 0, none⟩)) := by rw [s0, k1]; rfl
      have n0 : w.cell? ⟨kr, 0, none⟩ = some (.int .i64 rc) := hbr.cell rfl
      have n1 : w.cell? ⟨kr, 1, none⟩ = some (.int .i64 rs) := hbr.cell rfl
      have n2 : w.cell? ⟨kr, 2, none⟩ = some (.int .i64 rk) := hbr.cell rfl
      have n3 : w.cell? ⟨kr, 3, none⟩ = some (.string rkey) := hbr.cell rfl
      have n4 : w.cell? ⟨kr, 4, none⟩ = some (.float .f64 rx) := hbr.cell rfl
      have n5 : w.cell? ⟨kr, 5, none⟩ = some (.int .i64 rid) := hbr.cell rfl
      have HRo := Go.Lib.hid hro
      have HEE : Hid (proposeE g n ⟨c, s, ⟨k, key, x, id⟩⟩ = if sameT ⟨rc, rs, ⟨rk, rkey, rx, rid⟩⟩ ⟨c, s, ⟨k, key, x, id⟩⟩ = true then 7 else 22) := Go.Lib.hid (by rw [DE.out, ha, hio]; simp only [if_true, k2])
      clear ha hio Q s0 k1 k2 hbr hro
      go_enter Try.func49, Try.ntmps49
      go_wp2_with fail
      refine Calls.ew (HM.out _ (by simp only [EW.cellN, alloc_cell_or, c0, Option.some_or])) ?_
      rintro e x1 rfl
      unfold atV
      go_upto_region 5 with fail
      cases hsm : sameT ⟨rc, rs, ⟨rk, rkey, rx, rid⟩⟩ ⟨c, s, ⟨k, key, x, id⟩⟩
      · have HSM := Go.Lib.hid hsm
        clear hsm
        (refine wp_region_ext_lit (by kernel_rfl) (by kernel_rfl) ?_; (repeat (go_big_quiet_step ((go_at_call 98; exact Calls.ext_ofv (deeds_Same rc rs rk rkey rx rid c s k key x id HRo.out HR.out _) (congrArg Value.bool HSM.out))))); refine wpQuiet_nil ?_; intro _ hw'; obtain ⟨xq, hw''⟩ := hw'; subst hw'')
        go_wp2
        go_ret
        exact ST.out _ _ (by rw [HEE.out, HSM.out]; rfl) (by decide) (by (repeat (first | with_reducible exact Ext.refl _ _ | assumption | with_reducible refine Ext.upN ?_ | with_reducible refine Ext.alloc ?_ _ | with_reducible refine Ext.upA (by assumption) ?_ | with_reducible refine Ext.upW ?_ | with_reducible refine Ext.drew ?_ | with_reducible refine Ext.drewN ?_ _ | with_reducible refine Ext.upF ?_ | with_reducible refine Ext.upFF (by first | omega | simp) ?_ | with_reducible refine Ext.setCellsF _ _ _ (by first | omega | simp) ?_ | with_reducible refine Ext.setCellF _ _ _ (by first | omega | simp) ?_ | with_reducible refine Ext.upFN (by first | omega | simp) ?_ | with_reducible refine Ext.up1F (by first | omega | simp) ?_ | with_reducible refine Ext.up1N (by first | omega | simp) ?_ | with_reducible refine Ext.setCell ?_ (.inr (by first | omega | simp)) _ | refine Ext.alloc ?_ _ | refine Ext.setCellF _ _ _ (by first | omega | simp) ?_ | refine Ext.setCell ?_ (.inr (by first | omega | simp)) _)))
      · have HSM := Go.Lib.hid hsm
        clear hsm
        (refine wp_region_ext_lit (by kernel_rfl) (by kernel_rfl) ?_; (repeat (go_big_quiet_step ((go_at_call 98; exact Calls.ext_ofv (deeds_Same rc rs rk rkey rx rid c s k key x id HRo.out HR.out _) (congrArg Value.bool HSM.out))))); refine wpQuiet_nil ?_; intro _ hw'; obtain ⟨xq, hw''⟩ := hw'; subst hw'')
        go_wp2
        go_ret
        exact ST.out _ _ (by rw [HEE.out, HSM.out]; rfl) (by decide) (by (repeat (first | with_reducible exact Ext.refl _ _ | assumption | with_reducible refine Ext.upN ?_ | with_reducible refine Ext.alloc ?_ _ | with_reducible refine Ext.upA (by assumption) ?_ | with_reducible refine Ext.upW ?_ | with_reducible refine Ext.drew ?_ | with_reducible refine Ext.drewN ?_ _ | with_reducible refine Ext.upF ?_ | with_reducible refine Ext.upFF (by first | omega | simp) ?_ | with_reducible refine Ext.setCellsF _ _ _ (by first | omega | simp) ?_ | with_reducible refine Ext.setCellF _ _ _ (by first | omega | simp) ?_ | with_reducible refine Ext.upFN (by first | omega | simp) ?_ | with_reducible refine Ext.up1F (by first | omega | simp) ?_ | with_reducible refine Ext.up1N (by first | omega | simp) ?_ | with_reducible refine Ext.setCell ?_ (.inr (by first | omega | simp)) _ | refine Ext.alloc ?_ _ | refine Ext.setCellF _ _ _ (by first | omega | simp) ?_ | refine Ext.setCell ?_ (.inr (by first | omega | simp)) _)))
end Go.Proofs.Ytakbkpklfihfiaa

/- Contracts of layer 14: Log.Prepare, Log.Commit. -/
namespace Go.Proofs.Ytakbkpklfihfiaa
open Go.RowKit Go.Lib F64
set_option linter.unusedSimpArgs false
set_option linter.unusedVariables false
attribute [local go_sem] run_store_float
attribute [local go_sem low] EW.cellN EW.frozN alloc_cell_or alloc_froz_or EW.cellF EW.frozF EW.cell1 EW.froz1
attribute [local go_sem] relAt relUpon
theorem setG_ok {l : List (Int × Vt)} (h : VtsOk l) {k : Int} {v : Vt} (hv : v.ok) : VtsOk (setG l k v) := by
  intro p hp
  unfold setG at hp
  split at hp
  · obtain ⟨q, hq, rfl⟩ := List.mem_map.1 hp
    split
    · exact hv
    · exact h q hq
  · rcases List.mem_append.1 hp with hp | hp
    · exact h p hp
    · simp at hp; subst hp; exact hv
set_option maxHeartbeats 4000000 in
set_option maxRecDepth 100000 in
theorem log_Prepare (b : Nat) (G : Nat → Prop) (g : Lo) (from_ n : Int) (hf : I64 from_) (hn : I64 n) (c s k : Int) (key : ByteArray) (x : Nat) (id : Int) (hr : ReqOk ⟨c, s, ⟨k, key, x, id⟩⟩) (by_ : Int) (text : ByteArray) (hby : I64 by_) (htx : text.size ≤ 9223372036854775807) (w : World) (h : LoW w b G g) :
    Calls Try.prog 50 #[.pointer (some ⟨b, 0, none⟩), .int .i64 from_, .int .i64 n, .agg #[.int .i64 c, .int .i64 s, .int .i64 k, .string key, .float .f64 x, .int .i64 id], .agg #[.int .i64 by_, .string text]] w fun e w' =>
    e = .returned (.int .i64 (prepareE g from_ n ⟨c, s, ⟨k, key, x, id⟩⟩ by_ text)) ∧ ∃ G', LoW w' b G' (prepareG g from_ n ⟨c, s, ⟨k, key, x, id⟩⟩ by_ text) ∧ (∀ k, G' k → G k ∨ w.heap.size ≤ k) ∧ Ext (LoF b G) w w' := by
  have HL := Go.Lib.hid h
  obtain ⟨a, cc, pt, P⟩ := h.parts
  have HP := Go.Lib.hid P
  have c0 := P.c0
  have c1 := P.c1
  have c2 := P.c2
  have HR := Go.Lib.hid hr
  have hbl := h.bl
  have hep := h.epb; have hvw := h.vw; have hml := h.len
  have HI : Hid (I64 g.ep ∧ I64 g.view) := Go.Lib.hid ⟨by unfold I64; omega, by unfold I64; omega⟩
  have DE : Hid (prepareE g from_ n ⟨c, s, ⟨k, key, x, id⟩⟩ by_ text = if askedB ⟨c, s, ⟨k, key, x, id⟩⟩ = true then (match idxN g.ep n with | none => 14 | some i => if hasB g.mem from_ = true then (if by_ = from_ ∧ text = prepS g.ep g.view n ⟨c, s, ⟨k, key, x, id⟩⟩ then (if hasG (g.sl i).prep from_ = true then 7 else 0) else 16) else 8) else 1) := Go.Lib.hid rfl
  have DG : Hid (prepareG g from_ n ⟨c, s, ⟨k, key, x, id⟩⟩ by_ text = if prepareE g from_ n ⟨c, s, ⟨k, key, x, id⟩⟩ by_ text = 0 then (match idxN g.ep n with | some i => putS g i (lookS g.mem g.view n { g.sl i with prep := setG (g.sl i).prep from_ ⟨⟨c, s, ⟨k, key, x, id⟩⟩, by_, text⟩ }) | none => g) else g) := Go.Lib.hid rfl
  have ST : Hid (∀ (e : Int) (w' : World), prepareE g from_ n ⟨c, s, ⟨k, key, x, id⟩⟩ by_ text = e → e ≠ 0 → Ext Non w w' → Ending.returned (.int .i64 e) = Ending.returned (.int .i64 (prepareE g from_ n ⟨c, s, ⟨k, key, x, id⟩⟩ by_ text)) ∧ ∃ G', LoW w' b G' (prepareG g from_ n ⟨c, s, ⟨k, key, x, id⟩⟩ by_ text) ∧ (∀ k, G' k → G k ∨ w.heap.size ≤ k) ∧ Ext (LoF b G) w w') := Go.Lib.hid (fun e w' h1 h2 hx => ⟨ret_int h1.symm, G, by rw [DG.out, if_neg (by rw [h1]; exact h2)]; exact HL.out.extN hx, fun k hk => .inl hk, hx.ofNon⟩)
  clear P h hr
  cases ha : askedB ⟨c, s, ⟨k, key, x, id⟩⟩
  · as_aux_lemma =>
    have HE : Hid (prepareE g from_ n ⟨c, s, ⟨k, key, x, id⟩⟩ by_ text = 1) := Go.Lib.hid (by rw [DE.out, ha]; rfl)
    have HM := Go.Lib.hid (slots_may_bad b n c s k key x id HR.out ha)
    clear ha
    go_enter Try.func50, Try.ntmps50
    go_wp2_with fail
    refine Calls.ew (HM.out _) ?_
    rintro e x1 rfl
    go_wp2
    go_ret
    exact ST.out _ _ HE.out (by decide) (by (repeat (first | with_reducible exact Ext.refl _ _ | assumption | with_reducible refine Ext.upN ?_ | with_reducible refine Ext.alloc ?_ _ | with_reducible refine Ext.upA (by assumption) ?_ | with_reducible refine Ext.upW ?_ | with_reducible refine Ext.drew ?_ | with_reducible refine Ext.drewN ?_ _ | with_reducible refine Ext.upF ?_ | with_reducible refine Ext.upFF (by first | omega | simp) ?_ | with_reducible refine Ext.setCellsF _ _ _ (by first | omega | simp) ?_ | with_reducible refine Ext.setCellF _ _ _ (by first | omega | simp) ?_ | with_reducible refine Ext.upFN (by first | omega | simp) ?_ | with_reducible refine Ext.up1F (by first | omega | simp) ?_ | with_reducible refine Ext.up1N (by first | omega | simp) ?_ | with_reducible refine Ext.setCell ?_ (.inr (by first | omega | simp)) _ | refine Ext.alloc ?_ _ | refine Ext.setCellF _ _ _ (by first | omega | simp) ?_ | refine Ext.setCell ?_ (.inr (by first | omega | simp)) _)))
  have HM := Go.Lib.hid (fun w h => slots_may_good b g.ep n c s k key x id HR.out HL.out.epb hn ha w h)
  cases hio : idxN g.ep n with
  | none =>
    as_aux_lemma =>
    have HE : Hid (prepareE g from_ n ⟨c, s, ⟨k, key, x, id⟩⟩ by_ text = 14) := Go.Lib.hid (by rw [DE.out, ha, hio]; rfl)
    rw [hio] at HM
    clear ha hio
    go_enter Try.func50, Try.ntmps50
    go_wp2_with fail
    refine Calls.ew (HM.out _ (by simp only [EW.cellN, alloc_cell_or, c0, Option.some_or])) ?_
    rintro e x1 rfl
    unfold atV
    go_wp2
    go_ret
    exact ST.out _ _ HE.out (by decide) (by (repeat (first | with_reducible exact Ext.refl _ _ | assumption | with_reducible refine Ext.upN ?_ | with_reducible refine Ext.alloc ?_ _ | with_reducible refine Ext.upA (by assumption) ?_ | with_reducible refine Ext.upW ?_ | with_reducible refine Ext.drew ?_ | with_reducible refine Ext.drewN ?_ _ | with_reducible refine Ext.upF ?_ | with_reducible refine Ext.upFF (by first | omega | simp) ?_ | with_reducible refine Ext.setCellsF _ _ _ (by first | omega | simp) ?_ | with_reducible refine Ext.setCellF _ _ _ (by first | omega | simp) ?_ | with_reducible refine Ext.upFN (by first | omega | simp) ?_ | with_reducible refine Ext.up1F (by first | omega | simp) ?_ | with_reducible refine Ext.up1N (by first | omega | simp) ?_ | with_reducible refine Ext.setCell ?_ (.inr (by first | omega | simp)) _ | refine Ext.alloc ?_ _ | refine Ext.setCellF _ _ _ (by first | omega | simp) ?_ | refine Ext.setCell ?_ (.inr (by first | omega | simp)) _)))
  | some i =>
    rw [hio] at HM
    obtain ⟨hi, -⟩ := idxN_lt hio
    have HQ := Go.Lib.hid (HP.out.sl i hi)
    have s1 : w.cell? ⟨b, 3 + i * 5 + 1, none⟩ = some (.map (some (pt i).m1)) := HP.out.cs hi (show 1 < 5 by omega) rfl
    have HIO := Go.Lib.hid hio
    have HEE : Hid (prepareE g from_ n ⟨c, s, ⟨k, key, x, id⟩⟩ by_ text = if hasB g.mem from_ = true then (if by_ = from_ ∧ text = prepS g.ep g.view n ⟨c, s, ⟨k, key, x, id⟩⟩ then (if hasG (g.sl i).prep from_ = true then 7 else 0) else 16) else 8) := Go.Lib.hid (by rw [DE.out, ha, hio]; rfl)
    clear ha hio
    go_enter Try.func50, Try.ntmps50
    go_wp2_with fail
    refine Calls.ew (HM.out _ (by simp only [EW.cellN, alloc_cell_or, c0, Option.some_or])) ?_
    rintro e x1 rfl
    unfold atV
    go_upto_region 4 with fail
    generalize hpt : prepS g.ep g.view n ⟨c, s, ⟨k, key, x, id⟩⟩ = ptx at *
    have HPT := Go.Lib.hid hpt
    clear hpt
    (refine wp_region_ext_lit (by kernel_rfl) (by kernel_rfl) ?_; (repeat (go_big_quiet_step ((go_at_call 70; exact Calls.ext_ofv (deeds_Prepared g.ep g.view n c s k key x id HI.out.1 HI.out.2 hn HR.out.c HR.out.s HR.out.k HR.out.id HR.out.x HR.out.key _) (by rw [HPT.out]))))); refine wpQuiet_nil ?_; intro _ hw'; obtain ⟨xq, hw''⟩ := hw'; subst hw'')
    have hlk : (Instr.lookup 123 (.map (some (pt i).m1)) (.int .i64 from_) true).run Try.prog xq.on = .ok (.tuple #[vtV ((getG (g.sl i).prep from_).getD zeroV), .bool (hasG (g.sl i).prep from_)]) xq.on :=
      MapG.lookup (E := vtE) Try.underlying123 Try.underlying3 (zero_vote _) (HQ.out.prep.extN (by (repeat (first | with_reducible exact Ext.refl _ _ | assumption | with_reducible refine Ext.upN ?_ | with_reducible refine Ext.alloc ?_ _ | with_reducible refine Ext.upA (by assumption) ?_ | with_reducible refine Ext.upW ?_ | with_reducible refine Ext.drew ?_ | with_reducible refine Ext.drewN ?_ _ | with_reducible refine Ext.upF ?_ | with_reducible refine Ext.upFF (by first | omega | simp) ?_ | with_reducible refine Ext.setCellsF _ _ _ (by first | omega | simp) ?_ | with_reducible refine Ext.setCellF _ _ _ (by first | omega | simp) ?_ | with_reducible refine Ext.upFN (by first | omega | simp) ?_ | with_reducible refine Ext.up1F (by first | omega | simp) ?_ | with_reducible refine Ext.up1N (by first | omega | simp) ?_ | with_reducible refine Ext.setCell ?_ (.inr (by first | omega | simp)) _ | refine Ext.alloc ?_ _ | refine Ext.setCellF _ _ _ (by first | omega | simp) ?_ | refine Ext.setCell ?_ (.inr (by first | omega | simp)) _)) : Ext Non w xq.on)) from_
    generalize (getG (g.sl i).prep from_).getD zeroV = vt at *
    obtain ⟨⟨tc, ts, ⟨tk, tkey, tx, tid⟩⟩, tby, ttx⟩ := vt
    unfold vtV at hlk
    simp only at hlk
    go_wp2_with fail
    refine Calls.ew (council_Has g.ep a cc g.mem from_ _ (HP.out.ints.extN (by (repeat (first | with_reducible exact Ext.refl _ _ | assumption | with_reducible refine Ext.upN ?_ | with_reducible refine Ext.alloc ?_ _ | with_reducible refine Ext.upA (by assumption) ?_ | with_reducible refine Ext.upW ?_ | with_reducible refine Ext.drew ?_ | with_reducible refine Ext.drewN ?_ _ | with_reducible refine Ext.upF ?_ | with_reducible refine Ext.upFF (by first | omega | simp) ?_ | with_reducible refine Ext.setCellsF _ _ _ (by first | omega | simp) ?_ | with_reducible refine Ext.setCellF _ _ _ (by first | omega | simp) ?_ | with_reducible refine Ext.upFN (by first | omega | simp) ?_ | with_reducible refine Ext.up1F (by first | omega | simp) ?_ | with_reducible refine Ext.up1N (by first | omega | simp) ?_ | with_reducible refine Ext.setCell ?_ (.inr (by first | omega | simp)) _ | refine Ext.alloc ?_ _ | refine Ext.setCellF _ _ _ (by first | omega | simp) ?_ | refine Ext.setCell ?_ (.inr (by first | omega | simp)) _))))) ?_
    rintro e x3 rfl
    cases hh : hasB g.mem from_
    · as_aux_lemma =>
      have HE : Hid (prepareE g from_ n ⟨c, s, ⟨k, key, x, id⟩⟩ by_ text = 8) := Go.Lib.hid (by rw [HEE.out, hh]; rfl)
      clear hh hlk
      go_wp2
      go_ret
      exact ST.out _ _ HE.out (by decide) (by (repeat (first | with_reducible exact Ext.refl _ _ | assumption | with_reducible refine Ext.upN ?_ | with_reducible refine Ext.alloc ?_ _ | with_reducible refine Ext.upA (by assumption) ?_ | with_reducible refine Ext.upW ?_ | with_reducible refine Ext.drew ?_ | with_reducible refine Ext.drewN ?_ _ | with_reducible refine Ext.upF ?_ | with_reducible refine Ext.upFF (by first | omega | simp) ?_ | with_reducible refine Ext.setCellsF _ _ _ (by first | omega | simp) ?_ | with_reducible refine Ext.setCellF _ _ _ (by first | omega | simp) ?_ | with_reducible refine Ext.upFN (by first | omega | simp) ?_ | with_reducible refine Ext.up1F (by first | omega | simp) ?_ | with_reducible refine Ext.up1N (by first | omega | simp) ?_ | with_reducible refine Ext.setCell ?_ (.inr (by first | omega | simp)) _ | refine Ext.alloc ?_ _ | refine Ext.setCellF _ _ _ (by first | omega | simp) ?_ | refine Ext.setCell ?_ (.inr (by first | omega | simp)) _)))
    have HHh := Go.Lib.hid hh
    clear hh hlk
    by_cases hb : by_ = from_
    · subst hb
      have hbb : (by_ != by_) = false := by simp
      have hbe : (by_ == by_) = true := by simp
      by_cases ht : text = ptx
      · have hte : (text.toList == ptx.toList) = true := by rw [ht]; simp
        have hte2 : text.toList = ptx.toList := by rw [ht]
        have HT := Go.Lib.hid ht
        clear ht
        cases hgs : hasG (g.sl i).prep by_
        · have HGS := Go.Lib.hid hgs
          have HE : Hid (prepareE g by_ n ⟨c, s, ⟨k, key, x, id⟩⟩ by_ text = 0) := Go.Lib.hid (by rw [HEE.out, HHh.out, if_pos rfl, if_pos ⟨rfl, HT.out⟩, HGS.out]; rfl)
          clear hgs
          go_upto_region 12 with fail
          apply wp_region_rel_tail 8 (relR [Mo.is _, Mo.is _, Mo.is _, Mo.is _, Mo.is _, Mo.is _, Mo.is _, Mo.is _]) (by kernel_rfl) (by kernel_rfl) (by kernel_rfl) (by kernel_rfl) (by kernel_rfl) (by decide) (by kernel_rfl) (relR_mono _) (StepD.all ?st4) ?q4
          case st4 =>
            refine ⟨?_, ?_, ?_, ?_, ?_, ?_, ?_, ?_, trivial⟩
            · intro a' w' hx hs hd
              obtain ⟨y, rfl⟩ := hx.ew
              have e11 : a'.tmps[11]?.getD undef = _ := hs 11 rfl
              simp only [List.getElem?_toArray, List.getElem?_cons_succ, List.getElem?_cons_zero, Option.getD_some, Array.getElem?_eq_some_iff] at e11
              refine .inl ⟨rfl, ?_⟩
              clear hs hd hx
              go_simp
              exact ⟨Ext.refl _ _, rfl⟩
            · intro a' w' hx hs hd
              obtain ⟨y, rfl⟩ := hx.ew
              have e67 : a'.tmps[67]?.getD undef = _ := hd 0 67 rfl rfl
              refine .inl ⟨rfl, ?_⟩
              clear hs hd hx
              go_simp
              exact ⟨Ext.refl _ _, rfl⟩
            · intro a' w' hx hs hd
              obtain ⟨y, rfl⟩ := hx.ew
              have e68 : a'.tmps[68]?.getD undef = _ := hd 1 68 rfl rfl
              refine .inl ⟨rfl, ?_⟩
              clear hs hd hx
              go_simp
              exact ⟨Ext.refl _ _, rfl⟩
            · intro a' w' hx hs hd
              obtain ⟨y, rfl⟩ := hx.ew
              have e69 : a'.tmps[69]?.getD undef = _ := hd 2 69 rfl rfl
              refine .inl ⟨rfl, ?_⟩
              clear hs hd hx
              go_simp
              exact ⟨Ext.refl _ _, rfl⟩
            · intro a' w' hx hs hd
              obtain ⟨y, rfl⟩ := hx.ew
              have e1 : a'.tmps[1]?.getD undef = _ := hs 1 rfl
              simp only [List.getElem?_toArray, List.getElem?_cons_succ, List.getElem?_cons_zero, Option.getD_some, Array.getElem?_eq_some_iff] at e1
              refine .inl ⟨rfl, ?_⟩
              clear hs hd hx
              go_simp
              exact ⟨Ext.refl _ _, rfl⟩
            · intro a' w' hx hs hd
              obtain ⟨y, rfl⟩ := hx.ew
              have e8 : a'.tmps[8]?.getD undef = _ := hs 8 rfl
              simp only [List.getElem?_toArray, List.getElem?_cons_succ, List.getElem?_cons_zero, Option.getD_some, Array.getElem?_eq_some_iff] at e8
              refine .inl ⟨rfl, ?_⟩
              clear hs hd hx
              go_simp
              exact ⟨Ext.refl _ _, rfl⟩
            · intro a' w' hx hs hd
              obtain ⟨y, rfl⟩ := hx.ew
              have e9 : a'.tmps[9]?.getD undef = _ := hs 9 rfl
              simp only [List.getElem?_toArray, List.getElem?_cons_succ, List.getElem?_cons_zero, Option.getD_some, Array.getElem?_eq_some_iff] at e9
              refine .inl ⟨rfl, ?_⟩
              clear hs hd hx
              go_simp
              exact ⟨Ext.refl _ _, rfl⟩
            · intro a' w' hx hs hd
              obtain ⟨y, rfl⟩ := hx.ew
              have e72 : a'.tmps[72]?.getD undef = _ := hd 5 72 rfl rfl
              have e73 : a'.tmps[73]?.getD undef = _ := hd 6 73 rfl rfl
              refine .inl ⟨rfl, ?_⟩
              clear hs hd hx
              go_simp
              exact ⟨Ext.refl _ _, rfl⟩
          case' q4 =>
            intro vs w' hx hRR
            obtain ⟨x5, rfl⟩ := hx.ew
            have q0 : vs 0 = _ := hRR 0 (by decide)
            have q1 : vs 1 = _ := hRR 1 (by decide)
            have q2 : vs 2 = _ := hRR 2 (by decide)
            have q3 : vs 3 = _ := hRR 3 (by decide)
            have q4 : vs 4 = _ := hRR 4 (by decide)
            have q5 : vs 5 = _ := hRR 5 (by decide)
            have q6 : vs 6 = _ := hRR 6 (by decide)
            have q7 : vs 7 = _ := hRR 7 (by decide)
            clear hRR hx
            simp only [putAll, List.take_succ_cons, List.take_zero, List.drop_succ_cons, List.drop_zero, Act.put, List.setIfInBounds_toArray, List.set_cons_zero, List.set_cons_succ, Nat.reduceAdd, Nat.zero_add]
            simp only [q0, q1, q2, q3, q4, q5, q6, q7]
            clear q0 q1 q2 q3 q4 q5 q6 q7 vs
          have X5 : Ext Non w x5.on := by (repeat (first | with_reducible exact Ext.refl _ _ | assumption | with_reducible refine Ext.upN ?_ | with_reducible refine Ext.alloc ?_ _ | with_reducible refine Ext.upA (by assumption) ?_ | with_reducible refine Ext.upW ?_ | with_reducible refine Ext.drew ?_ | with_reducible refine Ext.drewN ?_ _ | with_reducible refine Ext.upF ?_ | with_reducible refine Ext.upFF (by first | omega | simp) ?_ | with_reducible refine Ext.setCellsF _ _ _ (by first | omega | simp) ?_ | with_reducible refine Ext.setCellF _ _ _ (by first | omega | simp) ?_ | with_reducible refine Ext.upFN (by first | omega | simp) ?_ | with_reducible refine Ext.up1F (by first | omega | simp) ?_ | with_reducible refine Ext.up1N (by first | omega | simp) ?_ | with_reducible refine Ext.setCell ?_ (.inr (by first | omega | simp)) _ | refine Ext.alloc ?_ _ | refine Ext.setCellF _ _ _ (by first | omega | simp) ?_ | refine Ext.setCell ?_ (.inr (by first | omega | simp)) _))
          have hLx := HL.out.extN X5
          have hPx := HP.out.extN X5
          have hQx := hPx.sl i hi
          obtain ⟨w2, hup, hM, hX⟩ := MapG.update (P := Try.prog) (E := vtE) Try.underlying123 Try.underlying3 hQx.prep by_ ⟨⟨c, s, ⟨k, key, x, id⟩⟩, by_, text⟩
          have hup' : (Instr.mapUpdate 123 (.map (some (pt i).m1)) (.int .i64 by_) (.agg #[.int .i64 c, .int .i64 s, .int .i64 k, .string key, .float .f64 x, .int .i64 id, .int .i64 by_, .string text])).run Try.prog x5.on = .ok () w2 := hup
          have hd := HP.out.d
          have hmb : (pt i).m2 ≠ (pt i).m1 := fun e => (hd i i hi hi).2.2 e.symm
          have hL1 : LoW w2 b G (putS g i { g.sl i with prep := setG (g.sl i).prep by_ ⟨⟨c, s, ⟨k, key, x, id⟩⟩, by_, text⟩ }) :=
            hLx.upd hPx hi hQx.prep hQx.f1 hX _ (fun j hj hne => ⟨fun e => hne ((hd j i hj hi).1 e), fun e => (hd i j hi hj).2.2 e.symm⟩) hM (hQx.com.ext hX (fun e => hmb e)) ⟨rfl, rfl, rfl⟩ (setG_ok hQx.ok1 ⟨HR.out, hby, htx⟩) hQx.ok2
          have HL1 := Go.Lib.hid hL1
          have HX : Hid (Ext (LoF b G) w w2) := Go.Lib.hid (X5.ofNon.trans (hX.mono (fun k _ e => by unfold One at e; subst e; exact .inr hQx.f1)))
          clear hup hM hX hL1 hQx hPx hLx hd hmb
          go_wp2_with fail
          refine (slots_look b i _ _ n hi hn _ HL1.out).mono ?_
          rintro e w3 ⟨rfl, G', hL2, hG2, hX2⟩
          have HL2 := Go.Lib.hid hL2; have HG2 := Go.Lib.hid hG2; have HX2 := Go.Lib.hid hX2
          clear hL2 hG2 hX2 hup'
          go_wp2
          go_ret
          refine ⟨ret_int HE.out.symm, G', ?_, fun k hk => ?_, HX.out.trans (HX2.out.mono (fun k _ e => .inl e))⟩
          · rw [DG.out, if_pos HE.out, HIO.out]
            have := HL2.out
            rw [putS_put, putS_same] at this
            exact this
          · rcases HG2.out k hk with h | h
            · exact .inl h
            · exact .inr (by have := HX.out.size; omega)
        · as_aux_lemma =>
          have HGS := Go.Lib.hid hgs
          have HE : Hid (prepareE g by_ n ⟨c, s, ⟨k, key, x, id⟩⟩ by_ text = 7) := Go.Lib.hid (by rw [HEE.out, HHh.out, if_pos rfl, if_pos ⟨rfl, HT.out⟩, HGS.out]; rfl)
          clear hgs
          go_wp2
          go_ret
          exact ST.out _ _ HE.out (by decide) (by (repeat (first | with_reducible exact Ext.refl _ _ | assumption | with_reducible refine Ext.upN ?_ | with_reducible refine Ext.alloc ?_ _ | with_reducible refine Ext.upA (by assumption) ?_ | with_reducible refine Ext.upW ?_ | with_reducible refine Ext.drew ?_ | with_reducible refine Ext.drewN ?_ _ | with_reducible refine Ext.upF ?_ | with_reducible refine Ext.upFF (by first | omega | simp) ?_ | with_reducible refine Ext.setCellsF _ _ _ (by first | omega | simp) ?_ | with_reducible refine Ext.setCellF _ _ _ (by first | omega | simp) ?_ | with_reducible refine Ext.upFN (by first | omega | simp) ?_ | with_reducible refine Ext.up1F (by first | omega | simp) ?_ | with_reducible refine Ext.up1N (by first | omega | simp) ?_ | with_reducible refine Ext.setCell ?_ (.inr (by first | omega | simp)) _ | refine Ext.alloc ?_ _ | refine Ext.setCellF _ _ _ (by first | omega | simp) ?_ | refine Ext.setCell ?_ (.inr (by first | omega | simp)) _)))
      · as_aux_lemma =>
        have hte : (text.toList == ptx.toList) = false := by rw [beq_eq_false_iff_ne]; intro h; exact ht (toList_inj h)
        have hte2 : ¬ text.toList = ptx.toList := fun h => ht (toList_inj h)
        have HE : Hid (prepareE g by_ n ⟨c, s, ⟨k, key, x, id⟩⟩ by_ text = 16) := Go.Lib.hid (by rw [HEE.out, HHh.out, if_pos rfl, if_neg (fun h => ht h.2)])
        clear ht
        go_wp2
        go_ret
        exact ST.out _ _ HE.out (by decide) (by (repeat (first | with_reducible exact Ext.refl _ _ | assumption | with_reducible refine Ext.upN ?_ | with_reducible refine Ext.alloc ?_ _ | with_reducible refine Ext.upA (by assumption) ?_ | with_reducible refine Ext.upW ?_ | with_reducible refine Ext.drew ?_ | with_reducible refine Ext.drewN ?_ _ | with_reducible refine Ext.upF ?_ | with_reducible refine Ext.upFF (by first | omega | simp) ?_ | with_reducible refine Ext.setCellsF _ _ _ (by first | omega | simp) ?_ | with_reducible refine Ext.setCellF _ _ _ (by first | omega | simp) ?_ | with_reducible refine Ext.upFN (by first | omega | simp) ?_ | with_reducible refine Ext.up1F (by first | omega | simp) ?_ | with_reducible refine Ext.up1N (by first | omega | simp) ?_ | with_reducible refine Ext.setCell ?_ (.inr (by first | omega | simp)) _ | refine Ext.alloc ?_ _ | refine Ext.setCellF _ _ _ (by first | omega | simp) ?_ | refine Ext.setCell ?_ (.inr (by first | omega | simp)) _)))
    · as_aux_lemma =>
      have hbn : (by_ != from_) = true := by rw [bne_iff_ne]; exact hb
      have hbe : (by_ == from_) = false := by rw [beq_eq_false_iff_ne]; exact hb
      have HE : Hid (prepareE g from_ n ⟨c, s, ⟨k, key, x, id⟩⟩ by_ text = 16) := Go.Lib.hid (by rw [HEE.out, HHh.out, if_pos rfl, if_neg (fun h => hb h.1)])
      go_wp2
      go_ret
      exact ST.out _ _ HE.out (by decide) (by (repeat (first | with_reducible exact Ext.refl _ _ | assumption | with_reducible refine Ext.upN ?_ | with_reducible refine Ext.alloc ?_ _ | with_reducible refine Ext.upA (by assumption) ?_ | with_reducible refine Ext.upW ?_ | with_reducible refine Ext.drew ?_ | with_reducible refine Ext.drewN ?_ _ | with_reducible refine Ext.upF ?_ | with_reducible refine Ext.upFF (by first | omega | simp) ?_ | with_reducible refine Ext.setCellsF _ _ _ (by first | omega | simp) ?_ | with_reducible refine Ext.setCellF _ _ _ (by first | omega | simp) ?_ | with_reducible refine Ext.upFN (by first | omega | simp) ?_ | with_reducible refine Ext.up1F (by first | omega | simp) ?_ | with_reducible refine Ext.up1N (by first | omega | simp) ?_ | with_reducible refine Ext.setCell ?_ (.inr (by first | omega | simp)) _ | refine Ext.alloc ?_ _ | refine Ext.setCellF _ _ _ (by first | omega | simp) ?_ | refine Ext.setCell ?_ (.inr (by first | omega | simp)) _)))
set_option maxHeartbeats 4000000 in
set_option maxRecDepth 100000 in
theorem log_Commit (b : Nat) (G : Nat → Prop) (g : Lo) (from_ n : Int) (hf : I64 from_) (hn : I64 n) (c s k : Int) (key : ByteArray) (x : Nat) (id : Int) (hr : ReqOk ⟨c, s, ⟨k, key, x, id⟩⟩) (w : World) (h : LoW w b G g) :
    Calls Try.prog 51 #[.pointer (some ⟨b, 0, none⟩), .int .i64 from_, .int .i64 n, .agg #[.int .i64 c, .int .i64 s, .int .i64 k, .string key, .float .f64 x, .int .i64 id]] w fun e w' =>
    e = .returned (.int .i64 (commitE g from_ n ⟨c, s, ⟨k, key, x, id⟩⟩)) ∧ ∃ G', LoW w' b G' (commitG g from_ n ⟨c, s, ⟨k, key, x, id⟩⟩) ∧ (∀ k, G' k → G k ∨ w.heap.size ≤ k) ∧ Ext (LoF b G) w w' := by
  have HL := Go.Lib.hid h
  obtain ⟨a, cc, pt, P⟩ := h.parts
  have HP := Go.Lib.hid P
  have c0 := P.c0
  have c1 := P.c1
  have HR := Go.Lib.hid hr
  have hbl := h.bl
  have hml := h.len
  have DE : Hid (commitE g from_ n ⟨c, s, ⟨k, key, x, id⟩⟩ = if askedB ⟨c, s, ⟨k, key, x, id⟩⟩ = true then (match idxN g.ep n with | none => 14 | some i => if hasB g.mem from_ = true then (if hasG (g.sl i).com from_ = true then 7 else 0) else 8) else 1) := Go.Lib.hid rfl
  have DG : Hid (commitG g from_ n ⟨c, s, ⟨k, key, x, id⟩⟩ = if commitE g from_ n ⟨c, s, ⟨k, key, x, id⟩⟩ = 0 then (match idxN g.ep n with | some i => putS g i (lookS g.mem g.view n { g.sl i with com := setG (g.sl i).com from_ ⟨⟨c, s, ⟨k, key, x, id⟩⟩, 0, ByteArray.empty⟩ }) | none => g) else g) := Go.Lib.hid rfl
  have ST : Hid (∀ (e : Int) (w' : World), commitE g from_ n ⟨c, s, ⟨k, key, x, id⟩⟩ = e → e ≠ 0 → Ext Non w w' → Ending.returned (.int .i64 e) = Ending.returned (.int .i64 (commitE g from_ n ⟨c, s, ⟨k, key, x, id⟩⟩)) ∧ ∃ G', LoW w' b G' (commitG g from_ n ⟨c, s, ⟨k, key, x, id⟩⟩) ∧ (∀ k, G' k → G k ∨ w.heap.size ≤ k) ∧ Ext (LoF b G) w w') := Go.Lib.hid (fun e w' h1 h2 hx => ⟨ret_int h1.symm, G, by rw [DG.out, if_neg (by rw [h1]; exact h2)]; exact HL.out.extN hx, fun k hk => .inl hk, hx.ofNon⟩)
  clear P h hr
  cases ha : askedB ⟨c, s, ⟨k, key, x, id⟩⟩
  · as_aux_lemma =>
    have HE : Hid (commitE g from_ n ⟨c, s, ⟨k, key, x, id⟩⟩ = 1) := Go.Lib.hid (by rw [DE.out, ha]; rfl)
    have HM := Go.Lib.hid (slots_may_bad b n c s k key x id HR.out ha)
    clear ha
    go_enter Try.func51, Try.ntmps51
    go_wp2_with fail
    refine Calls.ew (HM.out _) ?_
    rintro e x1 rfl
    go_wp2
    go_ret
    exact ST.out _ _ HE.out (by decide) (by (repeat (first | with_reducible exact Ext.refl _ _ | assumption | with_reducible refine Ext.upN ?_ | with_reducible refine Ext.alloc ?_ _ | with_reducible refine Ext.upA (by assumption) ?_ | with_reducible refine Ext.upW ?_ | with_reducible refine Ext.drew ?_ | with_reducible refine Ext.drewN ?_ _ | with_reducible refine Ext.upF ?_ | with_reducible refine Ext.upFF (by first | omega | simp) ?_ | with_reducible refine Ext.setCellsF _ _ _ (by first | omega | simp) ?_ | with_reducible refine Ext.setCellF _ _ _ (by first | omega | simp) ?_ | with_reducible refine Ext.upFN (by first | omega | simp) ?_ | with_reducible refine Ext.up1F (by first | omega | simp) ?_ | with_reducible refine Ext.up1N (by first | omega | simp) ?_ | with_reducible refine Ext.setCell ?_ (.inr (by first | omega | simp)) _ | refine Ext.alloc ?_ _ | refine Ext.setCellF _ _ _ (by first | omega | simp) ?_ | refine Ext.setCell ?_ (.inr (by first | omega | simp)) _)))
  have HM := Go.Lib.hid (fun w h => slots_may_good b g.ep n c s k key x id HR.out HL.out.epb hn ha w h)
  cases hio : idxN g.ep n with
  | none =>
    as_aux_lemma =>
    have HE : Hid (commitE g from_ n ⟨c, s, ⟨k, key, x, id⟩⟩ = 14) := Go.Lib.hid (by rw [DE.out, ha, hio]; rfl)
    rw [hio] at HM
    clear ha hio
    go_enter Try.func51, Try.ntmps51
    go_wp2_with fail
    refine Calls.ew (HM.out _ (by simp only [EW.cellN, alloc_cell_or, c0, Option.some_or])) ?_
    rintro e x1 rfl
    unfold atV
    go_wp2
    go_ret
    exact ST.out _ _ HE.out (by decide) (by (repeat (first | with_reducible exact Ext.refl _ _ | assumption | with_reducible refine Ext.upN ?_ | with_reducible refine Ext.alloc ?_ _ | with_reducible refine Ext.upA (by assumption) ?_ | with_reducible refine Ext.upW ?_ | with_reducible refine Ext.drew ?_ | with_reducible refine Ext.drewN ?_ _ | with_reducible refine Ext.upF ?_ | with_reducible refine Ext.upFF (by first | omega | simp) ?_ | with_reducible refine Ext.setCellsF _ _ _ (by first | omega | simp) ?_ | with_reducible refine Ext.setCellF _ _ _ (by first | omega | simp) ?_ | with_reducible refine Ext.upFN (by first | omega | simp) ?_ | with_reducible refine Ext.up1F (by first | omega | simp) ?_ | with_reducible refine Ext.up1N (by first | omega | simp) ?_ | with_reducible refine Ext.setCell ?_ (.inr (by first | omega | simp)) _ | refine Ext.alloc ?_ _ | refine Ext.setCellF _ _ _ (by first | omega | simp) ?_ | refine Ext.setCell ?_ (.inr (by first | omega | simp)) _)))
  | some i =>
    rw [hio] at HM
    obtain ⟨hi, -⟩ := idxN_lt hio
    have HQ := Go.Lib.hid (HP.out.sl i hi)
    have s2 : w.cell? ⟨b, 3 + i * 5 + 2, none⟩ = some (.map (some (pt i).m2)) := HP.out.cs hi (show 2 < 5 by omega) rfl
    have HIO := Go.Lib.hid hio
    have HEE : Hid (commitE g from_ n ⟨c, s, ⟨k, key, x, id⟩⟩ = if hasB g.mem from_ = true then (if hasG (g.sl i).com from_ = true then 7 else 0) else 8) := Go.Lib.hid (by rw [DE.out, ha, hio]; rfl)
    clear ha hio
    go_enter Try.func51, Try.ntmps51
    go_wp2_with fail
    refine Calls.ew (HM.out _ (by simp only [EW.cellN, alloc_cell_or, c0, Option.some_or])) ?_
    rintro e x1 rfl
    unfold atV
    go_wp2_with fail
    refine Calls.ew (council_Has g.ep a cc g.mem from_ _ (HP.out.ints.extN (by (repeat (first | with_reducible exact Ext.refl _ _ | assumption | with_reducible refine Ext.upN ?_ | with_reducible refine Ext.alloc ?_ _ | with_reducible refine Ext.upA (by assumption) ?_ | with_reducible refine Ext.upW ?_ | with_reducible refine Ext.drew ?_ | with_reducible refine Ext.drewN ?_ _ | with_reducible refine Ext.upF ?_ | with_reducible refine Ext.upFF (by first | omega | simp) ?_ | with_reducible refine Ext.setCellsF _ _ _ (by first | omega | simp) ?_ | with_reducible refine Ext.setCellF _ _ _ (by first | omega | simp) ?_ | with_reducible refine Ext.upFN (by first | omega | simp) ?_ | with_reducible refine Ext.up1F (by first | omega | simp) ?_ | with_reducible refine Ext.up1N (by first | omega | simp) ?_ | with_reducible refine Ext.setCell ?_ (.inr (by first | omega | simp)) _ | refine Ext.alloc ?_ _ | refine Ext.setCellF _ _ _ (by first | omega | simp) ?_ | refine Ext.setCell ?_ (.inr (by first | omega | simp)) _))))) ?_
    rintro e x3 rfl
    cases hh : hasB g.mem from_
    · as_aux_lemma =>
      have HE : Hid (commitE g from_ n ⟨c, s, ⟨k, key, x, id⟩⟩ = 8) := Go.Lib.hid (by rw [HEE.out, hh]; rfl)
      clear hh
      go_wp2
      go_ret
      exact ST.out _ _ HE.out (by decide) (by (repeat (first | with_reducible exact Ext.refl _ _ | assumption | with_reducible refine Ext.upN ?_ | with_reducible refine Ext.alloc ?_ _ | with_reducible refine Ext.upA (by assumption) ?_ | with_reducible refine Ext.upW ?_ | with_reducible refine Ext.drew ?_ | with_reducible refine Ext.drewN ?_ _ | with_reducible refine Ext.upF ?_ | with_reducible refine Ext.upFF (by first | omega | simp) ?_ | with_reducible refine Ext.setCellsF _ _ _ (by first | omega | simp) ?_ | with_reducible refine Ext.setCellF _ _ _ (by first | omega | simp) ?_ | with_reducible refine Ext.upFN (by first | omega | simp) ?_ | with_reducible refine Ext.up1F (by first | omega | simp) ?_ | with_reducible refine Ext.up1N (by first | omega | simp) ?_ | with_reducible refine Ext.setCell ?_ (.inr (by first | omega | simp)) _ | refine Ext.alloc ?_ _ | refine Ext.setCellF _ _ _ (by first | omega | simp) ?_ | refine Ext.setCell ?_ (.inr (by first | omega | simp)) _)))
    have HHh := Go.Lib.hid hh
    clear hh
    have hlk : (Instr.lookup 123 (.map (some (pt i).m2)) (.int .i64 from_) true).run Try.prog x3.on = .ok (.tuple #[vtV ((getG (g.sl i).com from_).getD zeroV), .bool (hasG (g.sl i).com from_)]) x3.on :=
      MapG.lookup (E := vtE) Try.underlying123 Try.underlying3 (zero_vote _) (HQ.out.com.extN (by (repeat (first | with_reducible exact Ext.refl _ _ | assumption | with_reducible refine Ext.upN ?_ | with_reducible refine Ext.alloc ?_ _ | with_reducible refine Ext.upA (by assumption) ?_ | with_reducible refine Ext.upW ?_ | with_reducible refine Ext.drew ?_ | with_reducible refine Ext.drewN ?_ _ | with_reducible refine Ext.upF ?_ | with_reducible refine Ext.upFF (by first | omega | simp) ?_ | with_reducible refine Ext.setCellsF _ _ _ (by first | omega | simp) ?_ | with_reducible refine Ext.setCellF _ _ _ (by first | omega | simp) ?_ | with_reducible refine Ext.upFN (by first | omega | simp) ?_ | with_reducible refine Ext.up1F (by first | omega | simp) ?_ | with_reducible refine Ext.up1N (by first | omega | simp) ?_ | with_reducible refine Ext.setCell ?_ (.inr (by first | omega | simp)) _ | refine Ext.alloc ?_ _ | refine Ext.setCellF _ _ _ (by first | omega | simp) ?_ | refine Ext.setCell ?_ (.inr (by first | omega | simp)) _)) : Ext Non w x3.on)) from_
    generalize (getG (g.sl i).com from_).getD zeroV = vt at *
    obtain ⟨⟨tc, ts, ⟨tk, tkey, tx, tid⟩⟩, tby, ttx⟩ := vt
    unfold vtV at hlk
    simp only at hlk
    cases hgs : hasG (g.sl i).com from_
    · have HGS := Go.Lib.hid hgs
      have HE : Hid (commitE g from_ n ⟨c, s, ⟨k, key, x, id⟩⟩ = 0) := Go.Lib.hid (by rw [HEE.out, HHh.out, if_pos rfl, HGS.out]; rfl)
      rw [hgs] at hlk
      clear hgs
      go_upto_region 9 with fail
      apply wp_region_rel_tail 7 (relR [Mo.is _, Mo.is _, Mo.is _, Mo.is _, Mo.is _, Mo.is _, Mo.is _]) (by kernel_rfl) (by kernel_rfl) (by kernel_rfl) (by kernel_rfl) (by kernel_rfl) (by decide) (by kernel_rfl) (relR_mono _) (StepD.all ?st5) ?q5
      case st5 =>
        refine ⟨?_, ?_, ?_, ?_, ?_, ?_, ?_, trivial⟩
        · intro a' w' hx hs hd
          obtain ⟨y, rfl⟩ := hx.ew
          have e9 : a'.tmps[9]?.getD undef = _ := hs 9 rfl
          simp only [List.getElem?_toArray, List.getElem?_cons_succ, List.getElem?_cons_zero, Option.getD_some, Array.getElem?_eq_some_iff] at e9
          refine .inl ⟨rfl, ?_⟩
          clear hs hd hx
          go_simp
          exact ⟨Ext.refl _ _, rfl⟩
        · intro a' w' hx hs hd
          obtain ⟨y, rfl⟩ := hx.ew
          have e40 : a'.tmps[40]?.getD undef = _ := hd 0 40 rfl rfl
          refine .inl ⟨rfl, ?_⟩
          clear hs hd hx
          go_simp
          exact ⟨Ext.refl _ _, rfl⟩
        · intro a' w' hx hs hd
          obtain ⟨y, rfl⟩ := hx.ew
          have e41 : a'.tmps[41]?.getD undef = _ := hd 1 41 rfl rfl
          refine .inl ⟨rfl, ?_⟩
          clear hs hd hx
          go_simp
          exact ⟨Ext.refl _ _, rfl⟩
        · intro a' w' hx hs hd
          obtain ⟨y, rfl⟩ := hx.ew
          have e42 : a'.tmps[42]?.getD undef = _ := hd 2 42 rfl rfl
          refine .inl ⟨rfl, ?_⟩
          clear hs hd hx
          go_simp
          exact ⟨Ext.refl _ _, rfl⟩
        · intro a' w' hx hs hd
          obtain ⟨y, rfl⟩ := hx.ew
          have e1 : a'.tmps[1]?.getD undef = _ := hs 1 rfl
          simp only [List.getElem?_toArray, List.getElem?_cons_succ, List.getElem?_cons_zero, Option.getD_some, Array.getElem?_eq_some_iff] at e1
          refine .inl ⟨rfl, ?_⟩
          clear hs hd hx
          go_simp
          exact ⟨Ext.refl _ _, rfl⟩
        · intro a' w' hx hs hd
          obtain ⟨y, rfl⟩ := hx.ew
          have e7 : a'.tmps[7]?.getD undef = _ := hs 7 rfl
          simp only [List.getElem?_toArray, List.getElem?_cons_succ, List.getElem?_cons_zero, Option.getD_some, Array.getElem?_eq_some_iff] at e7
          refine .inl ⟨rfl, ?_⟩
          clear hs hd hx
          go_simp
          exact ⟨Ext.refl _ _, rfl⟩
        · intro a' w' hx hs hd
          obtain ⟨y, rfl⟩ := hx.ew
          have e45 : a'.tmps[45]?.getD undef = _ := hd 5 45 rfl rfl
          refine .inl ⟨rfl, ?_⟩
          clear hs hd hx
          go_simp
          exact ⟨Ext.refl _ _, rfl⟩
      case' q5 =>
        intro vs w' hx hRR
        obtain ⟨x5, rfl⟩ := hx.ew
        have q0 : vs 0 = _ := hRR 0 (by decide)
        have q1 : vs 1 = _ := hRR 1 (by decide)
        have q2 : vs 2 = _ := hRR 2 (by decide)
        have q3 : vs 3 = _ := hRR 3 (by decide)
        have q4 : vs 4 = _ := hRR 4 (by decide)
        have q5 : vs 5 = _ := hRR 5 (by decide)
        have q6 : vs 6 = _ := hRR 6 (by decide)
        clear hRR hx
        simp only [putAll, List.take_succ_cons, List.take_zero, List.drop_succ_cons, List.drop_zero, Act.put, List.setIfInBounds_toArray, List.set_cons_zero, List.set_cons_succ, Nat.reduceAdd, Nat.zero_add]
        simp only [q0, q1, q2, q3, q4, q5, q6]
        clear q0 q1 q2 q3 q4 q5 q6 vs
      have X5 : Ext Non w x5.on := by (repeat (first | with_reducible exact Ext.refl _ _ | assumption | with_reducible refine Ext.upN ?_ | with_reducible refine Ext.alloc ?_ _ | with_reducible refine Ext.upA (by assumption) ?_ | with_reducible refine Ext.upW ?_ | with_reducible refine Ext.drew ?_ | with_reducible refine Ext.drewN ?_ _ | with_reducible refine Ext.upF ?_ | with_reducible refine Ext.upFF (by first | omega | simp) ?_ | with_reducible refine Ext.setCellsF _ _ _ (by first | omega | simp) ?_ | with_reducible refine Ext.setCellF _ _ _ (by first | omega | simp) ?_ | with_reducible refine Ext.upFN (by first | omega | simp) ?_ | with_reducible refine Ext.up1F (by first | omega | simp) ?_ | with_reducible refine Ext.up1N (by first | omega | simp) ?_ | with_reducible refine Ext.setCell ?_ (.inr (by first | omega | simp)) _ | refine Ext.alloc ?_ _ | refine Ext.setCellF _ _ _ (by first | omega | simp) ?_ | refine Ext.setCell ?_ (.inr (by first | omega | simp)) _))
      have hLx := HL.out.extN X5
      have hPx := HP.out.extN X5
      have hQx := hPx.sl i hi
      obtain ⟨w2, hup, hM, hX⟩ := MapG.update (P := Try.prog) (E := vtE) Try.underlying123 Try.underlying3 hQx.com from_ ⟨⟨c, s, ⟨k, key, x, id⟩⟩, 0, ByteArray.empty⟩
      have hup' : (Instr.mapUpdate 123 (.map (some (pt i).m2)) (.int .i64 from_) (.agg #[.int .i64 c, .int .i64 s, .int .i64 k, .string key, .float .f64 x, .int .i64 id, .int .i64 0, .string ByteArray.empty])).run Try.prog x5.on = .ok () w2 := hup
      have hup2 : (Instr.mapUpdate 123 (.map (some (pt i).m2)) (.int .i64 from_) (.agg #[.int .i64 c, .int .i64 s, .int .i64 k, .string key, .float .f64 x, .int .i64 id, .int .i64 0, .string ⟨#[]⟩])).run Try.prog x5.on = .ok () w2 := hup
      have hd := HP.out.d
      have hmb : (pt i).m1 ≠ (pt i).m2 := fun e => (hd i i hi hi).2.2 e
      have hL1 : LoW w2 b G (putS g i { g.sl i with com := setG (g.sl i).com from_ ⟨⟨c, s, ⟨k, key, x, id⟩⟩, 0, ByteArray.empty⟩ }) :=
        hLx.upd hPx hi hQx.com hQx.f2 hX _ (fun j hj hne => ⟨fun e => (hd j i hj hi).2.2 e, fun e => hne ((hd j i hj hi).2.1 e)⟩) (hQx.prep.ext hX (fun e => hmb e)) hM ⟨rfl, rfl, rfl⟩ hQx.ok1 (setG_ok hQx.ok2 ⟨HR.out, by show I64 0; unfold I64; omega, by show ByteArray.empty.size ≤ _; decide⟩)
      have HL1 := Go.Lib.hid hL1
      have HX : Hid (Ext (LoF b G) w w2) := Go.Lib.hid (X5.ofNon.trans (hX.mono (fun k _ e => by unfold One at e; subst e; exact .inr hQx.f2)))
      clear hup hM hX hL1 hQx hPx hLx hd hmb hlk
      go_wp2_with fail
      refine (slots_look b i _ _ n hi hn _ HL1.out).mono ?_
      rintro e w3 ⟨rfl, G', hL2, hG2, hX2⟩
      have HL2 := Go.Lib.hid hL2; have HG2 := Go.Lib.hid hG2; have HX2 := Go.Lib.hid hX2
      clear hL2 hG2 hX2 hup' hup2
      go_wp2
      go_ret
      refine ⟨ret_int HE.out.symm, G', ?_, fun k hk => ?_, HX.out.trans (HX2.out.mono (fun k _ e => .inl e))⟩
      · rw [DG.out, if_pos HE.out, HIO.out]
        have := HL2.out
        rw [putS_put, putS_same] at this
        exact this
      · rcases HG2.out k hk with h | h
        · exact .inl h
        · exact .inr (by have := HX.out.size; omega)
    · as_aux_lemma =>
      have HE : Hid (commitE g from_ n ⟨c, s, ⟨k, key, x, id⟩⟩ = 7) := Go.Lib.hid (by rw [HEE.out, HHh.out, if_pos rfl, hgs]; rfl)
      rw [hgs] at hlk
      clear hgs
      go_wp2
      go_ret
      exact ST.out _ _ HE.out (by decide) (by (repeat (first | with_reducible exact Ext.refl _ _ | assumption | with_reducible refine Ext.upN ?_ | with_reducible refine Ext.alloc ?_ _ | with_reducible refine Ext.upA (by assumption) ?_ | with_reducible refine Ext.upW ?_ | with_reducible refine Ext.drew ?_ | with_reducible refine Ext.drewN ?_ _ | with_reducible refine Ext.upF ?_ | with_reducible refine Ext.upFF (by first | omega | simp) ?_ | with_reducible refine Ext.setCellsF _ _ _ (by first | omega | simp) ?_ | with_reducible refine Ext.setCellF _ _ _ (by first | omega | simp) ?_ | with_reducible refine Ext.upFN (by first | omega | simp) ?_ | with_reducible refine Ext.up1F (by first | omega | simp) ?_ | with_reducible refine Ext.up1N (by first | omega | simp) ?_ | with_reducible refine Ext.setCell ?_ (.inr (by first | omega | simp)) _ | refine Ext.alloc ?_ _ | refine Ext.setCellF _ _ _ (by first | omega | simp) ?_ | refine Ext.setCell ?_ (.inr (by first | omega | simp)) _)))
end Go.Proofs.Ytakbkpklfihfiaa

/- Contracts of layer 14: Log.Proposed, Log.Committed, Log.Prepared. -/
namespace Go.Proofs.Ytakbkpklfihfiaa
open Go.RowKit Go.Lib F64
set_option linter.unusedSimpArgs false
set_option linter.unusedVariables false
attribute [local go_sem] run_store_float
attribute [local go_sem low] EW.cellN EW.frozN alloc_cell_or alloc_froz_or EW.cellF EW.frozF EW.cell1 EW.froz1
attribute [local go_sem] relAt relUpon
set_option maxHeartbeats 1000000 in
set_option maxRecDepth 100000 in
theorem log_Proposed (b : Nat) (G : Nat → Prop) (g : Lo) (n : Int) (hn : I64 n) (w : World) (h : LoW w b G g) : Calls Try.prog 47 #[.pointer (some ⟨b, 0, none⟩), .int .i64 n] w fun e w' => e = .returned (toldV (proposedO g n)) ∧ Ext Non w w' := by
  obtain ⟨a, cc, pt, P⟩ := h.parts
  have HP := Go.Lib.hid P
  have c0 := P.c0
  have HE := Go.Lib.hid h.epb
  have DP : Hid (proposedO g n = match idxN g.ep n with | none => none | some i => (g.sl i).prop) := Go.Lib.hid rfl
  clear P h
  cases hio : idxN g.ep n with
  | none =>
    have HZ : Hid (toldV (proposedO g n) = .tuple #[.agg #[.int .i64 0, .int .i64 0, .int .i64 0, .string ByteArray.empty, .float .f64 0, .int .i64 0], .bool false]) := Go.Lib.hid (by rw [DP.out, hio]; rfl)
    have HIO := Go.Lib.hid hio
    clear hio
    go_enter Try.func47, Try.ntmps47
    go_wp2_with fail
    refine (slots_at b g.ep n HE.out hn _ (by simp only [alloc_cell_or, c0, Option.some_or])).mono ?_
    rintro e _ ⟨rfl, rfl⟩
    rw [HIO.out]
    unfold atV
    go_wp2
    go_returns
    exact ⟨by rw [HZ.out]; rfl, by (repeat (first | with_reducible exact Ext.refl _ _ | assumption | with_reducible refine Ext.upN ?_ | with_reducible refine Ext.alloc ?_ _ | with_reducible refine Ext.upA (by assumption) ?_ | with_reducible refine Ext.upW ?_ | with_reducible refine Ext.drew ?_ | with_reducible refine Ext.drewN ?_ _ | with_reducible refine Ext.upF ?_ | with_reducible refine Ext.upFF (by first | omega | simp) ?_ | with_reducible refine Ext.setCellsF _ _ _ (by first | omega | simp) ?_ | with_reducible refine Ext.setCellF _ _ _ (by first | omega | simp) ?_ | with_reducible refine Ext.upFN (by first | omega | simp) ?_ | with_reducible refine Ext.up1F (by first | omega | simp) ?_ | with_reducible refine Ext.up1N (by first | omega | simp) ?_ | with_reducible refine Ext.setCell ?_ (.inr (by first | omega | simp)) _ | refine Ext.alloc ?_ _ | refine Ext.setCellF _ _ _ (by first | omega | simp) ?_ | refine Ext.setCell ?_ (.inr (by first | omega | simp)) _))⟩
  | some i =>
    obtain ⟨hi, -⟩ := idxN_lt hio
    have HQ := Go.Lib.hid (HP.out.sl i hi)
    have s0 : w.cell? ⟨b, 3 + i * 5, none⟩ = some (ptV (pt i).pp) := HP.out.cs hi (show 0 < 5 by omega) rfl
    have HZ : Hid (toldV (proposedO g n) = toldV (g.sl i).prop) := Go.Lib.hid (by rw [DP.out, hio])
    have HIO := Go.Lib.hid hio
    clear hio
    go_enter Try.func47, Try.ntmps47
    go_wp2_with fail
    refine (slots_at b g.ep n HE.out hn _ (by simp only [alloc_cell_or, c0, Option.some_or])).mono ?_
    rintro e _ ⟨rfl, rfl⟩
    rw [HIO.out]
    unfold atV
    go_wp2_with fail
    refine Calls.ew (slots_told G (pt i).pp (g.sl i).prop _ (HQ.out.prop.ext (by (repeat (first | with_reducible exact Ext.refl _ _ | assumption | with_reducible refine Ext.upN ?_ | with_reducible refine Ext.alloc ?_ _ | with_reducible refine Ext.upA (by assumption) ?_ | with_reducible refine Ext.upW ?_ | with_reducible refine Ext.drew ?_ | with_reducible refine Ext.drewN ?_ _ | with_reducible refine Ext.upF ?_ | with_reducible refine Ext.upFF (by first | omega | simp) ?_ | with_reducible refine Ext.setCellsF _ _ _ (by first | omega | simp) ?_ | with_reducible refine Ext.setCellF _ _ _ (by first | omega | simp) ?_ | with_reducible refine Ext.upFN (by first | omega | simp) ?_ | with_reducible refine Ext.up1F (by first | omega | simp) ?_ | with_reducible refine Ext.up1N (by first | omega | simp) ?_ | with_reducible refine Ext.setCell ?_ (.inr (by first | omega | simp)) _ | refine Ext.alloc ?_ _ | refine Ext.setCellF _ _ _ (by first | omega | simp) ?_ | refine Ext.setCell ?_ (.inr (by first | omega | simp)) _)) : Ext Non w _) (fun _ _ _ _ _ f => f) (fun _ h => h))) ?_
    rintro e x1 rfl
    have HT : Hid (toldV (g.sl i).prop = .tuple #[reqV ((g.sl i).prop.getD nullR), .bool (g.sl i).prop.isSome]) := Go.Lib.hid rfl
    rw [HT.out]
    generalize (g.sl i).prop.isSome = fs at *
    generalize (g.sl i).prop.getD nullR = fr at *
    obtain ⟨fc, fst, ⟨fk, fkey, fx, fid⟩⟩ := fr
    unfold reqV
    have hsz : w.heap.size < x1.on.heap.size := by have := x1.ext.size; simp at this; omega
    go_wp2_with (refine wpList_store_box rfl 49 _ _ rfl w.heap.size _ [.int .i64 fc, .int .i64 fst, .int .i64 fk, .string fkey, .float .f64 fx, .int .i64 fid] _ rfl rfl (Bx.extN (Bx.newAt _ _ _ _ rfl) x1.ext) rfl info_req6 (by simp [Value.oneCell']) (fun W hB => ?_); have BZ := Go.Lib.hid hB; clear hB)
    have r0 : W.on.cell? ⟨w.heap.size, 0, none⟩ = some (.int .i64 fc) := BZ.out.cell rfl
    have r1 : W.on.cell? ⟨w.heap.size, 1, none⟩ = some (.int .i64 fst) := BZ.out.cell rfl
    have r2 : W.on.cell? ⟨w.heap.size, 2, none⟩ = some (.int .i64 fk) := BZ.out.cell rfl
    have r3 : W.on.cell? ⟨w.heap.size, 3, none⟩ = some (.string fkey) := BZ.out.cell rfl
    have r4 : W.on.cell? ⟨w.heap.size, 4, none⟩ = some (.float .f64 fx) := BZ.out.cell rfl
    have r5 : W.on.cell? ⟨w.heap.size, 5, none⟩ = some (.int .i64 fid) := BZ.out.cell rfl
    exact bodyPost_ret (v := .tuple #[.agg #[.int .i64 fc, .int .i64 fst, .int .i64 fk, .string fkey, .float .f64 fx, .int .i64 fid], .bool fs]) (by simp [results, Try.results47, go_sem, r0, r1, r2, r3, r4, r5]) rfl ⟨by rw [HZ.out, HT.out]; rfl, by (repeat (first | with_reducible exact Ext.refl _ _ | assumption | with_reducible refine Ext.upN ?_ | with_reducible refine Ext.alloc ?_ _ | with_reducible refine Ext.upA (by assumption) ?_ | with_reducible refine Ext.upW ?_ | with_reducible refine Ext.drew ?_ | with_reducible refine Ext.drewN ?_ _ | with_reducible refine Ext.upF ?_ | with_reducible refine Ext.upFF (by first | omega | simp) ?_ | with_reducible refine Ext.setCellsF _ _ _ (by first | omega | simp) ?_ | with_reducible refine Ext.setCellF _ _ _ (by first | omega | simp) ?_ | with_reducible refine Ext.upFN (by first | omega | simp) ?_ | with_reducible refine Ext.up1F (by first | omega | simp) ?_ | with_reducible refine Ext.up1N (by first | omega | simp) ?_ | with_reducible refine Ext.setCell ?_ (.inr (by first | omega | simp)) _ | refine Ext.alloc ?_ _ | refine Ext.setCellF _ _ _ (by first | omega | simp) ?_ | refine Ext.setCell ?_ (.inr (by first | omega | simp)) _))⟩
set_option maxHeartbeats 1000000 in
set_option maxRecDepth 100000 in
theorem log_Committed (b : Nat) (G : Nat → Prop) (g : Lo) (n : Int) (hn : I64 n) (w : World) (h : LoW w b G g) : Calls Try.prog 42 #[.pointer (some ⟨b, 0, none⟩), .int .i64 n] w fun e w' => e = .returned (toldV (committedO g n)) ∧ Ext Non w w' := by
  obtain ⟨a, cc, pt, P⟩ := h.parts
  have HP := Go.Lib.hid P
  have c0 := P.c0
  have HE := Go.Lib.hid h.epb
  have DP : Hid (committedO g n = match idxN g.ep n with | none => none | some i => (g.sl i).done) := Go.Lib.hid rfl
  clear P h
  cases hio : idxN g.ep n with
  | none =>
    have HZ : Hid (toldV (committedO g n) = .tuple #[.agg #[.int .i64 0, .int .i64 0, .int .i64 0, .string ByteArray.empty, .float .f64 0, .int .i64 0], .bool false]) := Go.Lib.hid (by rw [DP.out, hio]; rfl)
    have HIO := Go.Lib.hid hio
    clear hio
    go_enter Try.func42, Try.ntmps42
    go_wp2_with fail
    refine (slots_at b g.ep n HE.out hn _ (by simp only [alloc_cell_or, c0, Option.some_or])).mono ?_
    rintro e _ ⟨rfl, rfl⟩
    rw [HIO.out]
    unfold atV
    go_wp2
    go_returns
    exact ⟨by rw [HZ.out]; rfl, by (repeat (first | with_reducible exact Ext.refl _ _ | assumption | with_reducible refine Ext.upN ?_ | with_reducible refine Ext.alloc ?_ _ | with_reducible refine Ext.upA (by assumption) ?_ | with_reducible refine Ext.upW ?_ | with_reducible refine Ext.drew ?_ | with_reducible refine Ext.drewN ?_ _ | with_reducible refine Ext.upF ?_ | with_reducible refine Ext.upFF (by first | omega | simp) ?_ | with_reducible refine Ext.setCellsF _ _ _ (by first | omega | simp) ?_ | with_reducible refine Ext.setCellF _ _ _ (by first | omega | simp) ?_ | with_reducible refine Ext.upFN (by first | omega | simp) ?_ | with_reducible refine Ext.up1F (by first | omega | simp) ?_ | with_reducible refine Ext.up1N (by first | omega | simp) ?_ | with_reducible refine Ext.setCell ?_ (.inr (by first | omega | simp)) _ | refine Ext.alloc ?_ _ | refine Ext.setCellF _ _ _ (by first | omega | simp) ?_ | refine Ext.setCell ?_ (.inr (by first | omega | simp)) _))⟩
  | some i =>
    obtain ⟨hi, -⟩ := idxN_lt hio
    have HQ := Go.Lib.hid (HP.out.sl i hi)
    have s0 : w.cell? ⟨b, 3 + i * 5 + 4, none⟩ = some (ptV (pt i).pd) := HP.out.cs hi (show 4 < 5 by omega) rfl
    have HZ : Hid (toldV (committedO g n) = toldV (g.sl i).done) := Go.Lib.hid (by rw [DP.out, hio])
    have HIO := Go.Lib.hid hio
    clear hio
    go_enter Try.func42, Try.ntmps42
    go_wp2_with fail
    refine (slots_at b g.ep n HE.out hn _ (by simp only [alloc_cell_or, c0, Option.some_or])).mono ?_
    rintro e _ ⟨rfl, rfl⟩
    rw [HIO.out]
    unfold atV
    go_wp2_with fail
    refine Calls.ew (slots_told G (pt i).pd (g.sl i).done _ (HQ.out.done.ext (by (repeat (first | with_reducible exact Ext.refl _ _ | assumption | with_reducible refine Ext.upN ?_ | with_reducible refine Ext.alloc ?_ _ | with_reducible refine Ext.upA (by assumption) ?_ | with_reducible refine Ext.upW ?_ | with_reducible refine Ext.drew ?_ | with_reducible refine Ext.drewN ?_ _ | with_reducible refine Ext.upF ?_ | with_reducible refine Ext.upFF (by first | omega | simp) ?_ | with_reducible refine Ext.setCellsF _ _ _ (by first | omega | simp) ?_ | with_reducible refine Ext.setCellF _ _ _ (by first | omega | simp) ?_ | with_reducible refine Ext.upFN (by first | omega | simp) ?_ | with_reducible refine Ext.up1F (by first | omega | simp) ?_ | with_reducible refine Ext.up1N (by first | omega | simp) ?_ | with_reducible refine Ext.setCell ?_ (.inr (by first | omega | simp)) _ | refine Ext.alloc ?_ _ | refine Ext.setCellF _ _ _ (by first | omega | simp) ?_ | refine Ext.setCell ?_ (.inr (by first | omega | simp)) _)) : Ext Non w _) (fun _ _ _ _ _ f => f) (fun _ h => h))) ?_
    rintro e x1 rfl
    have HT : Hid (toldV (g.sl i).done = .tuple #[reqV ((g.sl i).done.getD nullR), .bool (g.sl i).done.isSome]) := Go.Lib.hid rfl
    rw [HT.out]
    generalize (g.sl i).done.isSome = fs at *
    generalize (g.sl i).done.getD nullR = fr at *
    obtain ⟨fc, fst, ⟨fk, fkey, fx, fid⟩⟩ := fr
    unfold reqV
    have hsz : w.heap.size < x1.on.heap.size := by have := x1.ext.size; simp at this; omega
    go_wp2_with (refine wpList_store_box rfl 49 _ _ rfl w.heap.size _ [.int .i64 fc, .int .i64 fst, .int .i64 fk, .string fkey, .float .f64 fx, .int .i64 fid] _ rfl rfl (Bx.extN (Bx.newAt _ _ _ _ rfl) x1.ext) rfl info_req6 (by simp [Value.oneCell']) (fun W hB => ?_); have BZ := Go.Lib.hid hB; clear hB)
    have r0 : W.on.cell? ⟨w.heap.size, 0, none⟩ = some (.int .i64 fc) := BZ.out.cell rfl
    have r1 : W.on.cell? ⟨w.heap.size, 1, none⟩ = some (.int .i64 fst) := BZ.out.cell rfl
    have r2 : W.on.cell? ⟨w.heap.size, 2, none⟩ = some (.int .i64 fk) := BZ.out.cell rfl
    have r3 : W.on.cell? ⟨w.heap.size, 3, none⟩ = some (.string fkey) := BZ.out.cell rfl
    have r4 : W.on.cell? ⟨w.heap.size, 4, none⟩ = some (.float .f64 fx) := BZ.out.cell rfl
    have r5 : W.on.cell? ⟨w.heap.size, 5, none⟩ = some (.int .i64 fid) := BZ.out.cell rfl
    exact bodyPost_ret (v := .tuple #[.agg #[.int .i64 fc, .int .i64 fst, .int .i64 fk, .string fkey, .float .f64 fx, .int .i64 fid], .bool fs]) (by simp [results, Try.results42, go_sem, r0, r1, r2, r3, r4, r5]) rfl ⟨by rw [HZ.out, HT.out]; rfl, by (repeat (first | with_reducible exact Ext.refl _ _ | assumption | with_reducible refine Ext.upN ?_ | with_reducible refine Ext.alloc ?_ _ | with_reducible refine Ext.upA (by assumption) ?_ | with_reducible refine Ext.upW ?_ | with_reducible refine Ext.drew ?_ | with_reducible refine Ext.drewN ?_ _ | with_reducible refine Ext.upF ?_ | with_reducible refine Ext.upFF (by first | omega | simp) ?_ | with_reducible refine Ext.setCellsF _ _ _ (by first | omega | simp) ?_ | with_reducible refine Ext.setCellF _ _ _ (by first | omega | simp) ?_ | with_reducible refine Ext.upFN (by first | omega | simp) ?_ | with_reducible refine Ext.up1F (by first | omega | simp) ?_ | with_reducible refine Ext.up1N (by first | omega | simp) ?_ | with_reducible refine Ext.setCell ?_ (.inr (by first | omega | simp)) _ | refine Ext.alloc ?_ _ | refine Ext.setCellF _ _ _ (by first | omega | simp) ?_ | refine Ext.setCell ?_ (.inr (by first | omega | simp)) _))⟩
set_option maxHeartbeats 1000000 in
set_option maxRecDepth 100000 in
theorem log_Prepared (b : Nat) (G : Nat → Prop) (g : Lo) (n : Int) (hn : I64 n) (w : World) (h : LoW w b G g) : Calls Try.prog 52 #[.pointer (some ⟨b, 0, none⟩), .int .i64 n] w fun e w' => e = .returned (.bool (preparedB g n)) ∧ Ext Non w w' := by
  obtain ⟨a, cc, pt, P⟩ := h.parts
  have HP := Go.Lib.hid P
  have c0 := P.c0
  have c1 := P.c1
  have hml := h.len
  have HE := Go.Lib.hid h.epb
  have DP : Hid (preparedB g n = match idxN g.ep n with | none => false | some i => enoughB g.mem (agreeO (g.sl i).prep (g.sl i).prop g.mem).length) := Go.Lib.hid rfl
  clear P h
  cases hio : idxN g.ep n with
  | none =>
    have HZ : Hid (preparedB g n = false) := Go.Lib.hid (by rw [DP.out, hio])
    have HIO := Go.Lib.hid hio
    clear hio
    go_enter Try.func52, Try.ntmps52
    go_wp2_with fail
    refine (slots_at b g.ep n HE.out hn _ c0).mono ?_
    rintro e _ ⟨rfl, rfl⟩
    rw [HIO.out]
    unfold atV
    go_wp2
    go_ret
    exact ⟨ret_bool HZ.out.symm, by (repeat (first | with_reducible exact Ext.refl _ _ | assumption | with_reducible refine Ext.upN ?_ | with_reducible refine Ext.alloc ?_ _ | with_reducible refine Ext.upA (by assumption) ?_ | with_reducible refine Ext.upW ?_ | with_reducible refine Ext.drew ?_ | with_reducible refine Ext.drewN ?_ _ | with_reducible refine Ext.upF ?_ | with_reducible refine Ext.upFF (by first | omega | simp) ?_ | with_reducible refine Ext.setCellsF _ _ _ (by first | omega | simp) ?_ | with_reducible refine Ext.setCellF _ _ _ (by first | omega | simp) ?_ | with_reducible refine Ext.upFN (by first | omega | simp) ?_ | with_reducible refine Ext.up1F (by first | omega | simp) ?_ | with_reducible refine Ext.up1N (by first | omega | simp) ?_ | with_reducible refine Ext.setCell ?_ (.inr (by first | omega | simp)) _ | refine Ext.alloc ?_ _ | refine Ext.setCellF _ _ _ (by first | omega | simp) ?_ | refine Ext.setCell ?_ (.inr (by first | omega | simp)) _))⟩
  | some i =>
    obtain ⟨hi, -⟩ := idxN_lt hio
    have HQ := Go.Lib.hid (HP.out.sl i hi)
    have s0 : w.cell? ⟨b, 3 + i * 5, none⟩ = some (ptV (pt i).pp) := HP.out.cs hi (show 0 < 5 by omega) rfl
    have s1 : w.cell? ⟨b, 3 + i * 5 + 1, none⟩ = some (.map (some (pt i).m1)) := HP.out.cs hi (show 1 < 5 by omega) rfl
    have HZ : Hid (preparedB g n = enoughB g.mem (agreeO (g.sl i).prep (g.sl i).prop g.mem).length) := Go.Lib.hid (by rw [DP.out, hio])
    have HIO := Go.Lib.hid hio
    have AG := Go.Lib.hid (slots_agree b (3 + i * 5) a cc g.mem (by omega) (pt i).m1 (g.sl i).prep HQ.out.ok1 G (pt i).pp (g.sl i).prop w c1 HP.out.ints s0 HQ.out.prop HQ.out.prep)
    clear hio s0
    go_enter Try.func52, Try.ntmps52
    go_wp2_with fail
    refine (slots_at b g.ep n HE.out hn _ c0).mono ?_
    rintro e _ ⟨rfl, rfl⟩
    rw [HIO.out]
    unfold atV
    go_wp2_with fail
    refine AG.out.mono ?_
    rintro e _ ⟨sa, scap, rfl, hS, hx, hf⟩
    obtain ⟨x1, rfl⟩ := hx.ew
    clear hS hx hf AG
    generalize hal : (agreeO (g.sl i).prep (g.sl i).prop g.mem).length = al at *
    clear hal
    go_wp2_with fail
    refine (slots_enough b a cc g.mem (by omega) sa al scap _ (by simp only [EW.cellN, c1, Option.some_or])).mono ?_
    rintro e _ ⟨rfl, rfl⟩
    generalize enoughB g.mem al = eb at *
    go_wp2
    go_ret
    exact ⟨ret_bool HZ.out.symm, by (repeat (first | with_reducible exact Ext.refl _ _ | assumption | with_reducible refine Ext.upN ?_ | with_reducible refine Ext.alloc ?_ _ | with_reducible refine Ext.upA (by assumption) ?_ | with_reducible refine Ext.upW ?_ | with_reducible refine Ext.drew ?_ | with_reducible refine Ext.drewN ?_ _ | with_reducible refine Ext.upF ?_ | with_reducible refine Ext.upFF (by first | omega | simp) ?_ | with_reducible refine Ext.setCellsF _ _ _ (by first | omega | simp) ?_ | with_reducible refine Ext.setCellF _ _ _ (by first | omega | simp) ?_ | with_reducible refine Ext.upFN (by first | omega | simp) ?_ | with_reducible refine Ext.up1F (by first | omega | simp) ?_ | with_reducible refine Ext.up1N (by first | omega | simp) ?_ | with_reducible refine Ext.setCell ?_ (.inr (by first | omega | simp)) _ | refine Ext.alloc ?_ _ | refine Ext.setCellF _ _ _ (by first | omega | simp) ?_ | refine Ext.setCell ?_ (.inr (by first | omega | simp)) _))⟩
end Go.Proofs.Ytakbkpklfihfiaa
