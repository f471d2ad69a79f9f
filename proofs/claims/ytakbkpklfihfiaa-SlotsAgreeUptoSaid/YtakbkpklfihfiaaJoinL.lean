/- Joined texts: Slots4, Slots5, Slots6. What each proves stands at its head; no conditions beside those in its theorems. -/
import Derived.Test.YtakbkpklfihfiaaJoinK
/- Contracts of layer 14: Log.look. -/
namespace Go.Proofs.Ytakbkpklfihfiaa
open Go.RowKit Go.Lib F64
set_option linter.unusedSimpArgs false
set_option linter.unusedVariables false
attribute [local go_sem] run_store_float
attribute [local go_sem low] EW.cellN EW.frozN alloc_cell_or alloc_froz_or EW.cellF EW.frozF EW.cell1 EW.froz1
attribute [local go_sem] relAt relUpon
def moBx (base : Nat) (vs : List Value) (t : TypeId) : Mo := ⟨fun v w => ∃ g, v = .pointer (some ⟨g, 0, none⟩) ∧ base ≤ g ∧ Bx w g vs t, fun _ _ _ x ⟨g, e, l, h⟩ => ⟨g, e, l, h.extN x⟩⟩
theorem putS_self (g : Lo) (i : Nat) : putS g i (g.sl i) = g := by
  unfold putS
  obtain ⟨e, m, v, sl⟩ := g
  congr 1
  funext j
  by_cases h : j = i
  · subst h; exact if_pos rfl
  · exact if_neg h
theorem putS_same (g : Lo) (i : Nat) (s : Sl) : (putS g i s).sl i = s := if_pos rfl
theorem putS_put (g : Lo) (i : Nat) (s t : Sl) : putS (putS g i s) i t = putS g i t := by
  unfold putS
  congr 1
  funext j
  by_cases h : j = i
  · simp [h]
  · simp [h]
def certL (ms : List Int) (view n : Int) (s : Sl) : Option Ct := match s.cert with
  | none => some ⟨view, n, s.prop.getD nullR, agreeO s.prep s.prop ms⟩
  | some c => if c.view < view then some ⟨view, n, s.prop.getD nullR, agreeO s.prep s.prop ms⟩ else some c
def doneL (ms : List Int) (s : Sl) : Option Req := match s.done with
  | none => if enoughB ms (agreeO s.com s.prop ms).length = true then s.prop else none
  | some r => some r
theorem lookS_eq (ms : List Int) (view n : Int) (s : Sl) : lookS ms view n s = if enoughB ms (agreeO s.prep s.prop ms).length = true then { s with cert := certL ms view n s, done := doneL ms s } else s := rfl
theorem SlW.extN {w w' : World} {G : Nat → Prop} {p : Pt} {s : Sl} (q : SlW w G p s) (x : Ext Non w w') : SlW w' G p s :=
  ⟨q.prop.ext x (fun _ _ _ _ _ f => f) (fun _ h => h), q.prep.extN x, q.com.extN x, q.cert.ext x (fun _ _ _ _ _ f => f) (fun _ _ _ _ _ f => f) (fun _ h => h), q.done.ext x (fun _ _ _ _ _ f => f) (fun _ h => h), q.f1, q.f2, q.ok1, q.ok2⟩
theorem LoP.extN {w w' : World} {b : Nat} {G : Nat → Prop} {g : Lo} {a : Option Addr} {c : Nat} {pt : Nat → Pt} (h : LoP w b G g a c pt) (x : Ext Non w w') : LoP w' b G g a c pt :=
  ⟨(x.block b (Array.getElem?_eq_some_iff.1 h.h).1 id).trans h.h, h.ints.extN x, h.ia, fun i hi => (h.sl i hi).extN x, h.d⟩
def needC (view : Int) : Option Ct → Bool
  | none => true
  | some c => decide (c.view < view)
theorem certL_need (ms : List Int) (view n : Int) (s : Sl) : certL ms view n s = if needC view s.cert = true then some ⟨view, n, s.prop.getD nullR, agreeO s.prep s.prop ms⟩ else s.cert := by
  unfold certL needC
  cases s.cert with
  | none => rfl
  | some c => by_cases h : c.view < view <;> simp [h]
theorem info_cert9 : (Try.prog.info? 52).map (·.size) = some 9 := by kernel_rfl
theorem enough_zero {ms : List Int} (h : 4 ≤ ms.length) : enoughB ms 0 = false := by
  unfold enoughB quorumI faultsI
  rw [if_neg (by omega), if_neg (by omega)]
  rw [decide_eq_false_iff_not]
  omega
theorem agreeO_ok {l : List (Int × Vt)} (h : VtsOk l) (o : Option Req) (ms : List Int) : ∀ s ∈ agreeO l o ms, I64 s.by_ ∧ s.text.size ≤ 9223372036854775807 := by
  cases o with
  | none => intro s hs; exact (List.not_mem_nil hs).elim
  | some r => exact agreeG_ok h r ms
set_option maxHeartbeats 4000000 in
set_option maxRecDepth 100000 in
theorem slots_look (b i : Nat) (G : Nat → Prop) (g : Lo) (n : Int) (hi : i < 4) (hn : I64 n) (w : World) (h : LoW w b G g) :
    Calls Try.prog 99 #[.pointer (some ⟨b, 0, none⟩), .int .i64 n, .pointer (some ⟨b, 3 + i * 5, none⟩)] w fun e w' =>
    e = .returned (.tuple #[]) ∧ ∃ G', LoW w' b G' (putS g i (lookS g.mem g.view n (g.sl i))) ∧ (∀ k, G' k → G k ∨ w.heap.size ≤ k) ∧ Ext (One b) w w' := by
  have HL := Go.Lib.hid h
  obtain ⟨hm4, hm10⟩ := h.len
  obtain ⟨a, c, pt, P⟩ := h.parts
  have HP := Go.Lib.hid P
  have Q := P.sl i hi
  have HQ := Go.Lib.hid Q
  have HLS := Go.Lib.hid (lookS_eq g.mem g.view n (g.sl i))
  have HLF := Go.Lib.hid (putS_self g i)
  have hpp := Q.prop
  have c1 := P.c1
  have c2 := P.c2
  have s0 : w.cell? ⟨b, 3 + i * 5, none⟩ = some (ptV (pt i).pp) := P.cs hi (show 0 < 5 by omega) rfl
  have s1 : w.cell? ⟨b, 3 + i * 5 + 1, none⟩ = some (.map (some (pt i).m1)) := P.cs hi (show 1 < 5 by omega) rfl
  clear P Q h
  have AG := Go.Lib.hid (slots_agree b (3 + i * 5) a c g.mem (by omega) (pt i).m1 (g.sl i).prep HQ.out.ok1 G (pt i).pp (g.sl i).prop w c1 HP.out.ints s0 hpp HQ.out.prep)
  have AGo := Go.Lib.hid (agreeO_ok HQ.out.ok1 (g.sl i).prop g.mem)
  have HCL : Hid (certL g.mem g.view n (g.sl i) = certL g.mem g.view n (g.sl i)) := Go.Lib.hid rfl
  rcases hpp with ⟨hp1, hp2⟩ | ⟨kr, ⟨rc, rs, ⟨rk, rkey, rx, rid⟩⟩, hp1, hp2, hkr, hro, hbr⟩
  · have hz : (agreeO (g.sl i).prep (g.sl i).prop g.mem).length = 0 := by rw [hp2]; rfl
    have hE : Hid (lookS g.mem g.view n (g.sl i) = g.sl i) := Go.Lib.hid (by rw [HLS.out, hz, enough_zero hm4]; rfl)
    have HZ0 := Go.Lib.hid (enough_zero hm4)
    go_enter Try.func99, Try.ntmps99
    go_wp2_with fail
    refine AG.out.mono ?_
    rintro e _ ⟨sa, scap, rfl, hS, hx, hf⟩
    obtain ⟨x1, rfl⟩ := hx.ew
    rw [hz]
    clear hS hx hf hz hp1 hp2
    go_wp2_with fail
    refine (slots_enough b a c g.mem (by omega) sa 0 scap _ (by simp only [EW.cellN, c1, Option.some_or])).mono ?_
    rintro e _ ⟨rfl, rfl⟩
    rw [HZ0.out]
    go_wp2
    go_returns
    exact ⟨rfl, G, by rw [hE.out, HLF.out]; exact HL.out.extN (by (repeat (first | with_reducible exact Ext.refl _ _ | assumption | with_reducible refine Ext.upN ?_ | with_reducible refine Ext.alloc ?_ _ | with_reducible refine Ext.upA (by assumption) ?_ | with_reducible refine Ext.upW ?_ | with_reducible refine Ext.drew ?_ | with_reducible refine Ext.drewN ?_ _ | with_reducible refine Ext.upF ?_ | with_reducible refine Ext.upFF (by first | omega | simp) ?_ | with_reducible refine Ext.setCellsF _ _ _ (by first | omega | simp) ?_ | with_reducible refine Ext.setCellF _ _ _ (by first | omega | simp) ?_ | with_reducible refine Ext.upFN (by first | omega | simp) ?_ | with_reducible refine Ext.up1F (by first | omega | simp) ?_ | with_reducible refine Ext.up1N (by first | omega | simp) ?_ | with_reducible refine Ext.setCell ?_ (.inr (by first | omega | simp)) _ | refine Ext.alloc ?_ _ | refine Ext.setCellF _ _ _ (by first | omega | simp) ?_ | refine Ext.setCell ?_ (.inr (by first | omega | simp)) _))), fun k hk => .inl hk, Ext.ofNon (by (repeat (first | with_reducible exact Ext.refl _ _ | assumption | with_reducible refine Ext.upN ?_ | with_reducible refine Ext.alloc ?_ _ | with_reducible refine Ext.upA (by assumption) ?_ | with_reducible refine Ext.upW ?_ | with_reducible refine Ext.drew ?_ | with_reducible refine Ext.drewN ?_ _ | with_reducible refine Ext.upF ?_ | with_reducible refine Ext.upFF (by first | omega | simp) ?_ | with_reducible refine Ext.setCellsF _ _ _ (by first | omega | simp) ?_ | with_reducible refine Ext.setCellF _ _ _ (by first | omega | simp) ?_ | with_reducible refine Ext.upFN (by first | omega | simp) ?_ | with_reducible refine Ext.up1F (by first | omega | simp) ?_ | with_reducible refine Ext.up1N (by first | omega | simp) ?_ | with_reducible refine Ext.setCell ?_ (.inr (by first | omega | simp)) _ | refine Ext.alloc ?_ _ | refine Ext.setCellF _ _ _ (by first | omega | simp) ?_ | refine Ext.setCell ?_ (.inr (by first | omega | simp)) _)))⟩
  · have s0' : w.cell? ⟨b, 3 + i * 5, none⟩ = some (.pointer (some ⟨kr, 0, none⟩)) := by rw [s0, hp1]; rfl
    have s3 : w.cell? ⟨b, 3 + i * 5 + 3, none⟩ = some (ptV (pt i).pc) := HP.out.cs hi (show 3 < 5 by omega) rfl
    have f3 : w.frozen? ⟨b, 3 + i * 5 + 3, none⟩ = false := HP.out.fz _
    have n0 : w.cell? ⟨kr, 0, none⟩ = some (.int .i64 rc) := hbr.cell rfl
    have n1 : w.cell? ⟨kr, 1, none⟩ = some (.int .i64 rs) := hbr.cell rfl
    have n2 : w.cell? ⟨kr, 2, none⟩ = some (.int .i64 rk) := hbr.cell rfl
    have n3 : w.cell? ⟨kr, 3, none⟩ = some (.string rkey) := hbr.cell rfl
    have n4 : w.cell? ⟨kr, 4, none⟩ = some (.float .f64 rx) := hbr.cell rfl
    have n5 : w.cell? ⟨kr, 5, none⟩ = some (.int .i64 rid) := hbr.cell rfl
    have HRo := Go.Lib.hid hro
    have hbl : b < w.heap.size := HL.out.bl
    have HCN : Hid (certL g.mem g.view n (g.sl i) = if needC g.view (g.sl i).cert = true then some ⟨g.view, n, ⟨rc, rs, ⟨rk, rkey, rx, rid⟩⟩, agreeO (g.sl i).prep (g.sl i).prop g.mem⟩ else (g.sl i).cert) := Go.Lib.hid (by rw [certL_need, hp2]; rfl)
    have HPR : Hid ((g.sl i).prop = some ⟨rc, rs, ⟨rk, rkey, rx, rid⟩⟩ ∧ (pt i).pp = some kr) := Go.Lib.hid ⟨hp2, hp1⟩
    clear s0 hro hbr hkr hp2 hp1
    go_enter Try.func99, Try.ntmps99
    go_wp2_with fail
    refine AG.out.mono ?_
    rintro e _ ⟨sa, scap, rfl, hS, hx, hf⟩
    obtain ⟨x1, rfl⟩ := hx.ew
    have HSg := Go.Lib.hid hS; have HFr := Go.Lib.hid hf
    clear hS hx hf AG HCL
    generalize agreeO (g.sl i).prep (g.sl i).prop g.mem = al at *
    go_wp2_with fail
    refine (slots_enough b a c g.mem (by omega) sa al.length scap _ (by simp only [EW.cellN, c1, Option.some_or])).mono ?_
    rintro e _ ⟨rfl, rfl⟩
    cases he : enoughB g.mem al.length
    · as_aux_lemma =>
      have hE : Hid (lookS g.mem g.view n (g.sl i) = g.sl i) := Go.Lib.hid (by rw [HLS.out, he]; rfl)
      clear he
      go_wp2
      go_returns
      exact ⟨rfl, G, by rw [hE.out, HLF.out]; exact HL.out.extN (by (repeat (first | with_reducible exact Ext.refl _ _ | assumption | with_reducible refine Ext.upN ?_ | with_reducible refine Ext.alloc ?_ _ | with_reducible refine Ext.upA (by assumption) ?_ | with_reducible refine Ext.upW ?_ | with_reducible refine Ext.drew ?_ | with_reducible refine Ext.drewN ?_ _ | with_reducible refine Ext.upF ?_ | with_reducible refine Ext.upFF (by first | omega | simp) ?_ | with_reducible refine Ext.setCellsF _ _ _ (by first | omega | simp) ?_ | with_reducible refine Ext.setCellF _ _ _ (by first | omega | simp) ?_ | with_reducible refine Ext.upFN (by first | omega | simp) ?_ | with_reducible refine Ext.up1F (by first | omega | simp) ?_ | with_reducible refine Ext.up1N (by first | omega | simp) ?_ | with_reducible refine Ext.setCell ?_ (.inr (by first | omega | simp)) _ | refine Ext.alloc ?_ _ | refine Ext.setCellF _ _ _ (by first | omega | simp) ?_ | refine Ext.setCell ?_ (.inr (by first | omega | simp)) _))), fun k hk => .inl hk, Ext.ofNon (by (repeat (first | with_reducible exact Ext.refl _ _ | assumption | with_reducible refine Ext.upN ?_ | with_reducible refine Ext.alloc ?_ _ | with_reducible refine Ext.upA (by assumption) ?_ | with_reducible refine Ext.upW ?_ | with_reducible refine Ext.drew ?_ | with_reducible refine Ext.drewN ?_ _ | with_reducible refine Ext.upF ?_ | with_reducible refine Ext.upFF (by first | omega | simp) ?_ | with_reducible refine Ext.setCellsF _ _ _ (by first | omega | simp) ?_ | with_reducible refine Ext.setCellF _ _ _ (by first | omega | simp) ?_ | with_reducible refine Ext.upFN (by first | omega | simp) ?_ | with_reducible refine Ext.up1F (by first | omega | simp) ?_ | with_reducible refine Ext.up1N (by first | omega | simp) ?_ | with_reducible refine Ext.setCell ?_ (.inr (by first | omega | simp)) _ | refine Ext.alloc ?_ _ | refine Ext.setCellF _ _ _ (by first | omega | simp) ?_ | refine Ext.setCell ?_ (.inr (by first | omega | simp)) _)))⟩
    have hal0 : 0 < al.length := by
      rcases Nat.eq_zero_or_pos al.length with h0 | h0
      · rw [h0, enough_zero hm4] at he; cases he
      · exact h0
    have HE : Hid (lookS g.mem g.view n (g.sl i) = { g.sl i with cert := certL g.mem g.view n (g.sl i), done := doneL g.mem (g.sl i) }) := Go.Lib.hid (by rw [HLS.out, he]; rfl)
    clear he HLS
    go_upto_region 2 with fail
    generalize hcb : needC g.view (g.sl i).cert = cb at *
    have HCB := Go.Lib.hid hcb
    clear hcb
    go_cut [36] (fun s36 wx => ∃ z : EW Non x1.on, s36 = .bool cb ∧ wx = z.on)
    case first =>
      rcases HQ.out.cert with ⟨k1, k2⟩ | ⟨kc, x, csa, cscap, k1, k2, k3, k4, k5, k6, k7, k8, k9⟩
      · have s3' : w.cell? ⟨b, 3 + i * 5 + 3, none⟩ = some (.pointer none) := by rw [s3, k1]; rfl
        have HB : Hid (cb = true) := Go.Lib.hid (by rw [← HCB.out, k2]; rfl)
        clear s3 k1 k2
        (refine wp_region_ext_lit (by kernel_rfl) (by kernel_rfl) ?_; (repeat (go_big_quiet_step (fail))); refine wpQuiet_nil ?_; intro _ hw'; obtain ⟨xq, hw''⟩ := hw'; subst hw'')
        go_wp2_with fail
        go_meet
        exact ⟨⟨_, by (repeat (first | with_reducible exact Ext.refl _ _ | assumption | with_reducible refine Ext.upN ?_ | with_reducible refine Ext.alloc ?_ _ | with_reducible refine Ext.upA (by assumption) ?_ | with_reducible refine Ext.upW ?_ | with_reducible refine Ext.drew ?_ | with_reducible refine Ext.drewN ?_ _ | with_reducible refine Ext.upF ?_ | with_reducible refine Ext.upFF (by first | omega | simp) ?_ | with_reducible refine Ext.setCellsF _ _ _ (by first | omega | simp) ?_ | with_reducible refine Ext.setCellF _ _ _ (by first | omega | simp) ?_ | with_reducible refine Ext.upFN (by first | omega | simp) ?_ | with_reducible refine Ext.up1F (by first | omega | simp) ?_ | with_reducible refine Ext.up1N (by first | omega | simp) ?_ | with_reducible refine Ext.setCell ?_ (.inr (by first | omega | simp)) _ | refine Ext.alloc ?_ _ | refine Ext.setCellF _ _ _ (by first | omega | simp) ?_ | refine Ext.setCell ?_ (.inr (by first | omega | simp)) _))⟩, by rw [HB.out], rfl⟩
      · have s3' : w.cell? ⟨b, 3 + i * 5 + 3, none⟩ = some (.pointer (some ⟨kc, 0, none⟩)) := by rw [s3, k1]; rfl
        have v0 : w.cell? ⟨kc, 0, none⟩ = some (.int .i64 x.view) := k7.cell rfl
        have HB : Hid (cb = decide (x.view < g.view)) := Go.Lib.hid (by rw [← HCB.out, k2]; rfl)
        clear s3 k1 k2 k3 k4 k5 k6 k7 k8 k9
        generalize x.view = xv at *
        by_cases hxv : xv < g.view
        · have HXV := Go.Lib.hid (decide_eq_true hxv)
          (refine wp_region_ext_lit (by kernel_rfl) (by kernel_rfl) ?_; (repeat (go_big_quiet_step (fail))); refine wpQuiet_nil ?_; intro _ hw'; obtain ⟨xq, hw''⟩ := hw'; subst hw'')
          go_wp2_with fail
          go_meet
          exact ⟨⟨_, by (repeat (first | with_reducible exact Ext.refl _ _ | assumption | with_reducible refine Ext.upN ?_ | with_reducible refine Ext.alloc ?_ _ | with_reducible refine Ext.upA (by assumption) ?_ | with_reducible refine Ext.upW ?_ | with_reducible refine Ext.drew ?_ | with_reducible refine Ext.drewN ?_ _ | with_reducible refine Ext.upF ?_ | with_reducible refine Ext.upFF (by first | omega | simp) ?_ | with_reducible refine Ext.setCellsF _ _ _ (by first | omega | simp) ?_ | with_reducible refine Ext.setCellF _ _ _ (by first | omega | simp) ?_ | with_reducible refine Ext.upFN (by first | omega | simp) ?_ | with_reducible refine Ext.up1F (by first | omega | simp) ?_ | with_reducible refine Ext.up1N (by first | omega | simp) ?_ | with_reducible refine Ext.setCell ?_ (.inr (by first | omega | simp)) _ | refine Ext.alloc ?_ _ | refine Ext.setCellF _ _ _ (by first | omega | simp) ?_ | refine Ext.setCell ?_ (.inr (by first | omega | simp)) _))⟩, by rw [HB.out, HXV.out], rfl⟩
        · have HXV := Go.Lib.hid (decide_eq_false hxv)
          (refine wp_region_ext_lit (by kernel_rfl) (by kernel_rfl) ?_; (repeat (go_big_quiet_step (fail))); refine wpQuiet_nil ?_; intro _ hw'; obtain ⟨xq, hw''⟩ := hw'; subst hw'')
          go_wp2_with fail
          go_meet
          exact ⟨⟨_, by (repeat (first | with_reducible exact Ext.refl _ _ | assumption | with_reducible refine Ext.upN ?_ | with_reducible refine Ext.alloc ?_ _ | with_reducible refine Ext.upA (by assumption) ?_ | with_reducible refine Ext.upW ?_ | with_reducible refine Ext.drew ?_ | with_reducible refine Ext.drewN ?_ _ | with_reducible refine Ext.upF ?_ | with_reducible refine Ext.upFF (by first | omega | simp) ?_ | with_reducible refine Ext.setCellsF _ _ _ (by first | omega | simp) ?_ | with_reducible refine Ext.setCellF _ _ _ (by first | omega | simp) ?_ | with_reducible refine Ext.upFN (by first | omega | simp) ?_ | with_reducible refine Ext.up1F (by first | omega | simp) ?_ | with_reducible refine Ext.up1N (by first | omega | simp) ?_ | with_reducible refine Ext.setCell ?_ (.inr (by first | omega | simp)) _ | refine Ext.alloc ?_ _ | refine Ext.setCellF _ _ _ (by first | omega | simp) ?_ | refine Ext.setCell ?_ (.inr (by first | omega | simp)) _))⟩, by rw [HB.out, HXV.out], rfl⟩
    obtain ⟨z, rfl, rfl⟩ := hcut
    go_upto_if 36 with fail
    go_cut [] (fun wx => ∃ G1 : Nat → Prop, Hid (LoW wx b G1 (putS g i { g.sl i with cert := certL g.mem g.view n (g.sl i) })) ∧ Hid (∀ k, G1 k → G k ∨ w.heap.size ≤ k) ∧ Hid (Ext (One b) w wx))
    case first =>
      cases cb
      · go_wp2_with fail
        go_meet
        exact ⟨G, Go.Lib.hid (by rw [HCN.out, if_neg (by simp), HLF.out]; exact HL.out.extN (by (repeat (first | with_reducible exact Ext.refl _ _ | assumption | with_reducible refine Ext.upN ?_ | with_reducible refine Ext.alloc ?_ _ | with_reducible refine Ext.upA (by assumption) ?_ | with_reducible refine Ext.upW ?_ | with_reducible refine Ext.drew ?_ | with_reducible refine Ext.drewN ?_ _ | with_reducible refine Ext.upF ?_ | with_reducible refine Ext.upFF (by first | omega | simp) ?_ | with_reducible refine Ext.setCellsF _ _ _ (by first | omega | simp) ?_ | with_reducible refine Ext.setCellF _ _ _ (by first | omega | simp) ?_ | with_reducible refine Ext.upFN (by first | omega | simp) ?_ | with_reducible refine Ext.up1F (by first | omega | simp) ?_ | with_reducible refine Ext.up1N (by first | omega | simp) ?_ | with_reducible refine Ext.setCell ?_ (.inr (by first | omega | simp)) _ | refine Ext.alloc ?_ _ | refine Ext.setCellF _ _ _ (by first | omega | simp) ?_ | refine Ext.setCell ?_ (.inr (by first | omega | simp)) _)))), Go.Lib.hid (fun k hk => .inl hk), Go.Lib.hid (Ext.ofNon (by (repeat (first | with_reducible exact Ext.refl _ _ | assumption | with_reducible refine Ext.upN ?_ | with_reducible refine Ext.alloc ?_ _ | with_reducible refine Ext.upA (by assumption) ?_ | with_reducible refine Ext.upW ?_ | with_reducible refine Ext.drew ?_ | with_reducible refine Ext.drewN ?_ _ | with_reducible refine Ext.upF ?_ | with_reducible refine Ext.upFF (by first | omega | simp) ?_ | with_reducible refine Ext.setCellsF _ _ _ (by first | omega | simp) ?_ | with_reducible refine Ext.setCellF _ _ _ (by first | omega | simp) ?_ | with_reducible refine Ext.upFN (by first | omega | simp) ?_ | with_reducible refine Ext.up1F (by first | omega | simp) ?_ | with_reducible refine Ext.up1N (by first | omega | simp) ?_ | with_reducible refine Ext.setCell ?_ (.inr (by first | omega | simp)) _ | refine Ext.alloc ?_ _ | refine Ext.setCellF _ _ _ (by first | omega | simp) ?_ | refine Ext.setCell ?_ (.inr (by first | omega | simp)) _))))⟩
      · go_upto_region 3 with fail
        apply wp_region_rel_tail 17 (relR [Mo.is _, Mo.is _, Mo.is _, Mo.is _, Mo.is _, Mo.is _, Mo.is _, Mo.is _, Mo.is _, Mo.is _, Mo.is _, Mo.is _, Mo.is _, Mo.is _, moBx z.on.heap.size [.int .i64 g.view, .int .i64 n, .int .i64 rc, .int .i64 rs, .int .i64 rk, .string rkey, .float .f64 rx, .int .i64 rid, .slice sa al.length scap] 52, Mo.is _, Mo.is _]) (by kernel_rfl) (by kernel_rfl) (by kernel_rfl) (by kernel_rfl) (by kernel_rfl) (by decide) (by kernel_rfl) (relR_mono _) (StepD.all ?st2) ?q2
        case st2 =>
          refine ⟨?_, ?_, ?_, ?_, ?_, ?_, ?_, ?_, ?_, ?_, ?_, ?_, ?_, ?_, ?_, ?_, ?_, trivial⟩
          · intro a' w' hx hs hd
            obtain ⟨y, rfl⟩ := hx.ew
            have e2 : a'.tmps[2]?.getD undef = _ := hs 2 rfl
            simp only [List.getElem?_toArray, List.getElem?_cons_succ, List.getElem?_cons_zero, Option.getD_some, Array.getElem?_eq_some_iff] at e2
            refine .inl ⟨rfl, ?_⟩
            clear hs hd hx
            go_simp
            exact ⟨Ext.refl _ _, rfl⟩
          · intro a' w' hx hs hd
            obtain ⟨y, rfl⟩ := hx.ew
            have e0 : a'.tmps[0]?.getD undef = _ := hs 0 rfl
            simp only [List.getElem?_toArray, List.getElem?_cons_succ, List.getElem?_cons_zero, Option.getD_some, Array.getElem?_eq_some_iff] at e0
            refine .inl ⟨rfl, ?_⟩
            clear hs hd hx
            go_simp
            exact ⟨Ext.refl _ _, rfl⟩
          · intro a' w' hx hs hd
            obtain ⟨y, rfl⟩ := hx.ew
            have e38 : a'.tmps[38]?.getD undef = _ := hd 1 38 rfl rfl
            refine .inl ⟨rfl, ?_⟩
            clear hs hd hx
            go_simp
            exact ⟨Ext.refl _ _, rfl⟩
          · intro a' w' hx hs hd
            obtain ⟨y, rfl⟩ := hx.ew
            have e39 : a'.tmps[39]?.getD undef = _ := hd 2 39 rfl rfl
            refine .inl ⟨rfl, ?_⟩
            clear hs hd hx
            go_simp
            exact ⟨Ext.refl _ _, rfl⟩
          · intro a' w' hx hs hd
            obtain ⟨y, rfl⟩ := hx.ew
            have e40 : a'.tmps[40]?.getD undef = _ := hd 3 40 rfl rfl
            refine .inl ⟨rfl, ?_⟩
            clear hs hd hx
            go_simp
            exact ⟨Ext.refl _ _, rfl⟩
          · intro a' w' hx hs hd
            obtain ⟨y, rfl⟩ := hx.ew
            have e1 : a'.tmps[1]?.getD undef = _ := hs 1 rfl
            simp only [List.getElem?_toArray, List.getElem?_cons_succ, List.getElem?_cons_zero, Option.getD_some, Array.getElem?_eq_some_iff] at e1
            refine .inl ⟨rfl, ?_⟩
            clear hs hd hx
            go_simp
            exact ⟨Ext.refl _ _, rfl⟩
          · intro a' w' hx hs hd
            obtain ⟨y, rfl⟩ := hx.ew
            have e2 : a'.tmps[2]?.getD undef = _ := hs 2 rfl
            simp only [List.getElem?_toArray, List.getElem?_cons_succ, List.getElem?_cons_zero, Option.getD_some, Array.getElem?_eq_some_iff] at e2
            refine .inl ⟨rfl, ?_⟩
            clear hs hd hx
            go_simp
            exact ⟨Ext.refl _ _, rfl⟩
          · intro a' w' hx hs hd
            obtain ⟨y, rfl⟩ := hx.ew
            have e43 : a'.tmps[43]?.getD undef = _ := hd 6 43 rfl rfl
            refine .inl ⟨rfl, ?_⟩
            clear hs hd hx
            go_simp
            exact ⟨Ext.refl _ _, rfl⟩
          · intro a' w' hx hs hd
            obtain ⟨y, rfl⟩ := hx.ew
            have e44 : a'.tmps[44]?.getD undef = _ := hd 7 44 rfl rfl
            refine .inl ⟨rfl, ?_⟩
            clear hs hd hx
            go_simp
            exact ⟨Ext.refl _ _, rfl⟩
          · intro a' w' hx hs hd
            obtain ⟨y, rfl⟩ := hx.ew
            have e45 : a'.tmps[45]?.getD undef = _ := hd 8 45 rfl rfl
            refine .inl ⟨rfl, ?_⟩
            clear hs hd hx
            go_simp
            exact ⟨Ext.refl _ _, rfl⟩
          · intro a' w' hx hs hd
            obtain ⟨y, rfl⟩ := hx.ew
            have e46 : a'.tmps[46]?.getD undef = _ := hd 9 46 rfl rfl
            refine .inl ⟨rfl, ?_⟩
            clear hs hd hx
            go_simp
            exact ⟨Ext.refl _ _, rfl⟩
          · intro a' w' hx hs hd
            obtain ⟨y, rfl⟩ := hx.ew
            have e47 : a'.tmps[47]?.getD undef = _ := hd 10 47 rfl rfl
            refine .inl ⟨rfl, ?_⟩
            clear hs hd hx
            go_simp
            exact ⟨Ext.refl _ _, rfl⟩
          · intro a' w' hx hs hd
            obtain ⟨y, rfl⟩ := hx.ew
            have e6 : a'.tmps[6]?.getD undef = _ := hs 6 rfl
            simp only [List.getElem?_toArray, List.getElem?_cons_succ, List.getElem?_cons_zero, Option.getD_some, Array.getElem?_eq_some_iff] at e6
            refine .inl ⟨rfl, ?_⟩
            clear hs hd hx
            go_simp
            exact ⟨Ext.refl _ _, rfl⟩
          · intro a' w' hx hs hd
            obtain ⟨y, rfl⟩ := hx.ew
            have e41 : a'.tmps[41]?.getD undef = _ := hd 4 41 rfl rfl
            have e42 : a'.tmps[42]?.getD undef = _ := hd 5 42 rfl rfl
            have e48 : a'.tmps[48]?.getD undef = _ := hd 11 48 rfl rfl
            have e49 : a'.tmps[49]?.getD undef = _ := hd 12 49 rfl rfl
            refine .inl ⟨rfl, ?_⟩
            clear hs hd hx
            go_simp
            exact ⟨Ext.refl _ _, rfl⟩
          · intro a' w' hx hs hd
            obtain ⟨y, rfl⟩ := hx.ew
            have e50 : a'.tmps[50]?.getD undef = _ := hd 13 50 rfl rfl
            refine .inl ⟨rfl, ?_⟩
            clear hs hd hx
            go_simp
            exact ⟨(Ext.refl _ _).alloc _, _, rfl, y.ext.size, Bx.newAt _ _ _ _ rfl⟩
          · intro a' w' hx hs hd
            obtain ⟨y, rfl⟩ := hx.ew
            have e37 : a'.tmps[37]?.getD undef = _ := hd 0 37 rfl rfl
            refine .inl ⟨rfl, ?_⟩
            clear hs hd hx
            go_simp
            exact ⟨Ext.refl _ _, rfl⟩
          · intro a' w' hx hs hd
            obtain ⟨y, rfl⟩ := hx.ew
            have e52 : a'.tmps[52]?.getD undef = _ := hd 15 52 rfl rfl
            refine .inl ⟨rfl, ?_⟩
            clear hs hd hx
            go_simp
            exact ⟨Ext.refl _ _, rfl⟩
        case' q2 =>
          intro vs w' hx hRR
          obtain ⟨x3, rfl⟩ := hx.ew
          have q0 : vs 0 = _ := hRR 0 (by decide)
          have q1 : vs 1 = _ := hRR 1 (by decide)
          have q2 : vs 2 = _ := hRR 2 (by decide)
          have q3 : vs 3 = _ := hRR 3 (by decide)
          have q4 : vs 4 = _ := hRR 4 (by decide)
          have q5 : vs 5 = _ := hRR 5 (by decide)
          have q6 : vs 6 = _ := hRR 6 (by decide)
          have q7 : vs 7 = _ := hRR 7 (by decide)
          have q8 : vs 8 = _ := hRR 8 (by decide)
          have q9 : vs 9 = _ := hRR 9 (by decide)
          have q10 : vs 10 = _ := hRR 10 (by decide)
          have q11 : vs 11 = _ := hRR 11 (by decide)
          have q12 : vs 12 = _ := hRR 12 (by decide)
          have q13 : vs 13 = _ := hRR 13 (by decide)
          obtain ⟨gc, q14, hgc, hBc⟩ : ∃ g', vs 14 = .pointer (some ⟨g', 0, none⟩) ∧ z.on.heap.size ≤ g' ∧ Bx x3.on g' [.int .i64 g.view, .int .i64 n, .int .i64 rc, .int .i64 rs, .int .i64 rk, .string rkey, .float .f64 rx, .int .i64 rid, .slice sa al.length scap] 52 := hRR 14 (by decide)
          have q15 : vs 15 = _ := hRR 15 (by decide)
          have q16 : vs 16 = _ := hRR 16 (by decide)
          clear hRR hx
          simp only [putAll, List.take_succ_cons, List.take_zero, List.drop_succ_cons, List.drop_zero, Act.put, List.setIfInBounds_toArray, List.set_cons_zero, List.set_cons_succ, Nat.reduceAdd, Nat.zero_add]
          simp only [q0, q1, q2, q3, q4, q5, q6, q7, q8, q9, q10, q11, q12, q13, q14, q15, q16]
          clear q0 q1 q2 q3 q4 q5 q6 q7 q8 q9 q10 q11 q12 q13 q14 q15 q16 vs
        have HBc := Go.Lib.hid hBc
        clear hBc
        have hgc1 : w.heap.size ≤ gc := by have h1 := z.ext.size; have h2 := x1.ext.size; omega
        have hgcn : ¬ gc = b := by omega
        go_wp2_with fail
        go_meet
        have X3 : Ext Non w x3.on := by (repeat (first | with_reducible exact Ext.refl _ _ | assumption | with_reducible refine Ext.upN ?_ | with_reducible refine Ext.alloc ?_ _ | with_reducible refine Ext.upA (by assumption) ?_ | with_reducible refine Ext.upW ?_ | with_reducible refine Ext.drew ?_ | with_reducible refine Ext.drewN ?_ _ | with_reducible refine Ext.upF ?_ | with_reducible refine Ext.upFF (by first | omega | simp) ?_ | with_reducible refine Ext.setCellsF _ _ _ (by first | omega | simp) ?_ | with_reducible refine Ext.setCellF _ _ _ (by first | omega | simp) ?_ | with_reducible refine Ext.upFN (by first | omega | simp) ?_ | with_reducible refine Ext.up1F (by first | omega | simp) ?_ | with_reducible refine Ext.up1N (by first | omega | simp) ?_ | with_reducible refine Ext.setCell ?_ (.inr (by first | omega | simp)) _ | refine Ext.alloc ?_ _ | refine Ext.setCellF _ _ _ (by first | omega | simp) ?_ | refine Ext.setCell ?_ (.inr (by first | omega | simp)) _))
        have XB : Ext (One b) x3.on (x3.on.setCell ⟨b, 3 + i * 5 + 3, none⟩ (.pointer (some ⟨gc, 0, none⟩))) := (Ext.refl _ _).set1 _
        have hgl : gc < x3.on.heap.size := HBc.out.lt
        have hx13 : x1.on.heap.size ≤ x3.on.heap.size := by have h1 := z.ext.size; have h2 := x3.ext.size; omega
        have hS3 : Sigs x3.on sa scap al := HSg.out.extN (by (repeat (first | with_reducible exact Ext.refl _ _ | assumption | with_reducible refine Ext.upN ?_ | with_reducible refine Ext.alloc ?_ _ | with_reducible refine Ext.upA (by assumption) ?_ | with_reducible refine Ext.upW ?_ | with_reducible refine Ext.drew ?_ | with_reducible refine Ext.drewN ?_ _ | with_reducible refine Ext.upF ?_ | with_reducible refine Ext.upFF (by first | omega | simp) ?_ | with_reducible refine Ext.setCellsF _ _ _ (by first | omega | simp) ?_ | with_reducible refine Ext.setCellF _ _ _ (by first | omega | simp) ?_ | with_reducible refine Ext.upFN (by first | omega | simp) ?_ | with_reducible refine Ext.up1F (by first | omega | simp) ?_ | with_reducible refine Ext.up1N (by first | omega | simp) ?_ | with_reducible refine Ext.setCell ?_ (.inr (by first | omega | simp)) _ | refine Ext.alloc ?_ _ | refine Ext.setCellF _ _ _ (by first | omega | simp) ?_ | refine Ext.setCell ?_ (.inr (by first | omega | simp)) _)) : Ext Non x1.on x3.on)
        have hsb : ∀ b' o, sa = some ⟨b', o, none⟩ → w.heap.size ≤ b' ∧ b' < x3.on.heap.size := fun b' o e => by
          obtain ⟨b2, o2, e2, hb2, _⟩ := hS3.at_ 0 hal0
          rw [e] at e2
          injection e2 with e2; injection e2 with e2 _; subst e2
          exact ⟨HFr.out _ _ e, hb2⟩
        refine ⟨fun k => G k ∨ (w.heap.size ≤ k ∧ k < x3.on.heap.size), Go.Lib.hid ?_, Go.Lib.hid (fun k hk => hk.imp id (fun h => h.1)), Go.Lib.hid ((X3.ofNon (S := One b)).trans XB)⟩
        rw [HCN.out, if_pos (by first | trivial | rfl)]
        have q := ((HQ.out.extN X3).set (k := 3 + i * 5 + 3) (G' := fun k => G k ∨ (w.heap.size ≤ k ∧ k < x3.on.heap.size)) HL.out.nb (fun k h => .inl h) (.pointer (some ⟨gc, 0, none⟩)))
        refine (HL.out.extN X3).put (HP.out.extN X3) hi (show 3 < 5 by omega) _ { pt i with pc := some gc } _ rfl ⟨rfl, rfl⟩ (fun k h => .inl h) (fun h => by rcases h with h | h; exact HL.out.nb h; omega) (fun k h => by rcases h with h | h; exact (HL.out.extN X3).lt k h; exact h.2) ?_
        refine ⟨q.prop, q.prep, q.com, .inr ⟨gc, ⟨g.view, n, ⟨rc, rs, ⟨rk, rkey, rx, rid⟩⟩, al⟩, sa, scap, rfl, rfl, .inr ⟨hgc1, hgl⟩, HRo.out, ?_, hn, HBc.out.ext XB hgcn, hS3.ext XB (fun b' o e h => by have := (hsb b' o e).1; unfold One at h; omega), fun b' o e => .inr (hsb b' o e)⟩, q.done, q.f1, q.f2, q.ok1, q.ok2⟩
        have := HL.out.vw
        show I64 g.view
        unfold I64; omega
    obtain ⟨G1, HL1, HG1, HX1⟩ := hcut
    clear AGo HSg HFr HCN HCB c1 c2 s1 s0' s3 f3 n0 n1 n2 n3 n4 n5 HLF
    obtain ⟨a1, cc1, pt1, P1⟩ := HL1.out.parts
    have HP1 := Go.Lib.hid P1
    have Q1 := P1.sl i hi
    rw [putS_same] at Q1
    have HQ1 := Go.Lib.hid Q1
    have t1 : wc.cell? ⟨b, 1, none⟩ = some (.slice a1 g.mem.length cc1) := P1.c1
    have u0 : wc.cell? ⟨b, 3 + i * 5, none⟩ = some (ptV (pt1 i).pp) := P1.cs hi (show 0 < 5 by omega) rfl
    have u2 : wc.cell? ⟨b, 3 + i * 5 + 2, none⟩ = some (.map (some (pt1 i).m2)) := P1.cs hi (show 2 < 5 by omega) rfl
    have u4 : wc.cell? ⟨b, 3 + i * 5 + 4, none⟩ = some (ptV (pt1 i).pd) := P1.cs hi (show 4 < 5 by omega) rfl
    have f4 : wc.frozen? ⟨b, 3 + i * 5 + 4, none⟩ = false := P1.fz _
    have AG2 := Go.Lib.hid (slots_agree b (3 + i * 5) a1 cc1 g.mem (by omega) (pt1 i).m2 (g.sl i).com HQ1.out.ok2 G1 (pt1 i).pp (g.sl i).prop wc t1 HP1.out.ints u0 Q1.prop Q1.com)
    have HDN : Hid (doneL g.mem (g.sl i) = match (g.sl i).done with | none => if enoughB g.mem (agreeO (g.sl i).com (g.sl i).prop g.mem).length = true then (g.sl i).prop else none | some r => some r) := Go.Lib.hid rfl
    have hkr : ∃ kr', (pt1 i).pp = some kr' := by
      rcases Q1.prop with ⟨k1, k2⟩ | ⟨k', r', k1, k2, _⟩
      · have := HPR.out.1; rw [show ({ g.sl i with cert := certL g.mem g.view n (g.sl i) } : Sl).prop = (g.sl i).prop from rfl, this] at k2; cases k2
      · exact ⟨k', k1⟩
    obtain ⟨kr', hkr⟩ := hkr
    have u0' : wc.cell? ⟨b, 3 + i * 5, none⟩ = some (.pointer (some ⟨kr', 0, none⟩)) := by rw [u0, hkr]; rfl
    have HKR := Go.Lib.hid hkr
    have hdn := Q1.done
    clear P1 Q1 u0 hkr
    rcases hdn with ⟨d1, d2⟩ | ⟨kd, rd, d1, d2, -⟩
    · have u4' : wc.cell? ⟨b, 3 + i * 5 + 4, none⟩ = some (.pointer none) := by rw [u4, d1]; rfl
      have d2' : (g.sl i).done = none := d2
      have HD2 := Go.Lib.hid d2'
      clear u4 d1 d2 d2'
      go_wp2_with fail
      refine AG2.out.mono ?_
      rintro e _ ⟨sa2, scap2, rfl, hS, hx, hf⟩
      obtain ⟨x5, rfl⟩ := hx.ew
      clear hS hf hx AG2
      generalize hal2 : (agreeO (g.sl i).com (g.sl i).prop g.mem).length = al2 at *
      clear hal2
      go_wp2_with fail
      refine (slots_enough b a1 cc1 g.mem (by omega) sa2 al2 scap2 _ (by simp only [EW.cellN, t1, Option.some_or])).mono ?_
      rintro e _ ⟨rfl, rfl⟩
      cases he2 : enoughB g.mem al2
      · have HF : Hid (lookS g.mem g.view n (g.sl i) = { g.sl i with cert := certL g.mem g.view n (g.sl i) }) := Go.Lib.hid (by rw [HE.out, HDN.out, HD2.out, he2]; simp only [Bool.false_eq_true, if_false]; rw [← HD2.out])
        clear he2
        go_wp2
        go_returns
        exact ⟨rfl, G1, by rw [HF.out]; exact HL1.out.extN (by (repeat (first | with_reducible exact Ext.refl _ _ | assumption | with_reducible refine Ext.upN ?_ | with_reducible refine Ext.alloc ?_ _ | with_reducible refine Ext.upA (by assumption) ?_ | with_reducible refine Ext.upW ?_ | with_reducible refine Ext.drew ?_ | with_reducible refine Ext.drewN ?_ _ | with_reducible refine Ext.upF ?_ | with_reducible refine Ext.upFF (by first | omega | simp) ?_ | with_reducible refine Ext.setCellsF _ _ _ (by first | omega | simp) ?_ | with_reducible refine Ext.setCellF _ _ _ (by first | omega | simp) ?_ | with_reducible refine Ext.upFN (by first | omega | simp) ?_ | with_reducible refine Ext.up1F (by first | omega | simp) ?_ | with_reducible refine Ext.up1N (by first | omega | simp) ?_ | with_reducible refine Ext.setCell ?_ (.inr (by first | omega | simp)) _ | refine Ext.alloc ?_ _ | refine Ext.setCellF _ _ _ (by first | omega | simp) ?_ | refine Ext.setCell ?_ (.inr (by first | omega | simp)) _))), HG1.out, HX1.out.trans (Ext.ofNon (by (repeat (first | with_reducible exact Ext.refl _ _ | assumption | with_reducible refine Ext.upN ?_ | with_reducible refine Ext.alloc ?_ _ | with_reducible refine Ext.upA (by assumption) ?_ | with_reducible refine Ext.upW ?_ | with_reducible refine Ext.drew ?_ | with_reducible refine Ext.drewN ?_ _ | with_reducible refine Ext.upF ?_ | with_reducible refine Ext.upFF (by first | omega | simp) ?_ | with_reducible refine Ext.setCellsF _ _ _ (by first | omega | simp) ?_ | with_reducible refine Ext.setCellF _ _ _ (by first | omega | simp) ?_ | with_reducible refine Ext.upFN (by first | omega | simp) ?_ | with_reducible refine Ext.up1F (by first | omega | simp) ?_ | with_reducible refine Ext.up1N (by first | omega | simp) ?_ | with_reducible refine Ext.setCell ?_ (.inr (by first | omega | simp)) _ | refine Ext.alloc ?_ _ | refine Ext.setCellF _ _ _ (by first | omega | simp) ?_ | refine Ext.setCell ?_ (.inr (by first | omega | simp)) _))))⟩
      · have HF : Hid (lookS g.mem g.view n (g.sl i) = { g.sl i with cert := certL g.mem g.view n (g.sl i), done := (g.sl i).prop }) := Go.Lib.hid (by rw [HE.out, HDN.out, HD2.out, he2]; rfl)
        clear he2
        go_wp2
        go_returns
        have X5 : Ext Non wc x5.on := by (repeat (first | with_reducible exact Ext.refl _ _ | assumption | with_reducible refine Ext.upN ?_ | with_reducible refine Ext.alloc ?_ _ | with_reducible refine Ext.upA (by assumption) ?_ | with_reducible refine Ext.upW ?_ | with_reducible refine Ext.drew ?_ | with_reducible refine Ext.drewN ?_ _ | with_reducible refine Ext.upF ?_ | with_reducible refine Ext.upFF (by first | omega | simp) ?_ | with_reducible refine Ext.setCellsF _ _ _ (by first | omega | simp) ?_ | with_reducible refine Ext.setCellF _ _ _ (by first | omega | simp) ?_ | with_reducible refine Ext.upFN (by first | omega | simp) ?_ | with_reducible refine Ext.up1F (by first | omega | simp) ?_ | with_reducible refine Ext.up1N (by first | omega | simp) ?_ | with_reducible refine Ext.setCell ?_ (.inr (by first | omega | simp)) _ | refine Ext.alloc ?_ _ | refine Ext.setCellF _ _ _ (by first | omega | simp) ?_ | refine Ext.setCell ?_ (.inr (by first | omega | simp)) _))
        have e : putS g i { g.sl i with cert := certL g.mem g.view n (g.sl i), done := (g.sl i).prop } = putS (putS g i { g.sl i with cert := certL g.mem g.view n (g.sl i) }) i { g.sl i with cert := certL g.mem g.view n (g.sl i), done := (g.sl i).prop } := (putS_put _ _ _ _).symm
        have q := ((HQ1.out.extN X5).set (k := 3 + i * 5 + 4) (G' := G1) HL1.out.nb (fun k h => h) (.pointer (some ⟨kr', 0, none⟩)))
        refine ⟨rfl, G1, ?_, HG1.out, HX1.out.trans ((X5.ofNon (S := One b)).trans ((Ext.refl _ _).set1 _))⟩
        rw [HF.out, e]
        exact (HL1.out.extN X5).put (HP1.out.extN X5) hi (show 4 < 5 by omega) _ { pt1 i with pd := (pt1 i).pp } _ (by simp [Pt.row, ptV, HKR.out]) ⟨rfl, rfl⟩ (fun k h => h) HL1.out.nb (HL1.out.extN X5).lt ⟨q.prop, q.prep, q.com, q.cert, q.prop, q.f1, q.f2, q.ok1, q.ok2⟩
    · have u4' : wc.cell? ⟨b, 3 + i * 5 + 4, none⟩ = some (.pointer (some ⟨kd, 0, none⟩)) := by rw [u4, d1]; rfl
      have d2' : (g.sl i).done = some rd := d2
      have HF : Hid (lookS g.mem g.view n (g.sl i) = { g.sl i with cert := certL g.mem g.view n (g.sl i) }) := Go.Lib.hid (by rw [HE.out, HDN.out, d2']; simp only; rw [← d2'])
      clear u4 d1 d2 d2' AG2
      go_wp2
      go_returns
      exact ⟨rfl, G1, by rw [HF.out]; exact HL1.out.extN (by (repeat (first | with_reducible exact Ext.refl _ _ | assumption | with_reducible refine Ext.upN ?_ | with_reducible refine Ext.alloc ?_ _ | with_reducible refine Ext.upA (by assumption) ?_ | with_reducible refine Ext.upW ?_ | with_reducible refine Ext.drew ?_ | with_reducible refine Ext.drewN ?_ _ | with_reducible refine Ext.upF ?_ | with_reducible refine Ext.upFF (by first | omega | simp) ?_ | with_reducible refine Ext.setCellsF _ _ _ (by first | omega | simp) ?_ | with_reducible refine Ext.setCellF _ _ _ (by first | omega | simp) ?_ | with_reducible refine Ext.upFN (by first | omega | simp) ?_ | with_reducible refine Ext.up1F (by first | omega | simp) ?_ | with_reducible refine Ext.up1N (by first | omega | simp) ?_ | with_reducible refine Ext.setCell ?_ (.inr (by first | omega | simp)) _ | refine Ext.alloc ?_ _ | refine Ext.setCellF _ _ _ (by first | omega | simp) ?_ | refine Ext.setCell ?_ (.inr (by first | omega | simp)) _))), HG1.out, HX1.out.trans (Ext.ofNon (by (repeat (first | with_reducible exact Ext.refl _ _ | assumption | with_reducible refine Ext.upN ?_ | with_reducible refine Ext.alloc ?_ _ | with_reducible refine Ext.upA (by assumption) ?_ | with_reducible refine Ext.upW ?_ | with_reducible refine Ext.drew ?_ | with_reducible refine Ext.drewN ?_ _ | with_reducible refine Ext.upF ?_ | with_reducible refine Ext.upFF (by first | omega | simp) ?_ | with_reducible refine Ext.setCellsF _ _ _ (by first | omega | simp) ?_ | with_reducible refine Ext.setCellF _ _ _ (by first | omega | simp) ?_ | with_reducible refine Ext.upFN (by first | omega | simp) ?_ | with_reducible refine Ext.up1F (by first | omega | simp) ?_ | with_reducible refine Ext.up1N (by first | omega | simp) ?_ | with_reducible refine Ext.setCell ?_ (.inr (by first | omega | simp)) _ | refine Ext.alloc ?_ _ | refine Ext.setCellF _ _ _ (by first | omega | simp) ?_ | refine Ext.setCell ?_ (.inr (by first | omega | simp)) _))))⟩
end Go.Proofs.Ytakbkpklfihfiaa

/- Contracts of layer 14: slot.clear, Log.clear, Log.Enter, New, Log.View. -/
namespace Go.Proofs.Ytakbkpklfihfiaa
open Go.RowKit Go.Lib F64
set_option linter.unusedSimpArgs false
set_option linter.unusedVariables false
attribute [local go_sem] run_store_float
attribute [local go_sem low] EW.cellN EW.frozN alloc_cell_or alloc_froz_or EW.cellF EW.frozF EW.cell1 EW.froz1
attribute [local go_sem] relAt relUpon
structure R5 where
  x0 : Value
  x1 : Value
  x2 : Value
  x3 : Value
  x4 : Value
def R5.row (p : R5) : List Value := [p.x0, p.x1, p.x2, p.x3, p.x4]
def rr (h0 h1 h2 : Value) (r : Nat → R5) : List Value := h0 :: h1 :: h2 :: ((r 0).row ++ ((r 1).row ++ ((r 2).row ++ (r 3).row)))
def updR (r : Nat → R5) (i : Nat) (p : R5) : Nat → R5 := fun j => if j = i then p else r j
theorem rr_get {h0 h1 h2 : Value} {r : Nat → R5} {i j : Nat} (hi : i < 4) (hj : j < 5) : (rr h0 h1 h2 r)[3 + i * 5 + j]? = (r i).row[j]? := by
  have h4 : i = 0 ∨ i = 1 ∨ i = 2 ∨ i = 3 := by omega
  have h5 : j = 0 ∨ j = 1 ∨ j = 2 ∨ j = 3 ∨ j = 4 := by omega
  rcases h4 with rfl | rfl | rfl | rfl <;> rcases h5 with rfl | rfl | rfl | rfl | rfl <;> rfl
theorem rr_set {h0 h1 h2 : Value} {r : Nat → R5} {i j : Nat} (hi : i < 4) (hj : j < 5) (v : Value) (p : R5) (hp : (r i).row.set j v = p.row) : (rr h0 h1 h2 r).set (3 + i * 5 + j) v = rr h0 h1 h2 (updR r i p) := by
  have h4 : i = 0 ∨ i = 1 ∨ i = 2 ∨ i = 3 := by omega
  have h5 : j = 0 ∨ j = 1 ∨ j = 2 ∨ j = 3 ∨ j = 4 := by omega
  rcases h4 with rfl | rfl | rfl | rfl <;> rcases h5 with rfl | rfl | rfl | rfl | rfl <;> simp [rr, updR, R5.row] at hp ⊢ <;> exact hp
theorem updR_upd (r : Nat → R5) (i : Nat) (p q : R5) : updR (updR r i p) i q = updR r i q := by
  funext j
  unfold updR
  by_cases h : j = i <;> simp [h]
/-- The cells of a log, whatever they hold. -/
def RawB (w : World) (b : Nat) (h0 h1 h2 : Value) (r : Nat → R5) : Prop := w.heap[b]? = some (.cells (rr h0 h1 h2 r).toArray 129 (0, 0))
theorem RawB.lt {w : World} {b : Nat} {h0 h1 h2 : Value} {r : Nat → R5} (h : RawB w b h0 h1 h2 r) : b < w.heap.size := (Array.getElem?_eq_some_iff.1 h).1
theorem RawB.alloc {w : World} {b : Nat} {h0 h1 h2 : Value} {r : Nat → R5} (h : RawB w b h0 h1 h2 r) (o : Obj) : RawB (w.alloc o) b h0 h1 h2 r := (((Ext.refl Non w).alloc o).block b h.lt id).trans h
theorem RawB.set {w : World} {b : Nat} {h0 h1 h2 : Value} {r : Nat → R5} (h : RawB w b h0 h1 h2 r) {i j : Nat} (hi : i < 4) (hj : j < 5) (v : Value) (p : R5) (hp : (r i).row.set j v = p.row) : RawB (w.setCell ⟨b, 3 + i * 5 + j, none⟩ v) b h0 h1 h2 (updR r i p) := by
  have := heap_set_same (k := 3 + i * 5 + j) h v
  rw [rr_set hi hj v p hp] at this
  exact this
theorem RawB.cell {w : World} {b : Nat} {h0 h1 h2 : Value} {r : Nat → R5} (h : RawB w b h0 h1 h2 r) {i j : Nat} (hi : i < 4) (hj : j < 5) {v : Value} (hv : (r i).row[j]? = some v) : w.cell? ⟨b, 3 + i * 5 + j, none⟩ = some v := cell_of_heap h ((rr_get hi hj).trans hv)
theorem RawB.fz {w : World} {b : Nat} {h0 h1 h2 : Value} {r : Nat → R5} (h : RawB w b h0 h1 h2 r) (k : Nat) : w.frozen? ⟨b, k, none⟩ = false := froz_of_heap h
set_option maxHeartbeats 1000000 in
set_option maxRecDepth 100000 in
theorem slot_clear (b i : Nat) (h0 h1 h2 : Value) (r : Nat → R5) (hi : i < 4) (w : World) (h : RawB w b h0 h1 h2 r) :
    Calls Try.prog 122 #[.pointer (some ⟨b, 3 + i * 5, none⟩)] w fun e w' => e = .returned (.tuple #[]) ∧ w'.heap[w.heap.size]? = some (.map #[] 0) ∧ w'.heap[w.heap.size + 1]? = some (.map #[] 0) ∧ RawB w' b h0 h1 h2 (updR r i ⟨.pointer none, .map (some w.heap.size), .map (some (w.heap.size + 1)), (r i).x3, (r i).x4⟩) ∧ Ext (One b) w w' ∧ w'.heap.size = w.heap.size + 2 := by
  have HH := Go.Lib.hid h
  have k0 : w.cell? ⟨b, 3 + i * 5, none⟩ = some (r i).x0 := h.cell hi (show 0 < 5 by omega) rfl
  have k1 : w.cell? ⟨b, 3 + i * 5 + 1, none⟩ = some (r i).x1 := h.cell hi (show 1 < 5 by omega) rfl
  have k2 : w.cell? ⟨b, 3 + i * 5 + 2, none⟩ = some (r i).x2 := h.cell hi (show 2 < 5 by omega) rfl
  have f0 : w.frozen? ⟨b, 3 + i * 5, none⟩ = false := h.fz _
  have f1 : w.frozen? ⟨b, 3 + i * 5 + 1, none⟩ = false := h.fz _
  have f2 : w.frozen? ⟨b, 3 + i * 5 + 2, none⟩ = false := h.fz _
  have hbl := h.lt
  have hmm := @run_makeMap Try.prog
  clear h
  go_enter Try.func122, Try.ntmps122
  go_wp2
  go_returns
  have HX : Ext (One b) w (((w.setCell ⟨b, 3 + i * 5, none⟩ (.pointer none)).setCell ⟨b, 3 + i * 5 + 1, none⟩ (.map (some w.heap.size))).setCell ⟨b, 3 + i * 5 + 2, none⟩ (.map (some (w.heap.size + 1)))) := ((((Ext.refl _ _).set1 _).set1 _).set1 _)
  have hs : (((w.setCell ⟨b, 3 + i * 5, none⟩ (.pointer none)).setCell ⟨b, 3 + i * 5 + 1, none⟩ (.map (some w.heap.size))).setCell ⟨b, 3 + i * 5 + 2, none⟩ (.map (some (w.heap.size + 1)))).heap.size = w.heap.size := by simp [World.setCell]
  have two : ∀ W3 : World, W3.heap.size = w.heap.size → ((W3.alloc (.map #[] 0)).alloc (.map #[] 0)).heap[w.heap.size]? = some (.map #[] 0) ∧ ((W3.alloc (.map #[] 0)).alloc (.map #[] 0)).heap[w.heap.size + 1]? = some (.map #[] 0) ∧ ((W3.alloc (.map #[] 0)).alloc (.map #[] 0)).heap.size = w.heap.size + 2 := fun W3 h => by
    refine ⟨?_, ?_, by simp [h]⟩
    · refine (((Ext.refl Non (W3.alloc (.map #[] 0))).alloc (.map #[] 0)).block _ (by simp [h]) id).trans ?_
      rw [← h]; exact heap_alloc_new _ _
    · have e : w.heap.size + 1 = (W3.alloc (.map #[] 0)).heap.size := by simp [h]
      rw [e]; exact heap_alloc_new _ _
  obtain ⟨t1, t2, t3⟩ := two _ hs
  refine ⟨rfl, t1, t2, ?_, (HX.alloc _).alloc _, t3⟩
  · have e0 : RawB (w.setCell ⟨b, 3 + i * 5, none⟩ (.pointer none)) b h0 h1 h2 (updR r i ⟨.pointer none, (r i).x1, (r i).x2, (r i).x3, (r i).x4⟩) := HH.out.set hi (show 0 < 5 by omega) (.pointer none) ⟨.pointer none, (r i).x1, (r i).x2, (r i).x3, (r i).x4⟩ rfl
    have e1 := e0.set hi (show 1 < 5 by omega) (.map (some w.heap.size)) ⟨.pointer none, .map (some w.heap.size), (r i).x2, (r i).x3, (r i).x4⟩ (by simp [updR, R5.row])
    rw [updR_upd] at e1
    have e2 := e1.set hi (show 2 < 5 by omega) (.map (some (w.heap.size + 1))) ⟨.pointer none, .map (some w.heap.size), .map (some (w.heap.size + 1)), (r i).x3, (r i).x4⟩ (by simp [updR, R5.row])
    rw [updR_upd] at e2
    exact (e2.alloc _).alloc _
def clr (mm : Nat → Nat) (r : Nat → R5) (k : Nat) : Nat → R5 := fun j => if j < k then ⟨.pointer none, .map (some (mm j)), .map (some (mm j + 1)), (r j).x3, (r j).x4⟩ else r j
theorem clr_zero (mm : Nat → Nat) (r : Nat → R5) : clr mm r 0 = r := by funext j; exact if_neg (Nat.not_lt_zero _)
theorem clr_succ (mm : Nat → Nat) (r : Nat → R5) (k m : Nat) : updR (clr mm r k) k ⟨.pointer none, .map (some m), .map (some (m + 1)), ((clr mm r k) k).x3, ((clr mm r k) k).x4⟩ = clr (fun j => if j = k then m else mm j) r (k + 1) := by
  funext j
  unfold updR clr
  by_cases h : j = k
  · subst h; simp
  · rw [if_neg h]
    by_cases h2 : j < k
    · rw [if_pos h2, if_pos (by omega)]; simp [h]
    · rw [if_neg h2, if_neg (by omega)]
/-- The maps that a clear has made: each pair new, none of them two times. -/
structure Made (w w' : World) (mm : Nat → Nat) (k : Nat) : Prop where
  old : ∀ j, j < k → w.heap.size ≤ mm j ∧ mm j + 1 < w'.heap.size ∧ w'.heap[mm j]? = some (.map #[] 0) ∧ w'.heap[mm j + 1]? = some (.map #[] 0)
  apart : ∀ i j, i < j → j < k → mm i + 1 < mm j
set_option maxHeartbeats 1000000 in
set_option maxRecDepth 100000 in
theorem log_clear (b : Nat) (h0 h1 h2 : Value) (r : Nat → R5) (w : World) (h : RawB w b h0 h1 h2 r) :
    Calls Try.prog 83 #[.pointer (some ⟨b, 0, none⟩)] w fun e w' => e = .returned (.tuple #[]) ∧ ∃ mm, RawB w' b h0 h1 h2 (clr mm r 4) ∧ Made w w' mm 4 ∧ Ext (One b) w w' := by
  have HH := Go.Lib.hid h
  have hbl := h.lt
  clear h
  go_enter Try.func83, Try.ntmps83
  go_wp2_with fail
  go_loopg [3] 4 (fun g iv wr => ∃ (k : Nat) (mm : Nat → Nat) (z : EW (One b) w), k ≤ 4 ∧ g = 4 - k ∧ iv = .int .i64 k ∧ wr = z.on ∧ Hid (RawB wr b h0 h1 h2 (clr mm r k)) ∧ Hid (Made w wr mm k))
  case atStart => exact ⟨0, fun _ => 0, ⟨w, Ext.refl _ _⟩, by omega, rfl, rfl, rfl, Go.Lib.hid (by rw [clr_zero]; exact HH.out), Go.Lib.hid ⟨fun j hj => absurd hj (Nat.not_lt_zero _), fun i j _ hj => absurd hj (Nat.not_lt_zero _)⟩⟩
  case round =>
    obtain ⟨k, mm, z, hk, hg, rfl, rfl, HR, HM⟩ := hrel
    have HG := Go.Lib.hid hg; clear hg
    by_cases hlt : k < 4
    · go_wp2_with fail
      refine (slot_clear b k h0 h1 h2 (clr mm r k) hlt _ HR.out).mono ?_
      rintro e w2 ⟨rfl, m1, m2, hR, hx, hsz⟩
      have HR2 : Hid (RawB w2 b h0 h1 h2 (clr (fun j => if j = k then z.on.heap.size else mm j) r (k + 1))) := Go.Lib.hid (by rw [← clr_succ]; exact hR)
      have HM2 : Hid (Made w w2 (fun j => if j = k then z.on.heap.size else mm j) (k + 1)) := Go.Lib.hid (by
        refine ⟨fun j hj => ?_, fun i j hij hj => ?_⟩
        · by_cases e : j = k
          · subst e; simp only [if_true]; exact ⟨z.ext.size, by omega, m1, m2⟩
          · simp only [if_neg e]
            obtain ⟨q1, q2, q3, q4⟩ := HM.out.old j (by omega)
            have nb1 : ¬ One b (mm j) := fun e => absurd (q3.symm.trans ((congrArg (fun k => z.on.heap[k]?) e).trans HR.out)) (by simp)
            have nb2 : ¬ One b (mm j + 1) := fun e => absurd (q4.symm.trans ((congrArg (fun k => z.on.heap[k]?) e).trans HR.out)) (by simp)
            exact ⟨q1, by omega, (hx.block _ (by omega) nb1).trans q3, (hx.block _ (by omega) nb2).trans q4⟩
        · by_cases e : j = k
          · have ei : i ≠ k := by omega
            simp only [if_pos e, if_neg ei]
            exact (HM.out.old i (by omega)).2.1
          · have ei : i ≠ k := by omega
            simp only [if_neg e, if_neg ei]
            exact HM.out.apart i j hij (by omega))
      obtain ⟨z2, rfl⟩ := hx.ew
      clear hR m1 m2 hsz hx
      go_wp2_with fail
      go_roundg (4 - (k + 1))
      case measure => have := HG.out; omega
      case rel => exact ⟨k + 1, _, ⟨_, z.ext.trans z2.ext⟩, by omega, rfl, by go_num, rfl, HR2, HM2⟩
    · obtain rfl : k = 4 := by omega
      go_wp2
      go_returns
      exact ⟨rfl, mm, HR.out, HM.out, z.ext⟩
end Go.Proofs.Ytakbkpklfihfiaa

/- Contracts of layer 14: slots.New, Log.Enter, Log.View. -/
namespace Go.Proofs.Ytakbkpklfihfiaa
open Go.RowKit Go.Lib F64
set_option linter.unusedSimpArgs false
set_option linter.unusedVariables false
attribute [local go_sem] run_store_float
attribute [local go_sem low] EW.cellN EW.frozN alloc_cell_or alloc_froz_or EW.cellF EW.frozF EW.cell1 EW.froz1
attribute [local go_sem] relAt relUpon
theorem fresh.extN {n : Nat} {w w' : World} {a : Option Addr} (h : fresh n w a) (x : Ext Non w w') : fresh n w' a := fun k o e => by
  obtain ⟨h1, vs, fr, h2⟩ := h k o e
  exact ⟨h1, vs, fr, (x.block k (Array.getElem?_eq_some_iff.1 h2).1 id).trans h2⟩
def zeroR : R5 := ⟨.pointer none, .map none, .map none, .pointer none, .pointer none⟩
def moS (base : Nat) (xs : List Int) (f : Value → Value) : Mo := ⟨fun v w => ∃ a c, v = f (.slice a xs.length c) ∧ Ints w a c xs ∧ fresh base w a, fun _ _ _ x ⟨a, c, e, h, f⟩ => ⟨a, c, e, h.extN x, f.extN x⟩⟩
def logV (ep : Int) (s : Value) : Value := .agg (rr (.int .i64 ep) s (.int .i64 0) (fun _ => zeroR)).toArray
def moG (base : Nat) (ep : Int) (xs : List Int) : Mo := ⟨fun v w => ∃ g a c, v = .pointer (some ⟨g, 0, none⟩) ∧ base ≤ g ∧ RawB w g (.int .i64 ep) (.slice a xs.length c) (.int .i64 0) (fun _ => zeroR) ∧ Ints w a c xs ∧ fresh base w a,
  fun _ _ _ x ⟨g, a, c, e, l, r, h, f⟩ => ⟨g, a, c, e, l, (x.block g r.lt id).trans r, h.extN x, f.extN x⟩⟩
/-- A log all of whose slots have just been cleared. -/
theorem low_cleared {w w' : World} {b : Nat} {G : Nat → Prop} {ep view : Int} {a : Option Addr} {c : Nat} {mem : List Int} {mm : Nat → Nat} {r : Nat → R5} {pcs pds : Nat → Option Nat} {sl : Nat → Sl}
    (hR : RawB w' b (.int .i64 ep) (.slice a mem.length c) (.int .i64 view) (clr mm r 4)) (hM : Made w w' mm 4) (hi : Ints w' a c mem) (ha : ∀ b' o, a = some ⟨b', o, none⟩ → G b') (nb : ¬ G b) (lt : ∀ k, G k → k < w'.heap.size) (hG : ∀ k, w.heap.size ≤ k → k < w'.heap.size → k ≠ b → G k)
    (hc : confB ep mem = true) (hv : 0 ≤ view ∧ view ≤ 15) (h3 : ∀ i, i < 4 → (r i).x3 = ptV (pcs i) ∧ (r i).x4 = ptV (pds i)) (hp : ∀ i, i < 4 → PtrC w' G (pcs i) (sl i).cert ∧ PtrR w' G (pds i) (sl i).done) :
    LoW w' b G ⟨ep, mem, view, fun j => clearS (sl j)⟩ := by
  have hmb : ∀ j, j < 4 → mm j ≠ b ∧ mm j + 1 ≠ b := fun j hj => by
    obtain ⟨-, -, q3, q4⟩ := hM.old j hj
    exact ⟨fun e => absurd (q3.symm.trans ((congrArg (fun k => w'.heap[k]?) e).trans hR)) (by simp), fun e => absurd (q4.symm.trans ((congrArg (fun k => w'.heap[k]?) e).trans hR)) (by simp)⟩
  refine ⟨⟨a, c, fun j => ⟨none, mm j, mm j + 1, pcs j, pds j⟩, ?_, hi, ha, fun i h4 => ?_, fun i j h4 h4' => ?_⟩, nb, lt, hc, hv⟩
  · have e : rr (.int .i64 ep) (.slice a mem.length c) (.int .i64 view) (clr mm r 4) = rowLo ep a mem.length c view (fun j => ⟨none, mm j, mm j + 1, pcs j, pds j⟩) := by
      have k0 := h3 0 (by omega); have k1 := h3 1 (by omega); have k2 := h3 2 (by omega); have k3 := h3 3 (by omega)
      simp [rr, rowLo, clr, R5.row, Pt.row, k0, k1, k2, k3, ptV]
    have := hR
    unfold RawB at this
    rw [e] at this
    exact this
  · obtain ⟨q1, q2, q3, q4⟩ := hM.old i h4
    obtain ⟨n1, n2⟩ := hmb i h4
    exact ⟨.inl ⟨rfl, rfl⟩, MapG.empty q3, MapG.empty q4, (hp i h4).1, (hp i h4).2, hG (mm i) q1 (by omega) n1, hG (mm i + 1) (by omega) q2 n2, fun p hp => (List.not_mem_nil hp).elim, fun p hp => (List.not_mem_nil hp).elim⟩
  · have ap := hM.apart
    refine ⟨fun e => ?_, fun e => ?_, fun e => ?_⟩
    · rcases Nat.lt_trichotomy i j with h | h | h
      · have := ap i j h h4'; have e' : mm i = mm j := e; omega
      · exact h
      · have := ap j i h h4; have e' : mm i = mm j := e; omega
    · rcases Nat.lt_trichotomy i j with h | h | h
      · have := ap i j h h4'; have e' : mm i + 1 = mm j + 1 := e; omega
      · exact h
      · have := ap j i h h4; have e' : mm i + 1 = mm j + 1 := e; omega
    · rcases Nat.lt_trichotomy i j with h | h | h
      · have := ap i j h h4'; have e' : mm i = mm j + 1 := e; omega
      · subst h; have e' : mm i = mm i + 1 := e; omega
      · have := ap j i h h4; have e' : mm i = mm j + 1 := e; omega
set_option maxHeartbeats 2000000 in
set_option maxRecDepth 100000 in
theorem slots_New_no (ep : Int) (a : Option Addr) (cap : Nat) (xs : List Int) (hc : confB ep xs = false) (w : World) (h : Ints w a cap xs) : Calls Try.prog 34 #[.agg #[.int .i64 ep, .slice a xs.length cap]] w fun e w' =>
    e = .returned (.tuple #[.pointer none, .int .i64 1]) ∧ Ext Non w w' := by
  have HI := Go.Lib.hid h
  clear h
  go_enter Try.func34, Try.ntmps34
  go_wp2_with fail
  refine Calls.ew (council_Right ep a cap xs _ (HI.out.extN (by (repeat (first | with_reducible exact Ext.refl _ _ | assumption | with_reducible refine Ext.upN ?_ | with_reducible refine Ext.alloc ?_ _ | with_reducible refine Ext.upA (by assumption) ?_ | with_reducible refine Ext.upW ?_ | with_reducible refine Ext.drew ?_ | with_reducible refine Ext.drewN ?_ _ | with_reducible refine Ext.upF ?_ | with_reducible refine Ext.upFF (by first | omega | simp) ?_ | with_reducible refine Ext.setCellsF _ _ _ (by first | omega | simp) ?_ | with_reducible refine Ext.setCellF _ _ _ (by first | omega | simp) ?_ | with_reducible refine Ext.upFN (by first | omega | simp) ?_ | with_reducible refine Ext.up1F (by first | omega | simp) ?_ | with_reducible refine Ext.up1N (by first | omega | simp) ?_ | with_reducible refine Ext.setCell ?_ (.inr (by first | omega | simp)) _ | refine Ext.alloc ?_ _ | refine Ext.setCellF _ _ _ (by first | omega | simp) ?_ | refine Ext.setCell ?_ (.inr (by first | omega | simp)) _))))) ?_
  rintro e x1 rfl
  rw [hc]
  clear hc
  go_wp2
  go_returns
  exact ⟨rfl, by (repeat (first | with_reducible exact Ext.refl _ _ | assumption | with_reducible refine Ext.upN ?_ | with_reducible refine Ext.alloc ?_ _ | with_reducible refine Ext.upA (by assumption) ?_ | with_reducible refine Ext.upW ?_ | with_reducible refine Ext.drew ?_ | with_reducible refine Ext.drewN ?_ _ | with_reducible refine Ext.upF ?_ | with_reducible refine Ext.upFF (by first | omega | simp) ?_ | with_reducible refine Ext.setCellsF _ _ _ (by first | omega | simp) ?_ | with_reducible refine Ext.setCellF _ _ _ (by first | omega | simp) ?_ | with_reducible refine Ext.upFN (by first | omega | simp) ?_ | with_reducible refine Ext.up1F (by first | omega | simp) ?_ | with_reducible refine Ext.up1N (by first | omega | simp) ?_ | with_reducible refine Ext.setCell ?_ (.inr (by first | omega | simp)) _ | refine Ext.alloc ?_ _ | refine Ext.setCellF _ _ _ (by first | omega | simp) ?_ | refine Ext.setCell ?_ (.inr (by first | omega | simp)) _))⟩
set_option maxHeartbeats 2000000 in
set_option maxRecDepth 100000 in
theorem slots_New (ep : Int) (a : Option Addr) (cap : Nat) (xs : List Int) (hc : confB ep xs = true) (w : World) (h : Ints w a cap xs) : Calls Try.prog 34 #[.agg #[.int .i64 ep, .slice a xs.length cap]] w fun e w' =>
    ∃ b G, e = .returned (.tuple #[.pointer (some ⟨b, 0, none⟩), .int .i64 0]) ∧ LoW w' b G (newLo ep xs) ∧ (∀ k, LoF b G k → w.heap.size ≤ k) ∧ Ext Non w w' := by
  have HI := Go.Lib.hid h
  have HC := Go.Lib.hid hc
  have hl := (conf_len10 hc).2
  clear h
  go_enter Try.func34, Try.ntmps34
  go_wp2_with fail
  refine Calls.ew (council_Right ep a cap xs _ (HI.out.extN (by (repeat (first | with_reducible exact Ext.refl _ _ | assumption | with_reducible refine Ext.upN ?_ | with_reducible refine Ext.alloc ?_ _ | with_reducible refine Ext.upA (by assumption) ?_ | with_reducible refine Ext.upW ?_ | with_reducible refine Ext.drew ?_ | with_reducible refine Ext.drewN ?_ _ | with_reducible refine Ext.upF ?_ | with_reducible refine Ext.upFF (by first | omega | simp) ?_ | with_reducible refine Ext.setCellsF _ _ _ (by first | omega | simp) ?_ | with_reducible refine Ext.setCellF _ _ _ (by first | omega | simp) ?_ | with_reducible refine Ext.upFN (by first | omega | simp) ?_ | with_reducible refine Ext.up1F (by first | omega | simp) ?_ | with_reducible refine Ext.up1N (by first | omega | simp) ?_ | with_reducible refine Ext.setCell ?_ (.inr (by first | omega | simp)) _ | refine Ext.alloc ?_ _ | refine Ext.setCellF _ _ _ (by first | omega | simp) ?_ | refine Ext.setCell ?_ (.inr (by first | omega | simp)) _))))) ?_
  rintro e x1 rfl
  rw [hc]
  clear hc
  go_upto_region 3 with fail
  apply wp_region_rel (relR [Mo.is _, Mo.is _, Mo.is _, Mo.is _, moS w.heap.size xs (fun s => s), moS w.heap.size xs (fun s => .agg #[.int .i64 ep, s]), moS w.heap.size xs (logV ep), moG w.heap.size ep xs, moG w.heap.size ep xs]) (by kernel_rfl) (by kernel_rfl) (by kernel_rfl) (relR_mono _) (StepD.all ?st3) ?q3
  case st3 =>
    refine ⟨?_, ?_, ?_, ?_, ?_, ?_, ?_, ?_, ?_, trivial⟩
    · intro a' w' hx hs hd
      obtain ⟨y, rfl⟩ := hx.ew
      have e1 : a'.tmps[1]?.getD undef = _ := hs 1 rfl
      simp only [List.getElem?_toArray, List.getElem?_cons_succ, List.getElem?_cons_zero, Option.getD_some, Array.getElem?_eq_some_iff] at e1
      refine .inl ⟨rfl, ?_⟩
      clear hs hd hx
      go_simp
      exact ⟨Ext.refl _ _, rfl⟩
    · intro a' w' hx hs hd
      obtain ⟨y, rfl⟩ := hx.ew
      have e8 : a'.tmps[8]?.getD undef = _ := hd 0 8 rfl rfl
      refine .inl ⟨rfl, ?_⟩
      clear hs hd hx
      go_simp
      exact ⟨Ext.refl _ _, rfl⟩
    · intro a' w' hx hs hd
      obtain ⟨y, rfl⟩ := hx.ew
      have e1 : a'.tmps[1]?.getD undef = _ := hs 1 rfl
      simp only [List.getElem?_toArray, List.getElem?_cons_succ, List.getElem?_cons_zero, Option.getD_some, Array.getElem?_eq_some_iff] at e1
      refine .inl ⟨rfl, ?_⟩
      clear hs hd hx
      go_simp
      exact ⟨Ext.refl _ _, rfl⟩
    · intro a' w' hx hs hd
      obtain ⟨y, rfl⟩ := hx.ew
      have e10 : a'.tmps[10]?.getD undef = _ := hd 2 10 rfl rfl
      refine .inl ⟨rfl, ?_⟩
      clear hs hd hx
      go_simp
      exact ⟨Ext.refl _ _, rfl⟩
    · intro a' w' hx hs hd
      obtain ⟨y, rfl⟩ := hx.ew
      have e11 : a'.tmps[11]?.getD undef = _ := hd 3 11 rfl rfl
      refine .inl ⟨rfl, ?_⟩
      clear hs hd hx
      go_simp
      exact (slices_Clone a cap xs (by omega) _ (HI.out.extN (by (repeat (first | with_reducible exact Ext.refl _ _ | assumption | with_reducible refine Ext.upN ?_ | with_reducible refine Ext.alloc ?_ _ | with_reducible refine Ext.upA (by assumption) ?_ | with_reducible refine Ext.upW ?_ | with_reducible refine Ext.drew ?_ | with_reducible refine Ext.drewN ?_ _ | with_reducible refine Ext.upF ?_ | with_reducible refine Ext.upFF (by first | omega | simp) ?_ | with_reducible refine Ext.setCellsF _ _ _ (by first | omega | simp) ?_ | with_reducible refine Ext.setCellF _ _ _ (by first | omega | simp) ?_ | with_reducible refine Ext.upFN (by first | omega | simp) ?_ | with_reducible refine Ext.up1F (by first | omega | simp) ?_ | with_reducible refine Ext.up1N (by first | omega | simp) ?_ | with_reducible refine Ext.setCell ?_ (.inr (by first | omega | simp)) _ | refine Ext.alloc ?_ _ | refine Ext.setCellF _ _ _ (by first | omega | simp) ?_ | refine Ext.setCell ?_ (.inr (by first | omega | simp)) _))))).mono (fun e w'' ⟨a', c', he, hx, hI, hf⟩ => ⟨_, he, hx, a', c', rfl, hI, fun k o q => ⟨Nat.le_trans (Ext.size (by (repeat (first | with_reducible exact Ext.refl _ _ | assumption | with_reducible refine Ext.upN ?_ | with_reducible refine Ext.alloc ?_ _ | with_reducible refine Ext.upA (by assumption) ?_ | with_reducible refine Ext.upW ?_ | with_reducible refine Ext.drew ?_ | with_reducible refine Ext.drewN ?_ _ | with_reducible refine Ext.upF ?_ | with_reducible refine Ext.upFF (by first | omega | simp) ?_ | with_reducible refine Ext.setCellsF _ _ _ (by first | omega | simp) ?_ | with_reducible refine Ext.setCellF _ _ _ (by first | omega | simp) ?_ | with_reducible refine Ext.upFN (by first | omega | simp) ?_ | with_reducible refine Ext.up1F (by first | omega | simp) ?_ | with_reducible refine Ext.up1N (by first | omega | simp) ?_ | with_reducible refine Ext.setCell ?_ (.inr (by first | omega | simp)) _ | refine Ext.alloc ?_ _ | refine Ext.setCellF _ _ _ (by first | omega | simp) ?_ | refine Ext.setCell ?_ (.inr (by first | omega | simp)) _)) : Ext Non w y.on)) (hf k o q).1, (hf k o q).2⟩⟩)
    · intro a' w' hx hs hd
      obtain ⟨y, rfl⟩ := hx.ew
      have e9 : a'.tmps[9]?.getD undef = _ := hd 1 9 rfl rfl
      obtain ⟨sa, sc, e12, hI, hf⟩ : ∃ sa sc, a'.tmps[12]?.getD undef = .slice sa xs.length sc ∧ Ints y.on sa sc xs ∧ fresh w.heap.size y.on sa := hd 4 12 rfl rfl
      refine .inl ⟨rfl, ?_⟩
      clear hs hd hx
      go_simp
      exact ⟨Ext.refl _ _, sa, sc, rfl, hI, hf⟩
    · intro a' w' hx hs hd
      obtain ⟨y, rfl⟩ := hx.ew
      obtain ⟨sa, sc, e13, hI, hf⟩ : ∃ sa sc, a'.tmps[13]?.getD undef = .agg #[.int .i64 ep, .slice sa xs.length sc] ∧ Ints y.on sa sc xs ∧ fresh w.heap.size y.on sa := hd 5 13 rfl rfl
      refine .inl ⟨rfl, ?_⟩
      clear hs hd hx
      go_simp
      exact ⟨Ext.refl _ _, sa, sc, rfl, hI, hf⟩
    · intro a' w' hx hs hd
      obtain ⟨y, rfl⟩ := hx.ew
      obtain ⟨sa, sc, e14, hI, hf⟩ : ∃ sa sc, a'.tmps[14]?.getD undef = logV ep (.slice sa xs.length sc) ∧ Ints y.on sa sc xs ∧ fresh w.heap.size y.on sa := hd 6 14 rfl rfl
      refine .inl ⟨rfl, ?_⟩
      clear hs hd hx
      simp only [logV, rr, R5.row, zeroR, List.cons_append, List.nil_append] at e14
      go_simp
      exact ⟨(Ext.refl _ _).alloc _, _, sa, sc, rfl, Ext.size (by (repeat (first | with_reducible exact Ext.refl _ _ | assumption | with_reducible refine Ext.upN ?_ | with_reducible refine Ext.alloc ?_ _ | with_reducible refine Ext.upA (by assumption) ?_ | with_reducible refine Ext.upW ?_ | with_reducible refine Ext.drew ?_ | with_reducible refine Ext.drewN ?_ _ | with_reducible refine Ext.upF ?_ | with_reducible refine Ext.upFF (by first | omega | simp) ?_ | with_reducible refine Ext.setCellsF _ _ _ (by first | omega | simp) ?_ | with_reducible refine Ext.setCellF _ _ _ (by first | omega | simp) ?_ | with_reducible refine Ext.upFN (by first | omega | simp) ?_ | with_reducible refine Ext.up1F (by first | omega | simp) ?_ | with_reducible refine Ext.up1N (by first | omega | simp) ?_ | with_reducible refine Ext.setCell ?_ (.inr (by first | omega | simp)) _ | refine Ext.alloc ?_ _ | refine Ext.setCellF _ _ _ (by first | omega | simp) ?_ | refine Ext.setCell ?_ (.inr (by first | omega | simp)) _)) : Ext Non w y.on), heap_alloc_new _ _, hI.extN ((Ext.refl _ _).alloc _), hf.extN ((Ext.refl _ _).alloc _)⟩
    · intro a' w' hx hs hd
      obtain ⟨y, rfl⟩ := hx.ew
      obtain ⟨g, sa, sc, e15, hgl, hR, hI, hf⟩ : ∃ g sa sc, a'.tmps[15]?.getD undef = .pointer (some ⟨g, 0, none⟩) ∧ w.heap.size ≤ g ∧ RawB y.on g (.int .i64 ep) (.slice sa xs.length sc) (.int .i64 0) (fun _ => zeroR) ∧ Ints y.on sa sc xs ∧ fresh w.heap.size y.on sa := hd 7 15 rfl rfl
      refine .inl ⟨rfl, ?_⟩
      clear hs hd hx
      go_simp
      exact ⟨Ext.refl _ _, g, sa, sc, rfl, hgl, hR, hI, hf⟩
  case' q3 =>
    intro vs w' hx hRR
    obtain ⟨x2, rfl⟩ := hx.ew
    have q0 : vs 0 = _ := hRR 0 (by decide)
    have q1 : vs 1 = _ := hRR 1 (by decide)
    have q2 : vs 2 = _ := hRR 2 (by decide)
    have q3 : vs 3 = _ := hRR 3 (by decide)
    obtain ⟨sa, sc, q4, hI, hf⟩ : ∃ sa sc, vs 4 = .slice sa xs.length sc ∧ Ints x2.on sa sc xs ∧ fresh w.heap.size x2.on sa := hRR 4 (by decide)
    obtain ⟨sa, sc, q5, hI, hf⟩ : ∃ sa sc, vs 5 = .agg #[.int .i64 ep, .slice sa xs.length sc] ∧ Ints x2.on sa sc xs ∧ fresh w.heap.size x2.on sa := hRR 5 (by decide)
    obtain ⟨sa, sc, q6, hI, hf⟩ : ∃ sa sc, vs 6 = logV ep (.slice sa xs.length sc) ∧ Ints x2.on sa sc xs ∧ fresh w.heap.size x2.on sa := hRR 6 (by decide)
    obtain ⟨g, sa, sc, q7, hgl, hR, hI, hf⟩ : ∃ g sa sc, vs 7 = .pointer (some ⟨g, 0, none⟩) ∧ w.heap.size ≤ g ∧ RawB x2.on g (.int .i64 ep) (.slice sa xs.length sc) (.int .i64 0) (fun _ => zeroR) ∧ Ints x2.on sa sc xs ∧ fresh w.heap.size x2.on sa := hRR 7 (by decide)
    obtain ⟨g, sa, sc, q8, hgl, hR, hI, hf⟩ : ∃ g sa sc, vs 8 = .pointer (some ⟨g, 0, none⟩) ∧ w.heap.size ≤ g ∧ RawB x2.on g (.int .i64 ep) (.slice sa xs.length sc) (.int .i64 0) (fun _ => zeroR) ∧ Ints x2.on sa sc xs ∧ fresh w.heap.size x2.on sa := hRR 8 (by decide)
    clear hRR hx
    simp only [putAll, List.take_succ_cons, List.take_zero, List.drop_succ_cons, List.drop_zero, Act.put, List.setIfInBounds_toArray, List.set_cons_zero, List.set_cons_succ, Nat.reduceAdd, Nat.zero_add]
    simp only [q0, q1, q2, q3, q4, q5, q6, q7, q8]
    clear q0 q1 q2 q3 q4 q5 q6 q7 q8 vs
  have HR := Go.Lib.hid hR; have HS := Go.Lib.hid hI; have HF := Go.Lib.hid hf
  clear hR hI hf
  go_wp2_with fail
  refine (log_clear g (.int .i64 ep) (.slice sa xs.length sc) (.int .i64 0) (fun _ => zeroR) _ HR.out).mono ?_
  rintro e _ ⟨rfl, mm, hR, hM, hx⟩
  obtain ⟨x3, rfl⟩ := hx.ew
  have HR3 := Go.Lib.hid hR; have HM := Go.Lib.hid hM
  clear hR hM hx
  have X2 : Ext Non w x2.on := by (repeat (first | with_reducible exact Ext.refl _ _ | assumption | with_reducible refine Ext.upN ?_ | with_reducible refine Ext.alloc ?_ _ | with_reducible refine Ext.upA (by assumption) ?_ | with_reducible refine Ext.upW ?_ | with_reducible refine Ext.drew ?_ | with_reducible refine Ext.drewN ?_ _ | with_reducible refine Ext.upF ?_ | with_reducible refine Ext.upFF (by first | omega | simp) ?_ | with_reducible refine Ext.setCellsF _ _ _ (by first | omega | simp) ?_ | with_reducible refine Ext.setCellF _ _ _ (by first | omega | simp) ?_ | with_reducible refine Ext.upFN (by first | omega | simp) ?_ | with_reducible refine Ext.up1F (by first | omega | simp) ?_ | with_reducible refine Ext.up1N (by first | omega | simp) ?_ | with_reducible refine Ext.setCell ?_ (.inr (by first | omega | simp)) _ | refine Ext.alloc ?_ _ | refine Ext.setCellF _ _ _ (by first | omega | simp) ?_ | refine Ext.setCell ?_ (.inr (by first | omega | simp)) _))
  have XF : Ext Non w x3.on := X2.step x3.ext (fun i hi e => by unfold One at e; omega)
  have hsg : ∀ b' o, sa = some ⟨b', o, none⟩ → b' ≠ g := fun b' o e q => by
    obtain ⟨-, vs, fr, h2⟩ := HF.out b' o e
    subst q
    have := HR.out
    unfold RawB at this
    rw [h2] at this
    injection this with this
    injection this with _ this _
    exact absurd this (by decide)
  have hsl : ∀ b' o, sa = some ⟨b', o, none⟩ → w.heap.size ≤ b' ∧ b' < x2.on.heap.size := fun b' o e => by
    obtain ⟨h1, vs, fr, h2⟩ := HF.out b' o e
    exact ⟨h1, (Array.getElem?_eq_some_iff.1 h2).1⟩
  have hs23 := x3.ext.size
  go_wp2
  go_returns
  refine ⟨g, fun k => w.heap.size ≤ k ∧ k < x3.on.heap.size ∧ k ≠ g, rfl, ?_, fun k hk => ?_, XF⟩
  · have hs2 := X2.size
    exact low_cleared (w := x2.on) (pcs := fun _ => none) (pds := fun _ => none) (sl := fun _ => emptyS) HR3.out HM.out (HS.out.ext x3.ext (fun b' o e q => hsg b' o e q)) (fun b' o e => ⟨(hsl b' o e).1, by have := (hsl b' o e).2; omega, hsg b' o e⟩) (fun h => h.2.2 rfl) (fun k h => h.2.1) (fun k h1 h2 h3 => ⟨by omega, h2, h3⟩) HC.out ⟨by omega, by omega⟩ (fun i hi => ⟨rfl, rfl⟩) (fun i hi => ⟨.inl ⟨rfl, rfl⟩, .inl ⟨rfl, rfl⟩⟩)
  · rcases hk with rfl | hk
    · exact hgl
    · exact hk.1
set_option maxRecDepth 100000 in
theorem log_View (b : Nat) (G : Nat → Prop) (g : Lo) (w : World) (h : LoW w b G g) : Calls Try.prog 41 #[.pointer (some ⟨b, 0, none⟩)] w fun e w' => e = .returned (.int .i64 g.view) ∧ w = w' := by
  obtain ⟨a, c, pt, P⟩ := h.parts
  have c2 := P.c2
  clear P h
  go_enter Try.func41, Try.ntmps41
  go_wp2
  go_ret
  exact ⟨rfl, rfl⟩
set_option maxHeartbeats 2000000 in
set_option maxRecDepth 100000 in
theorem log_Enter (b : Nat) (G : Nat → Prop) (g : Lo) (view : Int) (w : World) (h : LoW w b G g) : Calls Try.prog 48 #[.pointer (some ⟨b, 0, none⟩), .int .i64 view] w fun e w' =>
    e = .returned (.int .i64 (enterE g view)) ∧ ∃ G', LoW w' b G' (enterG g view) ∧ (∀ k, G' k → G k ∨ w.heap.size ≤ k) ∧ Ext (One b) w w' := by
  have HL := Go.Lib.hid h
  obtain ⟨a, c, pt, P⟩ := h.parts
  have HP := Go.Lib.hid P
  have c2 := P.c2
  have f2 : w.frozen? ⟨b, 2, none⟩ = false := P.fz 2
  have DE : Hid (enterE g view = if view ≤ g.view ∨ 15 < view then 13 else 0) := Go.Lib.hid rfl
  have DG : Hid (enterG g view = if enterE g view = 0 then { g with view := view, sl := fun j => clearS (g.sl j) } else g) := Go.Lib.hid rfl
  have hvw := h.vw
  clear P h
  by_cases h1 : view ≤ g.view
  · have HE : Hid (enterE g view = 13) := Go.Lib.hid (by rw [DE.out, if_pos (.inl h1)])
    go_enter Try.func48, Try.ntmps48
    go_wp2
    go_ret
    exact ⟨ret_int HE.out.symm, G, by rw [DG.out, HE.out, if_neg (by decide)]; exact HL.out, fun k hk => .inl hk, Ext.refl _ _⟩
  · by_cases h2 : 15 < view
    · have HE : Hid (enterE g view = 13) := Go.Lib.hid (by rw [DE.out, if_pos (.inr h2)])
      go_enter Try.func48, Try.ntmps48
      go_wp2
      go_ret
      exact ⟨ret_int HE.out.symm, G, by rw [DG.out, HE.out, if_neg (by decide)]; exact HL.out, fun k hk => .inl hk, Ext.refl _ _⟩
    · have HE : Hid (enterE g view = 0) := Go.Lib.hid (by rw [DE.out, if_neg (by omega)])
      have HV : Hid (0 ≤ view ∧ view ≤ 15) := Go.Lib.hid (by omega)
      have hR : RawB w b (.int .i64 g.ep) (.slice a g.mem.length c) (.int .i64 g.view) (fun i => ⟨ptV (pt i).pp, .map (some (pt i).m1), .map (some (pt i).m2), ptV (pt i).pc, ptV (pt i).pd⟩) := HP.out.h
      have HR1 : Hid (RawB (w.setCell ⟨b, 2, none⟩ (.int .i64 view)) b (.int .i64 g.ep) (.slice a g.mem.length c) (.int .i64 view) (fun i => ⟨ptV (pt i).pp, .map (some (pt i).m1), .map (some (pt i).m2), ptV (pt i).pc, ptV (pt i).pd⟩)) := Go.Lib.hid (heap_set_same (k := 2) hR (.int .i64 view))
      clear hR
      go_enter Try.func48, Try.ntmps48
      go_wp2_with fail
      refine (log_clear b _ _ _ _ _ HR1.out).mono ?_
      rintro e _ ⟨rfl, mm, hR, hM, hx⟩
      obtain ⟨x3, rfl⟩ := hx.ew
      have HR3 := Go.Lib.hid hR; have HM := Go.Lib.hid hM
      clear hR hM hx
      have X1 : Ext (One b) w (w.setCell ⟨b, 2, none⟩ (.int .i64 view)) := (Ext.refl _ _).set1 _
      have XF : Ext (One b) w x3.on := X1.trans x3.ext
      have hs1 : (w.setCell ⟨b, 2, none⟩ (.int .i64 view)).heap.size = w.heap.size := by simp [World.setCell]
      have hs3 := x3.ext.size
      have hno : ∀ k, G k → ¬ One b k := fun k hk e => by unfold One at e; subst e; exact HL.out.nb hk
      go_wp2
      go_ret
      refine ⟨ret_int HE.out.symm, fun k => G k ∨ (w.heap.size ≤ k ∧ k < x3.on.heap.size ∧ k ≠ b), ?_, fun k hk => hk.imp id (fun h => h.1), XF⟩
      rw [DG.out, HE.out, if_pos rfl]
      exact low_cleared (w := w.setCell ⟨b, 2, none⟩ (.int .i64 view)) (pcs := fun i => (pt i).pc) (pds := fun i => (pt i).pd) (sl := g.sl) HR3.out HM.out (HP.out.ints.ext XF (fun b' o e => hno _ (HP.out.ia b' o e))) (fun b' o e => .inl (HP.out.ia b' o e)) (fun h => by rcases h with h | h; exact HL.out.nb h; exact h.2.2 rfl) (fun k h => by rcases h with h | h; exact Nat.lt_of_lt_of_le (HL.out.lt k h) XF.size; exact h.2.1) (fun k h1 h2 h3 => .inr ⟨by omega, h2, h3⟩) HL.out.conf HV.out (fun i hi => ⟨rfl, rfl⟩)
        (fun i hi => ⟨(HP.out.sl i hi).cert.ext XF (fun k _ _ hk _ => hno k hk) (fun k _ _ hk _ => hno k hk) (fun k h => .inl h), (HP.out.sl i hi).done.ext XF (fun k _ _ hk _ => hno k hk) (fun k h => .inl h)⟩)
end Go.Proofs.Ytakbkpklfihfiaa
