/- Joined texts: R14h. What each proves stands at its head; no conditions beside those in its theorems. -/
import Derived.Laws.CopyOwn
import Derived.Deep.OwnRows
import Derived.Deep.RegionLaw
import Derived.Test.YtakbkpklfihfiaaPjBQ
/- The reference of layer 14: Propose. -/
namespace Go.Proofs.Ytakbkpklfihfiaa
open Go.RowKit Go.Lib F64
set_option linter.unusedSimpArgs false
set_option linter.unusedVariables false
attribute [local go_sem] run_store_float
attribute [local go_sem low] EW.cellN EW.frozN alloc_cell_or alloc_froz_or EW.cellF EW.frozF EW.cell1 EW.froz1
attribute [local go_sem] relAt relUpon relAtT relUponT
attribute [local go_sem low] EW.cellO EW.frozO
def pE14 (o : Option Req) (r : Req) : Int := match o with | some z => if sameT z r = true then 7 else 22 | none => 0
theorem nullR14_ok : ReqOk nullR := ⟨by unfold I64 nullR; simp, by unfold I64 nullR; simp, by unfold I64 nullR; simp, by unfold I64 nullR; simp, by decide, by decide⟩
set_option maxHeartbeats 8000000 in
set_option maxRecDepth 100000 in
theorem ref14_Propose (b : Nat) (G : Nat → Prop) (m : RL14) (n : Int) (hn64 : I64 n) (c s k : Int) (key : ByteArray) (x : Nat) (id : Int) (hr : ReqOk ⟨c, s, ⟨k, key, x, id⟩⟩) (hep : 0 ≤ m.ep ∧ m.ep ≤ 60) (hf : Few14 m) (hp : m.props.length ≤ 999) (w : World) (h : R14W w b G m) :
    Calls Try.prog 89 #[.pointer (some ⟨b, 0, none⟩), .int .i64 n, .agg #[.int .i64 c, .int .i64 s, .int .i64 k, .string key, .float .f64 x, .int .i64 id]] w fun e w' =>
    e = .returned (.int .i64 (proposeRE m n ⟨c, s, ⟨k, key, x, id⟩⟩)) ∧ ∃ G', R14W w' b G' (proposeR m n ⟨c, s, ⟨k, key, x, id⟩⟩) ∧ (∀ k, G' k → G k ∨ w.heap.size ≤ k) ∧ Ext (LoF b G) w w' := by
  have HH := Go.Lib.hid h
  have HF := Go.Lib.hid hf
  have HR := Go.Lib.hid hr
  have HN64 := Go.Lib.hid hn64
  have HEP := Go.Lib.hid hep
  have HP9 := Go.Lib.hid hp
  obtain ⟨S, a, cc, v1, v2, v3, v4, ka, Q⟩ := h.ex
  have HQ := Go.Lib.hid Q
  have HQG := Go.Lib.hid Q.lt
  have c0 := Q.c0
  have hbw := Q.bx.lt
  have B0 := Go.Lib.hid (Bx.newAt w [.int .i64 c, .int .i64 s, .int .i64 k, .string key, .float .f64 x, .int .i64 id] 49 _ rfl)
  have KA := Go.Lib.hid (fun w' => ref13_Asked c s k key x id w')
  have KO := Go.Lib.hid (fun w' => ref13_Of m.ep n HEP.out w')
  rw [slotB_ok] at KO
  have KP := Go.Lib.hid (fun w' (x : Ext Non w w') => ref14_Proposed b G m n w' (HH.out.extN x))
  have HOK : Hid (ReqOk ((getG m.props n).getD nullR)) := Go.Lib.hid (by
    cases hg : getG m.props n with
    | none => exact nullR14_ok
    | some y => exact Q.e1 _ (getG_mem hg))
  obtain ⟨od, hod⟩ : ∃ od, od = getG m.props n := ⟨_, rfl⟩
  rw [← hod] at KP HOK
  have HE : Hid (proposeRE m n ⟨c, s, ⟨k, key, x, id⟩⟩ = if askedB ⟨c, s, ⟨k, key, x, id⟩⟩ = true then (if slotOk m.ep n = true then pE14 od ⟨c, s, ⟨k, key, x, id⟩⟩ else 14) else 1) := Go.Lib.hid (by rw [hod]; rfl)
  have HG : Hid (proposeR m n ⟨c, s, ⟨k, key, x, id⟩⟩ = if proposeRE m n ⟨c, s, ⟨k, key, x, id⟩⟩ = 0 then lookR { m with props := m.props ++ [(n, ⟨c, s, ⟨k, key, x, id⟩⟩)] } n else m) := Go.Lib.hid rfl
  have NO : Hid (∀ w', Ext Non w w' → proposeRE m n ⟨c, s, ⟨k, key, x, id⟩⟩ ≠ 0 → ∃ G', R14W w' b G' (proposeR m n ⟨c, s, ⟨k, key, x, id⟩⟩) ∧ (∀ k, G' k → G k ∨ w.heap.size ≤ k) ∧ Ext (LoF b G) w w') := Go.Lib.hid (fun w' x e => ⟨G, by rw [HG.out, if_neg e]; exact HH.out.extN x, fun k h => .inl h, x.ofNon⟩)
  clear Q h hf hr hn64 hep hp hod
  cases ha : askedB ⟨c, s, ⟨k, key, x, id⟩⟩ with
  | false =>
    rw [ha] at HE KA
    have HE1 : Hid (proposeRE m n ⟨c, s, ⟨k, key, x, id⟩⟩ = 1) := Go.Lib.hid (by rw [HE.out]; rfl)
    go_enter Try.func89, Try.ntmps89
    go_wp2_with fail
    refine Calls.ew (KA.out _) ?_
    rintro e x1 rfl
    go_wp2
    go_ret
    exact ⟨ret_int HE1.out.symm, NO.out _ (by (repeat (first | with_reducible (first | exact Ext.refl _ _ | assumption | refine Ext.upN ?_ | refine Ext.alloc ?_ _ | refine Ext.drew ?_ | refine Ext.drewN ?_ _ | refine Ext.up1N (by first | omega | simp) ?_) | refine Ext.alloc ?_ _ | refine Ext.setCell ?_ (.inr (by first | omega | simp)) _))) (by rw [HE1.out]; decide)⟩
  | true =>
    rw [ha] at HE KA
    cases hs : slotOk m.ep n with
    | false =>
      rw [hs] at HE KO
      have HE1 : Hid (proposeRE m n ⟨c, s, ⟨k, key, x, id⟩⟩ = 14) := Go.Lib.hid (by rw [HE.out]; rfl)
      go_enter Try.func89, Try.ntmps89
      go_wp2_with fail
      refine Calls.ew (KA.out _) ?_
      rintro e x1 rfl
      go_wp2_with fail
      refine (KO.out _).mono ?_
      rintro e _ ⟨rfl, rfl⟩
      go_wp2
      go_ret
      exact ⟨ret_int HE1.out.symm, NO.out _ (by (repeat (first | with_reducible (first | exact Ext.refl _ _ | assumption | refine Ext.upN ?_ | refine Ext.alloc ?_ _ | refine Ext.drew ?_ | refine Ext.drewN ?_ _ | refine Ext.up1N (by first | omega | simp) ?_) | refine Ext.alloc ?_ _ | refine Ext.setCell ?_ (.inr (by first | omega | simp)) _))) (by rw [HE1.out]; decide)⟩
    | true =>
      rw [hs] at HE KO
      obtain ⟨o0, ho0⟩ : ∃ o0, o0 = od.getD nullR := ⟨_, rfl⟩
      have HO0 := Go.Lib.hid ho0
      unfold toldV reqV at KP
      rw [← ho0] at KP HOK
      clear ho0
      obtain ⟨oc, os, ⟨ok, okey, ox, oid⟩⟩ := o0
      simp only at KP
      have KS := Go.Lib.hid (fun w' => ref11_Same oc os ok okey ox oid c s k key x id HOK.out HR.out w')
      go_enter Try.func89, Try.ntmps89
      go_wp2_with fail
      refine Calls.ew (KA.out _) ?_
      rintro e x1 rfl
      go_wp2_with fail
      refine (KO.out _).mono ?_
      rintro e _ ⟨rfl, rfl⟩
      go_wp2_with fail
      refine Calls.ew (KP.out _ (by (repeat (first | with_reducible (first | exact Ext.refl _ _ | assumption | refine Ext.upN ?_ | refine Ext.alloc ?_ _ | refine Ext.drew ?_ | refine Ext.drewN ?_ _ | refine Ext.up1N (by first | omega | simp) ?_) | refine Ext.alloc ?_ _ | refine Ext.setCell ?_ (.inr (by first | omega | simp)) _)))) ?_
      rintro e x2 rfl
      have X2 := Go.Lib.hid (by (repeat (first | with_reducible (first | exact Ext.refl _ _ | assumption | refine Ext.upN ?_ | refine Ext.alloc ?_ _ | refine Ext.drew ?_ | refine Ext.drewN ?_ _ | refine Ext.up1N (by first | omega | simp) ?_) | refine Ext.alloc ?_ _ | refine Ext.setCell ?_ (.inr (by first | omega | simp)) _)) : Ext Non w x2.on)
      have B2 : Hid (Bx x2.on w.heap.size [.int .i64 c, .int .i64 s, .int .i64 k, .string key, .float .f64 x, .int .i64 id] 49) := Go.Lib.hid (B0.out.extN (by (repeat (first | with_reducible (first | exact Ext.refl _ _ | assumption | refine Ext.upN ?_ | refine Ext.alloc ?_ _ | refine Ext.drew ?_ | refine Ext.drewN ?_ _ | refine Ext.up1N (by first | omega | simp) ?_) | refine Ext.alloc ?_ _ | refine Ext.setCell ?_ (.inr (by first | omega | simp)) _))))
      go_upto_region 6 with (refine wpList_store_box rfl 49 _ _ rfl x2.on.heap.size _ [.int .i64 oc, .int .i64 os, .int .i64 ok, .string okey, .float .f64 ox, .int .i64 oid] _ rfl rfl (Bx.newAt _ _ _ _ rfl) rfl info_req6 (by simp [Value.oneCell']) (fun W hB => ?_); have BZ := Go.Lib.hid hB; clear hB)
      have X3 := Go.Lib.hid (X2.out.trans (by (repeat (first | with_reducible (first | exact Ext.refl _ _ | assumption | refine Ext.upN ?_ | refine Ext.alloc ?_ _ | refine Ext.drew ?_ | refine Ext.drewN ?_ _ | refine Ext.up1N (by first | omega | simp) ?_) | refine Ext.alloc ?_ _ | refine Ext.setCell ?_ (.inr (by first | omega | simp)) _)) : Ext Non x2.on W.on))
      have BR := Go.Lib.hid (B2.out.extN (by (repeat (first | with_reducible (first | exact Ext.refl _ _ | assumption | refine Ext.upN ?_ | refine Ext.alloc ?_ _ | refine Ext.drew ?_ | refine Ext.drewN ?_ _ | refine Ext.up1N (by first | omega | simp) ?_) | refine Ext.alloc ?_ _ | refine Ext.setCell ?_ (.inr (by first | omega | simp)) _)) : Ext Non x2.on W.on))
      have hkr : w.heap.size < x2.on.heap.size := B2.out.lt
      try simp only [Act.put]
      have Q3 := Go.Lib.hid (HQ.out.extN X3.out)
      obtain ⟨kr, hkr0⟩ : ∃ kr, kr = w.heap.size := ⟨_, rfl⟩
      have HKR := Go.Lib.hid hkr0
      rw [← hkr0] at BR ⊢
      clear B0 B2 X2 HQ KP KA KO hkr0 c0
      generalize x2.on.heap.size = kz at *
      generalize W.on = w3 at *
      have z0 : w3.cell? ⟨kr, 0, none⟩ = some (.int .i64 c) := BR.out.cell rfl
      have z1 : w3.cell? ⟨kr, 1, none⟩ = some (.int .i64 s) := BR.out.cell rfl
      have z2 : w3.cell? ⟨kr, 2, none⟩ = some (.int .i64 k) := BR.out.cell rfl
      have z3 : w3.cell? ⟨kr, 3, none⟩ = some (.string key) := BR.out.cell rfl
      have z4 : w3.cell? ⟨kr, 4, none⟩ = some (.float .f64 x) := BR.out.cell rfl
      have z5 : w3.cell? ⟨kr, 5, none⟩ = some (.int .i64 id) := BR.out.cell rfl
      have y0 : w3.cell? ⟨kz, 0, none⟩ = some (.int .i64 oc) := BZ.out.cell rfl
      have y1 : w3.cell? ⟨kz, 1, none⟩ = some (.int .i64 os) := BZ.out.cell rfl
      have y2 : w3.cell? ⟨kz, 2, none⟩ = some (.int .i64 ok) := BZ.out.cell rfl
      have y3 : w3.cell? ⟨kz, 3, none⟩ = some (.string okey) := BZ.out.cell rfl
      have y4 : w3.cell? ⟨kz, 4, none⟩ = some (.float .f64 ox) := BZ.out.cell rfl
      have y5 : w3.cell? ⟨kz, 5, none⟩ = some (.int .i64 oid) := BZ.out.cell rfl
      cases od with
      | some y =>
        have hy : y = ⟨oc, os, ⟨ok, okey, ox, oid⟩⟩ := HO0.out.symm
        have HE2 : Hid (proposeRE m n ⟨c, s, ⟨k, key, x, id⟩⟩ = if sameT ⟨oc, os, ⟨ok, okey, ox, oid⟩⟩ ⟨c, s, ⟨k, key, x, id⟩⟩ = true then 7 else 22) := Go.Lib.hid (by rw [HE.out, hy]; rfl)
        clear hy
        cases hst : sameT ⟨oc, os, ⟨ok, okey, ox, oid⟩⟩ ⟨c, s, ⟨k, key, x, id⟩⟩ with
        | true =>
          rw [hst] at HE2 KS
          have HE1 : Hid (proposeRE m n ⟨c, s, ⟨k, key, x, id⟩⟩ = 7) := Go.Lib.hid HE2.out
          go_wp2_with fail
          refine Calls.ew (KS.out _) ?_
          rintro e x4 rfl
          go_wp2
          go_ret
          exact ⟨ret_int HE1.out.symm, NO.out _ (X3.out.trans x4.ext) (by rw [HE1.out]; decide)⟩
        | false =>
          rw [hst] at HE2 KS
          have HE1 : Hid (proposeRE m n ⟨c, s, ⟨k, key, x, id⟩⟩ = 22) := Go.Lib.hid HE2.out
          go_wp2_with fail
          refine Calls.ew (KS.out _) ?_
          rintro e x4 rfl
          go_wp2
          go_ret
          exact ⟨ret_int HE1.out.symm, NO.out _ (X3.out.trans x4.ext) (by rw [HE1.out]; decide)⟩
      | none =>
        have HE1 : Hid (proposeRE m n ⟨c, s, ⟨k, key, x, id⟩⟩ = 0) := Go.Lib.hid HE.out
        clear KS y0 y1 y2 y3 y4 y5 BZ
        have hws : w.heap.size ≤ w3.heap.size := X3.out.size
        have y3 : w3.cell? ⟨b, 3, none⟩ = some v1 := Q3.out.c3
        have O1 := Go.Lib.hid Q3.out.o1
        obtain ⟨len1, hlen1⟩ : ∃ l, l = m.props.length := ⟨_, rfl⟩
        have HLN := Go.Lib.hid hlen1
        have hd1 : len1 ≤ 999 := by rw [hlen1]; exact HP9.out
        rw [← hlen1] at O1
        clear hlen1
        have HRV := Go.Lib.hid (own_row O1.out)
        have nb1 : Row v1 b = False := by simp only [eq_iff_iff, iff_false]; intro q; exact Q3.out.nb (Q3.out.low.1 b q)
        have nq1 : Row v1 kr = False := by simp only [eq_iff_iff, iff_false]; intro q; have := HQG.out kr (Q3.out.low.1 kr q); have := HKR.out; omega
        have nn1 : Non b = False := rfl
        have nn2 : Non kr = False := rfl
        have HR2 : Hid (∀ k, Row v1 k → k < w3.heap.size) := Go.Lib.hid (fun k q => (HRV.out k q).2)
        go_upto_region 10 with fail
        apply wp_region_wr 12 [Mo.is _, Mo.is _, Mo.is _, Mo.is _, Mo.is _, Mo.is _, Mo.is _, Mo.is _, moOne w3.heap.size [.int .i64 n, .int .i64 c, .int .i64 s, .int .i64 k, .string key, .float .f64 x, .int .i64 id] 161, moRow v1 w3.heap.size 0 161 7 (len1 + 1) (m.props.flatMap eC ++ ([.int .i64 n, .int .i64 c, .int .i64 s, .int .i64 k, .string key, .float .f64 x, .int .i64 id] : List Value)), Mo.is _, Mo.is _] (Row v1) 9 (fun w' => w'.ownsRow 0 161 7 v1 len1 (m.props.flatMap eC)) (Non) 9999 (fun _ => True) (by kernel_rfl) (by kernel_rfl) (by kernel_rfl) (by kernel_rfl) (by kernel_rfl) (by decide) (by kernel_rfl) (by decide) ?ta1 ?tb1 ?ha1 ?hb1 ?hc1 ?hd1 ?ma1 ?mb1 ?st1 ?q1
        case ta1 => exact O1.out
        case tb1 => exact trivial
        case ha1 => exact fun _ _ x h => ownR_extN h x
        case hb1 => exact fun _ _ x h => ownR_extN h x
        case hc1 => exact fun _ _ _ _ => trivial
        case hd1 => exact fun _ _ _ _ => trivial
        case st1 =>
          refine ⟨?_, ?_, ?_, ?_, ?_, ?_, ?_, ?_, ?_, ?_, ?_, ?_, trivial⟩
          · refine .inl ⟨by decide, by decide, ?_⟩
            intro a' w' hx hs hd
            obtain ⟨y, rfl⟩ := hx.ew
            have e0 : a'.tmps[0]?.getD undef = _ := hs 0 rfl
            simp only [List.getElem?_toArray, List.getElem?_cons_succ, List.getElem?_cons_zero, Option.getD_some, Array.getElem?_eq_some_iff] at e0
            refine .inl ⟨rfl, ?_⟩
            clear hs hd hx
            go_simp
            exact ⟨Ext.refl _ _, rfl⟩
          · refine .inl ⟨by decide, by decide, ?_⟩
            intro a' w' hx hs hd
            obtain ⟨y, rfl⟩ := hx.ew
            have e0 : a'.tmps[0]?.getD undef = _ := hs 0 rfl
            simp only [List.getElem?_toArray, List.getElem?_cons_succ, List.getElem?_cons_zero, Option.getD_some, Array.getElem?_eq_some_iff] at e0
            refine .inl ⟨rfl, ?_⟩
            clear hs hd hx
            go_simp
            exact ⟨Ext.refl _ _, rfl⟩
          · refine .inl ⟨by decide, by decide, ?_⟩
            intro a' w' hx hs hd
            obtain ⟨y, rfl⟩ := hx.ew
            have e34 : a'.tmps[34]?.getD undef = _ := hd 1 34 rfl rfl
            refine .inl ⟨rfl, ?_⟩
            clear hs hd hx
            go_simp
            exact ⟨Ext.refl _ _, rfl⟩
          · refine .inl ⟨by decide, by decide, ?_⟩
            intro a' w' hx hs hd
            obtain ⟨y, rfl⟩ := hx.ew
            have e35 : a'.tmps[35]?.getD undef = _ := hd 2 35 rfl rfl
            refine .inl ⟨rfl, ?_⟩
            clear hs hd hx
            go_simp
            exact ⟨Ext.refl _ _, rfl⟩
          · refine .inl ⟨by decide, by decide, ?_⟩
            intro a' w' hx hs hd
            obtain ⟨y, rfl⟩ := hx.ew
            have e36 : a'.tmps[36]?.getD undef = _ := hd 3 36 rfl rfl
            refine .inl ⟨rfl, ?_⟩
            clear hs hd hx
            go_simp
            exact ⟨Ext.refl _ _, rfl⟩
          · refine .inl ⟨by decide, by decide, ?_⟩
            intro a' w' hx hs hd
            obtain ⟨y, rfl⟩ := hx.ew
            have e1 : a'.tmps[1]?.getD undef = _ := hs 1 rfl
            simp only [List.getElem?_toArray, List.getElem?_cons_succ, List.getElem?_cons_zero, Option.getD_some, Array.getElem?_eq_some_iff] at e1
            refine .inl ⟨rfl, ?_⟩
            clear hs hd hx
            go_simp
            exact ⟨Ext.refl _ _, rfl⟩
          · refine .inl ⟨by decide, by decide, ?_⟩
            intro a' w' hx hs hd
            obtain ⟨y, rfl⟩ := hx.ew
            have e5 : a'.tmps[5]?.getD undef = _ := hs 5 rfl
            simp only [List.getElem?_toArray, List.getElem?_cons_succ, List.getElem?_cons_zero, Option.getD_some, Array.getElem?_eq_some_iff] at e5
            refine .inl ⟨rfl, ?_⟩
            clear hs hd hx
            go_simp
            exact ⟨Ext.refl _ _, rfl⟩
          · refine .inl ⟨by decide, by decide, ?_⟩
            intro a' w' hx hs hd
            obtain ⟨y, rfl⟩ := hx.ew
            have e38 : a'.tmps[38]?.getD undef = _ := hd 5 38 rfl rfl
            have e39 : a'.tmps[39]?.getD undef = _ := hd 6 39 rfl rfl
            refine .inl ⟨rfl, ?_⟩
            clear hs hd hx
            go_simp
            exact ⟨Ext.refl _ _, rfl⟩
          · refine .inl ⟨by decide, by decide, ?_⟩
            intro a' w' hx hs hd
            obtain ⟨y, rfl⟩ := hx.ew
            have e40 : a'.tmps[40]?.getD undef = _ := hd 7 40 rfl rfl
            refine .inl ⟨rfl, ?_⟩
            clear hs hd hx
            go_simp
            exact ⟨(Ext.refl _ _).alloc _, _, rfl, y.ext.size, Bx.newAt _ _ _ _ rfl⟩
          · refine .inr (.inl ⟨rfl, ?_⟩)
            intro a' w' hx hst hs hd
            obtain ⟨y, rfl⟩ := hx.ew
            have e37 : a'.tmps[37]?.getD undef = _ := hd 4 37 rfl rfl
            obtain ⟨k4, e41, hk4, hB4⟩ : ∃ kp, a'.tmps[41]?.getD undef = .slice (some ⟨kp, 0, none⟩) 1 1 ∧ w3.heap.size ≤ kp ∧ Bx y.on kp [.int .i64 n, .int .i64 c, .int .i64 s, .int .i64 k, .string key, .float .f64 x, .int .i64 id] 161 := hd 8 41 rfl rfl
            refine ⟨rfl, ?_⟩
            clear hs hd hx
            exact rel_append_row _ _ 135 rfl 0 161 7 64 _ Try.underlying135 info_entry14 (by rfl) (by omega) (by omega) v1 len1 (m.props.flatMap eC) ((eval_tmp _ _).trans e37) hst k4 _ _ ((eval_tmp _ _).trans e41) hB4 rfl (by intro u hu; simp at hu; rcases hu with rfl | rfl | rfl | rfl | rfl | rfl | rfl <;> rfl) (by omega) (by omega) (fun v' w' x o r => ⟨v', rfl, o, fun k hk => (r k hk).imp (fun z => z) (fun z => Nat.le_trans y.ext.size z)⟩)
          · refine .inl ⟨by decide, by decide, ?_⟩
            intro a' w' hx hs hd
            obtain ⟨y, rfl⟩ := hx.ew
            have e33 : a'.tmps[33]?.getD undef = _ := hd 0 33 rfl rfl
            refine .inl ⟨rfl, ?_⟩
            clear hs hd hx
            go_simp
            exact ⟨Ext.refl _ _, rfl⟩
          · refine .inl ⟨by decide, by decide, ?_⟩
            intro a' w' hx hs hd
            obtain ⟨y, rfl⟩ := hx.ew
            have e43 : a'.tmps[43]?.getD undef = _ := hd 10 43 rfl rfl
            refine .inl ⟨rfl, ?_⟩
            clear hs hd hx
            go_simp
            exact ⟨Ext.refl _ _, rfl⟩
        case ma1 => exact ⟨.inr (Mo.is_still _ _), .inr (Mo.is_still _ _), .inr (Mo.is_still _ _), .inr (Mo.is_still _ _), .inr (Mo.is_still _ _), .inr (Mo.is_still _ _), .inr (Mo.is_still _ _), .inr (Mo.is_still _ _), .inr (moOne_still HR2.out), .inl rfl, .inr (Mo.is_still _ _), .inr (Mo.is_still _ _), trivial⟩
        case mb1 => exact ⟨.inr (Mo.mono _), .inr (Mo.mono _), .inr (Mo.mono _), .inr (Mo.mono _), .inr (Mo.mono _), .inr (Mo.mono _), .inr (Mo.mono _), .inr (Mo.mono _), .inr (Mo.mono _), .inr (Mo.mono _), .inr (Mo.mono _), .inr (Mo.mono _), trivial⟩
        case' q1 =>
          intro vs w' hx hRR
          obtain ⟨x9, rfl⟩ := hx.ew
          have q0 : vs 0 = _ := hRR 0 (by decide)
          have q1 : vs 1 = _ := hRR 1 (by decide)
          have q2 : vs 2 = _ := hRR 2 (by decide)
          have q3 : vs 3 = _ := hRR 3 (by decide)
          have q4 : vs 4 = _ := hRR 4 (by decide)
          have q5 : vs 5 = _ := hRR 5 (by decide)
          have q6 : vs 6 = _ := hRR 6 (by decide)
          have q7 : vs 7 = _ := hRR 7 (by decide)
          obtain ⟨k4, q8, hk4, hB4⟩ : ∃ kp, vs 8 = .slice (some ⟨kp, 0, none⟩) 1 1 ∧ w3.heap.size ≤ kp ∧ Bx x9.on kp [.int .i64 n, .int .i64 c, .int .i64 s, .int .i64 k, .string key, .float .f64 x, .int .i64 id] 161 := hRR 8 (by decide)
          obtain ⟨u5, q9, hO5, hr5⟩ : ∃ u, vs 9 = u ∧ x9.on.ownsRow 0 161 7 u (len1 + 1) (m.props.flatMap eC ++ ([.int .i64 n, .int .i64 c, .int .i64 s, .int .i64 k, .string key, .float .f64 x, .int .i64 id] : List Value)) ∧ ∀ k, Row u k → Row v1 k ∨ w3.heap.size ≤ k := hRR 9 (by decide)
          have q10 : vs 10 = _ := hRR 10 (by decide)
          have q11 : vs 11 = _ := hRR 11 (by decide)
          clear hRR hx
          simp only [putAll, List.take_succ_cons, List.take_zero, List.drop_succ_cons, List.drop_zero, Act.put, List.setIfInBounds_toArray, List.set_cons_zero, List.set_cons_succ, Nat.reduceAdd, Nat.zero_add]
          simp only [q0, q1, q2, q3, q4, q5, q6, q7, q8, q9, q10, q11]
          clear q0 q1 q2 q3 q4 q5 q6 q7 q8 q9 q10 q11 vs
        obtain ⟨ua, uc, hus⟩ := row_slice hO5
        subst hus
        have PD := Go.Lib.hid (Q3.out.putP (p := (n, ⟨c, s, ⟨k, key, x, id⟩⟩)) (x9.ext.mono (fun k _ q => by rcases q with q | q; exact q; exact q.elim)) HR.out (by rw [← HLN.out]; exact hO5) hr5)
        have y7 : x9.on.cell? ⟨b, 3, none⟩ = some v1 := (x9.ext.cell (p := ⟨b, 3, none⟩) Q3.out.bx.lt (fun q => by rcases q with q | q; rw [nb1] at q; exact q; exact q)).trans y3
        have f7 : x9.on.frozen? ⟨b, 3, none⟩ = false := froz_of_heap (Q3.out.bx.ext x9.ext (fun q => by rcases q with q | q; rw [nb1] at q; exact q; exact q)).h
        have XF : Hid (Ext (LoF b G) w (x9.on.setCell ⟨b, 3, none⟩ (.slice ua (len1 + 1) uc))) := Go.Lib.hid ((X3.out.ofNon.step x9.ext (fun k hk q => by
          rcases q with q | q
          · exact .inr (Q3.out.low.1 k q)
          · exact q.elim)).step ((Ext.refl (One b) _).set1 _) (fun k hk q => .inl q))
        have FW : Hid (Few14 { m with props := m.props ++ [(n, ⟨c, s, ⟨k, key, x, id⟩⟩)] }) := Go.Lib.hid ⟨HF.out.mem, HF.out.votes, by have := HP9.out; simp; omega, HF.out.kept, HF.out.done, HF.out.vw⟩
        have HG5 : Hid (∀ k, GrG G w3.heap.size x9.on.heap.size k → G k ∨ w.heap.size ≤ k) := Go.Lib.hid (fun k h => by
          rcases h with h | ⟨h, _⟩
          · exact .inl h
          · exact .inr (by omega))
        have KL := Go.Lib.hid (ref14_look b _ _ n HN64.out FW.out _ ⟨_, _, _, _, _, _, _, _, PD.out⟩)
        clear PD
        generalize GrG G w3.heap.size x9.on.heap.size = G5 at *
        go_upto_region 11 with fail
        generalize x9.on.setCell ⟨b, 3, none⟩ (.slice ua (len1 + 1) uc) = w9 at *
        go_wp2_with fail
        refine (KL.out).mono ?_
        rintro e w10 ⟨rfl, G6, hL, hG6, hx6⟩
        have FIN := Go.Lib.hid (And.intro hL (And.intro hG6 hx6))
        clear hL hG6 hx6
        go_wp2
        go_ret
        exact ⟨ret_int HE1.out.symm, G6, by rw [HG.out, if_pos HE1.out]; exact FIN.out.1, fun k h => by
          rcases FIN.out.2.1 k h with h | h
          · exact HG5.out k h
          · exact .inr (Nat.le_trans XF.out.size h), XF.out.step FIN.out.2.2 (fun k hk q => by
          rcases q with q | q
          · exact .inl q
          · rcases HG5.out k q with h | h
            · exact .inr h
            · omega)⟩
end Go.Proofs.Ytakbkpklfihfiaa
