/- Joined texts: R14d. What each proves stands at its head; no conditions beside those in its theorems. -/
import Derived.Laws.CopyOwn
import Derived.Deep.OwnRows
import Derived.Deep.RegionLaw
import Derived.Test.YtakbkpklfihfiaaPjBM
/- The reference of layer 14: Prepared. -/
namespace Go.Proofs.Ytakbkpklfihfiaa
open Go.RowKit Go.Lib F64
set_option linter.unusedSimpArgs false
set_option linter.unusedVariables false
attribute [local go_sem] run_store_float
attribute [local go_sem low] EW.cellN EW.frozN alloc_cell_or alloc_froz_or EW.cellF EW.frozF EW.cell1 EW.froz1
attribute [local go_sem] relAt relUpon
/-- A slice of so many. -/
def moSl (n : Nat) : Mo := ⟨fun v _ => ∃ a c, v = .slice a n c, fun _ _ _ _ h => h⟩
/-- Bounds under which a log of the reference's is walked. -/
structure Few14 (m : RL14) : Prop where
  mem : m.mem.length ≤ 100
  votes : m.votes.length ≤ 1000
  props : m.props.length ≤ 1000
  kept : m.kept.length ≤ 1000
  done : m.done.length ≤ 1000
  vw : I64 m.view
set_option maxHeartbeats 4000000 in
set_option maxRecDepth 100000 in
theorem ref14_Prepared (b : Nat) (G : Nat → Prop) (m : RL14) (n : Int) (hf : Few14 m) (w : World) (h : R14W w b G m) : Calls Try.prog 96 #[.pointer (some ⟨b, 0, none⟩), .int .i64 n] w fun e w' => e = .returned (.bool (prepR m n)) ∧ Ext Non w w' := by
  have KP := Go.Lib.hid (fun w' (x : Ext Non w w') => ref14_Proposed b G m n w' (h.extN x))
  have KW := Go.Lib.hid (fun (r : Req) (hr : ReqOk r) w' (x : Ext Non w w') => ref14_who b G m false n r hr hf.mem hf.votes w' (h.extN x))
  have HPR : Hid (prepR m n = match getG m.props n with | none => false | some r => enoughB m.mem (whoR m.mem m.votes false n r).length) := Go.Lib.hid rfl
  obtain ⟨S, a, c, v1, v2, v3, v4, ka, Q⟩ := h.ex
  have c1 := Q.c1
  have HOK : Hid (∀ r, getG m.props n = some r → ReqOk r) := Go.Lib.hid (fun r hr => Q.e1 _ (getG_mem hr))
  have hml := hf.mem
  have hle := Q.ints.le; have hsm := Q.ints.small
  have KQ := Go.Lib.hid (fun w' => ref_Quorum (m.mem.length : Int) (by omega) (by omega) w')
  have HWL := Go.Lib.hid (fun r => whoR_len m.votes false n r m.mem)
  have hvl := hf.votes
  have HEN : Hid (∀ k, enoughB m.mem k = decide (quorumI m.mem.length ≤ (k : Int))) := Go.Lib.hid (fun k => rfl)
  clear Q h hf
  cases ho : getG m.props n with
  | none =>
    rw [ho] at KP HPR
    unfold toldV reqV at KP
    simp only [Option.getD_none, Option.isSome_none] at KP
    unfold nullR at KP
    simp only at KP
    rw [HPR.out]
    simp only
    clear HPR ho
    go_enter Try.func96, Try.ntmps96
    go_wp2_with fail
    refine Calls.ew (KP.out _ (by (repeat (first | with_reducible (first | exact Ext.refl _ _ | assumption | refine Ext.upN ?_ | refine Ext.alloc ?_ _ | refine Ext.drew ?_ | refine Ext.drewN ?_ _ | refine Ext.up1N (by first | omega | simp) ?_) | refine Ext.alloc ?_ _ | refine Ext.setCell ?_ (.inr (by first | omega | simp)) _)))) ?_
    rintro e x1 rfl
    go_upto_region 2 with (refine wpList_store_box rfl 49 _ _ rfl x1.on.heap.size _ [.int .i64 0, .int .i64 0, .int .i64 0, .string ByteArray.empty, .float .f64 0, .int .i64 0] _ rfl rfl (Bx.newAt _ _ _ _ rfl) rfl info_req6 (by simp [Value.oneCell']) (fun W hB => ?_); have BZ := Go.Lib.hid hB; clear hB)
    have XX := Go.Lib.hid ((by (repeat (first | with_reducible (first | exact Ext.refl _ _ | assumption | refine Ext.upN ?_ | refine Ext.alloc ?_ _ | refine Ext.drew ?_ | refine Ext.drewN ?_ _ | refine Ext.up1N (by first | omega | simp) ?_) | refine Ext.alloc ?_ _ | refine Ext.setCell ?_ (.inr (by first | omega | simp)) _)) : Ext Non w x1.on).trans (by (repeat (first | with_reducible (first | exact Ext.refl _ _ | assumption | refine Ext.upN ?_ | refine Ext.alloc ?_ _ | refine Ext.drew ?_ | refine Ext.drewN ?_ _ | refine Ext.up1N (by first | omega | simp) ?_) | refine Ext.alloc ?_ _ | refine Ext.setCell ?_ (.inr (by first | omega | simp)) _)) : Ext Non x1.on W.on))
    try simp only [Act.put]
    generalize W.on = w3 at *
    (refine wp_region_ext_lit (by kernel_rfl) (by kernel_rfl) ?_)
    ((try simp only [Bool.not_true, Bool.not_false, Bool.or_false, Bool.or_true, Bool.false_or, Bool.true_or, Bool.and_true, Bool.true_and, Bool.and_false, Bool.false_and]); (repeat (go_big_quiet_step (fail))))
    (refine wpQuiet_nil ?_; intro _ hw'; obtain ⟨xq, hw''⟩ := hw'; subst hw'')
    go_wp2
    go_returns
    exact ⟨rfl, XX.out.trans xq.ext⟩
  | some r =>
    have HR := Go.Lib.hid (HOK.out r ho)
    rw [ho] at KP HPR
    rw [HPR.out]
    simp only
    obtain ⟨wl, hwl⟩ : ∃ wl, wl = (whoR m.mem m.votes false n r).length := ⟨_, rfl⟩
    have hwb : wl ≤ 100000 := by
      have := HWL.out r
      have h5 : m.mem.length * m.votes.length ≤ 100 * 1000 := Nat.mul_le_mul hml hvl
      omega
    have KW1 : Hid (∀ w', Ext Non w w' → Calls Try.prog 127 #[.pointer (some ⟨b, 0, none⟩), .bool false, .int .i64 n, reqV r] w' fun e w'' => (∃ a c, e = .returned (.slice a wl c)) ∧ Ext Non w' w'') := Go.Lib.hid (fun w' x => (KW.out r HR.out w' x).mono fun e w'' ⟨v, he, ho, hx⟩ => by
      obtain ⟨a', c', hv⟩ := row_slice ho
      exact ⟨⟨a', c', by rw [he, hv, hwl]⟩, hx⟩)
    have HEQ : Hid (enoughB m.mem wl = decide (quorumI m.mem.length ≤ (wl : Int))) := Go.Lib.hid (HEN.out wl)
    rw [← hwl, HEQ.out]
    clear HPR ho hwl KW HOK HR HWL HEN
    obtain ⟨rc, rs, ⟨rk, rkey, rx, rid⟩⟩ := r
    unfold toldV reqV at KP
    unfold reqV at KW1
    simp only [Option.getD_some, Option.isSome_some] at KP KW1
    generalize m.mem.length = ml at *
    generalize quorumI (ml : Int) = qu at *
    go_enter Try.func96, Try.ntmps96
    go_wp2_with fail
    refine Calls.ew (KP.out _ (by (repeat (first | with_reducible (first | exact Ext.refl _ _ | assumption | refine Ext.upN ?_ | refine Ext.alloc ?_ _ | refine Ext.drew ?_ | refine Ext.drewN ?_ _ | refine Ext.up1N (by first | omega | simp) ?_) | refine Ext.alloc ?_ _ | refine Ext.setCell ?_ (.inr (by first | omega | simp)) _)))) ?_
    rintro e x1 rfl
    go_upto_region 2 with (refine wpList_store_box rfl 49 _ _ rfl x1.on.heap.size _ [.int .i64 rc, .int .i64 rs, .int .i64 rk, .string rkey, .float .f64 rx, .int .i64 rid] _ rfl rfl (Bx.newAt _ _ _ _ rfl) rfl info_req6 (by simp [Value.oneCell']) (fun W hB => ?_); have BZ := Go.Lib.hid hB; clear hB)
    have XX := Go.Lib.hid ((by (repeat (first | with_reducible (first | exact Ext.refl _ _ | assumption | refine Ext.upN ?_ | refine Ext.alloc ?_ _ | refine Ext.drew ?_ | refine Ext.drewN ?_ _ | refine Ext.up1N (by first | omega | simp) ?_) | refine Ext.alloc ?_ _ | refine Ext.setCell ?_ (.inr (by first | omega | simp)) _)) : Ext Non w x1.on).trans (by (repeat (first | with_reducible (first | exact Ext.refl _ _ | assumption | refine Ext.upN ?_ | refine Ext.alloc ?_ _ | refine Ext.drew ?_ | refine Ext.drewN ?_ _ | refine Ext.up1N (by first | omega | simp) ?_) | refine Ext.alloc ?_ _ | refine Ext.setCell ?_ (.inr (by first | omega | simp)) _)) : Ext Non x1.on W.on))
    try simp only [Act.put]
    have hbw : b < w.heap.size := lt_of_cell c1
    have C1 : W.on.cell? ⟨b, 0 + 1, none⟩ = some (.slice a ml c) := (XX.out.cell (p := ⟨b, 0 + 1, none⟩) hbw (fun f => f)).trans c1
    simp only [Nat.zero_add] at C1
    generalize x1.on.heap.size = kz at *
    generalize W.on = w3 at *
    have z0 : w3.cell? ⟨kz, 0, none⟩ = some (.int .i64 rc) := BZ.out.cell rfl
    have z1 : w3.cell? ⟨kz, 1, none⟩ = some (.int .i64 rs) := BZ.out.cell rfl
    have z2 : w3.cell? ⟨kz, 2, none⟩ = some (.int .i64 rk) := BZ.out.cell rfl
    have z3 : w3.cell? ⟨kz, 3, none⟩ = some (.string rkey) := BZ.out.cell rfl
    have z4 : w3.cell? ⟨kz, 4, none⟩ = some (.float .f64 rx) := BZ.out.cell rfl
    have z5 : w3.cell? ⟨kz, 5, none⟩ = some (.int .i64 rid) := BZ.out.cell rfl
    apply wp_region_rel (relR [Mo.is _, Mo.is _, Mo.is _, Mo.is _, Mo.is _, moSl wl, Mo.is _, Mo.is _, Mo.is _, Mo.is _, Mo.is _, Mo.is _, Mo.is _, Mo.is _, Mo.is _, Mo.is _, Mo.is _]) (by kernel_rfl) (by kernel_rfl) (by kernel_rfl) (relR_mono _) (StepD.all ?st1) ?q1
    case st1 =>
      refine ⟨?_, ?_, ?_, ?_, ?_, ?_, ?_, ?_, ?_, ?_, ?_, ?_, ?_, ?_, ?_, ?_, ?_, trivial⟩
      · intro a' w' hx hs hd
        obtain ⟨y, rfl⟩ := hx.ew
        have e6 : a'.tmps[6]?.getD undef = _ := hs 6 rfl
        simp only [List.getElem?_toArray, List.getElem?_cons_succ, List.getElem?_cons_zero, Option.getD_some, Array.getElem?_eq_some_iff] at e6
        refine .inl ⟨rfl, ?_⟩
        clear hs hd hx
        go_simp
        exact ⟨Ext.refl _ _, rfl⟩
      · intro a' w' hx hs hd
        obtain ⟨y, rfl⟩ := hx.ew
        have e13 : a'.tmps[13]?.getD undef = _ := hd 0 13 rfl rfl
        refine .inl ⟨rfl, ?_⟩
        clear hs hd hx
        go_simp
        exact ⟨Ext.refl _ _, rfl⟩
      · intro a' w' hx hs hd
        obtain ⟨y, rfl⟩ := hx.ew
        have eg : a'.tmps[14]?.getD undef = _ := hd 1 14 rfl rfl
        first
        | (refine .inr ⟨unwanted_of (j := 1) (d := 14) rfl rfl eg (by rfl), ?_⟩; exact (rfl : (Mo.is undef).p undef y.on))
        | (refine .inr ⟨unwanted_und (j := 1) (d := 14) rfl rfl eg, ?_⟩; exact (rfl : (Mo.is undef).p undef y.on))
        | (have e0 : a'.tmps[0]?.getD undef = _ := hs 0 rfl; simp only [List.getElem?_toArray, List.getElem?_cons_succ, List.getElem?_cons_zero, Option.getD_some, Array.getElem?_eq_some_iff] at e0; refine .inl ⟨wanted_of (j := 1) (d := 14) rfl rfl eg, ?_⟩; clear hs hd hx eg; go_simp; exact ⟨Ext.refl _ _, rfl⟩)
      · intro a' w' hx hs hd
        obtain ⟨y, rfl⟩ := hx.ew
        have eg : a'.tmps[14]?.getD undef = _ := hd 1 14 rfl rfl
        first
        | (refine .inr ⟨unwanted_of (j := 1) (d := 14) rfl rfl eg (by rfl), ?_⟩; exact (rfl : (Mo.is undef).p undef y.on))
        | (refine .inr ⟨unwanted_und (j := 1) (d := 14) rfl rfl eg, ?_⟩; exact (rfl : (Mo.is undef).p undef y.on))
        | (have e1 : a'.tmps[1]?.getD undef = _ := hs 1 rfl; simp only [List.getElem?_toArray, List.getElem?_cons_succ, List.getElem?_cons_zero, Option.getD_some, Array.getElem?_eq_some_iff] at e1; refine .inl ⟨wanted_of (j := 1) (d := 14) rfl rfl eg, ?_⟩; clear hs hd hx eg; go_simp; exact ⟨Ext.refl _ _, rfl⟩)
      · intro a' w' hx hs hd
        obtain ⟨y, rfl⟩ := hx.ew
        have eg : a'.tmps[14]?.getD undef = _ := hd 1 14 rfl rfl
        first
        | (refine .inr ⟨unwanted_of (j := 1) (d := 14) rfl rfl eg (by rfl), ?_⟩; exact (rfl : (Mo.is undef).p undef y.on))
        | (refine .inr ⟨unwanted_und (j := 1) (d := 14) rfl rfl eg, ?_⟩; exact (rfl : (Mo.is undef).p undef y.on))
        | (have e5 : a'.tmps[5]?.getD undef = _ := hs 5 rfl; simp only [List.getElem?_toArray, List.getElem?_cons_succ, List.getElem?_cons_zero, Option.getD_some, Array.getElem?_eq_some_iff] at e5; refine .inl ⟨wanted_of (j := 1) (d := 14) rfl rfl eg, ?_⟩; clear hs hd hx eg; go_simp; exact ⟨Ext.refl _ _, rfl⟩)
      · intro a' w' hx hs hd
        obtain ⟨y, rfl⟩ := hx.ew
        have eg : a'.tmps[14]?.getD undef = _ := hd 1 14 rfl rfl
        first
        | (refine .inr ⟨unwanted_of (j := 1) (d := 14) rfl rfl eg (by rfl), ?_⟩; exact (rfl : (Mo.is undef).p undef y.on))
        | (refine .inr ⟨unwanted_und (j := 1) (d := 14) rfl rfl eg, ?_⟩; exact (rfl : (Mo.is undef).p undef y.on))
        | (have e15 : a'.tmps[15]?.getD undef = _ := hd 2 15 rfl rfl; have e16 : a'.tmps[16]?.getD undef = _ := hd 3 16 rfl rfl; have e17 : a'.tmps[17]?.getD undef = _ := hd 4 17 rfl rfl; refine .inl ⟨wanted_of (j := 1) (d := 14) rfl rfl eg, ?_⟩; clear hs hd hx eg; go_simp; exact (KW1.out _ (XX.out.trans (by (repeat (first | with_reducible (first | exact Ext.refl _ _ | assumption | refine Ext.upN ?_ | refine Ext.alloc ?_ _ | refine Ext.drew ?_ | refine Ext.drewN ?_ _ | refine Ext.up1N (by first | omega | simp) ?_) | refine Ext.alloc ?_ _ | refine Ext.setCell ?_ (.inr (by first | omega | simp)) _))))).mono (fun e w'' ⟨⟨a', c', he⟩, hx⟩ => ⟨_, he, hx, a', c', rfl⟩))
      · intro a' w' hx hs hd
        obtain ⟨y, rfl⟩ := hx.ew
        have eg : a'.tmps[14]?.getD undef = _ := hd 1 14 rfl rfl
        first
        | (refine .inr ⟨unwanted_of (j := 1) (d := 14) rfl rfl eg (by rfl), ?_⟩; exact (rfl : (Mo.is undef).p undef y.on))
        | (refine .inr ⟨unwanted_und (j := 1) (d := 14) rfl rfl eg, ?_⟩; exact (rfl : (Mo.is undef).p undef y.on))
        | (obtain ⟨a5, c5, e18⟩ : ∃ a c, a'.tmps[18]?.getD undef = .slice a wl c := hd 5 18 rfl rfl; refine .inl ⟨wanted_of (j := 1) (d := 14) rfl rfl eg, ?_⟩; clear hs hd hx eg; go_simp; exact ⟨Ext.refl _ _, rfl⟩)
      · intro a' w' hx hs hd
        obtain ⟨y, rfl⟩ := hx.ew
        have eg : a'.tmps[14]?.getD undef = _ := hd 1 14 rfl rfl
        first
        | (refine .inr ⟨unwanted_of (j := 1) (d := 14) rfl rfl eg (by rfl), ?_⟩; exact (rfl : (Mo.is undef).p undef y.on))
        | (refine .inr ⟨unwanted_und (j := 1) (d := 14) rfl rfl eg, ?_⟩; exact (rfl : (Mo.is undef).p undef y.on))
        | (have e0 : a'.tmps[0]?.getD undef = _ := hs 0 rfl; simp only [List.getElem?_toArray, List.getElem?_cons_succ, List.getElem?_cons_zero, Option.getD_some, Array.getElem?_eq_some_iff] at e0; refine .inl ⟨wanted_of (j := 1) (d := 14) rfl rfl eg, ?_⟩; clear hs hd hx eg; go_simp; exact ⟨Ext.refl _ _, rfl⟩)
      · intro a' w' hx hs hd
        obtain ⟨y, rfl⟩ := hx.ew
        have eg : a'.tmps[14]?.getD undef = _ := hd 1 14 rfl rfl
        first
        | (refine .inr ⟨unwanted_of (j := 1) (d := 14) rfl rfl eg (by rfl), ?_⟩; exact (rfl : (Mo.is undef).p undef y.on))
        | (refine .inr ⟨unwanted_und (j := 1) (d := 14) rfl rfl eg, ?_⟩; exact (rfl : (Mo.is undef).p undef y.on))
        | (have e20 : a'.tmps[20]?.getD undef = _ := hd 7 20 rfl rfl; refine .inl ⟨wanted_of (j := 1) (d := 14) rfl rfl eg, ?_⟩; clear hs hd hx eg; go_simp; exact ⟨Ext.refl _ _, rfl⟩)
      · intro a' w' hx hs hd
        obtain ⟨y, rfl⟩ := hx.ew
        have eg : a'.tmps[14]?.getD undef = _ := hd 1 14 rfl rfl
        first
        | (refine .inr ⟨unwanted_of (j := 1) (d := 14) rfl rfl eg (by rfl), ?_⟩; exact (rfl : (Mo.is undef).p undef y.on))
        | (refine .inr ⟨unwanted_und (j := 1) (d := 14) rfl rfl eg, ?_⟩; exact (rfl : (Mo.is undef).p undef y.on))
        | (have e21 : a'.tmps[21]?.getD undef = _ := hd 8 21 rfl rfl; refine .inl ⟨wanted_of (j := 1) (d := 14) rfl rfl eg, ?_⟩; clear hs hd hx eg; go_simp; exact ⟨Ext.refl _ _, rfl⟩)
      · intro a' w' hx hs hd
        obtain ⟨y, rfl⟩ := hx.ew
        have eg : a'.tmps[14]?.getD undef = _ := hd 1 14 rfl rfl
        first
        | (refine .inr ⟨unwanted_of (j := 1) (d := 14) rfl rfl eg (by rfl), ?_⟩; exact (rfl : (Mo.is undef).p undef y.on))
        | (refine .inr ⟨unwanted_und (j := 1) (d := 14) rfl rfl eg, ?_⟩; exact (rfl : (Mo.is undef).p undef y.on))
        | (have e22 : a'.tmps[22]?.getD undef = _ := hd 9 22 rfl rfl; refine .inl ⟨wanted_of (j := 1) (d := 14) rfl rfl eg, ?_⟩; clear hs hd hx eg; go_simp; exact ⟨Ext.refl _ _, rfl⟩)
      · intro a' w' hx hs hd
        obtain ⟨y, rfl⟩ := hx.ew
        have eg : a'.tmps[14]?.getD undef = _ := hd 1 14 rfl rfl
        first
        | (refine .inr ⟨unwanted_of (j := 1) (d := 14) rfl rfl eg (by rfl), ?_⟩; exact (rfl : (Mo.is undef).p undef y.on))
        | (refine .inr ⟨unwanted_und (j := 1) (d := 14) rfl rfl eg, ?_⟩; exact (rfl : (Mo.is undef).p undef y.on))
        | (have e23 : a'.tmps[23]?.getD undef = _ := hd 10 23 rfl rfl; refine .inl ⟨wanted_of (j := 1) (d := 14) rfl rfl eg, ?_⟩; clear hs hd hx eg; go_simp; exact ⟨Ext.refl _ _, rfl⟩)
      · intro a' w' hx hs hd
        obtain ⟨y, rfl⟩ := hx.ew
        have eg : a'.tmps[14]?.getD undef = _ := hd 1 14 rfl rfl
        first
        | (refine .inr ⟨unwanted_of (j := 1) (d := 14) rfl rfl eg (by rfl), ?_⟩; exact (rfl : (Mo.is undef).p undef y.on))
        | (refine .inr ⟨unwanted_und (j := 1) (d := 14) rfl rfl eg, ?_⟩; exact (rfl : (Mo.is undef).p undef y.on))
        | (have e24 : a'.tmps[24]?.getD undef = _ := hd 11 24 rfl rfl; refine .inl ⟨wanted_of (j := 1) (d := 14) rfl rfl eg, ?_⟩; clear hs hd hx eg; go_simp; exact ⟨Ext.refl _ _, rfl⟩)
      · intro a' w' hx hs hd
        obtain ⟨y, rfl⟩ := hx.ew
        have eg : a'.tmps[14]?.getD undef = _ := hd 1 14 rfl rfl
        first
        | (refine .inr ⟨unwanted_of (j := 1) (d := 14) rfl rfl eg (by rfl), ?_⟩; exact (rfl : (Mo.is undef).p undef y.on))
        | (refine .inr ⟨unwanted_und (j := 1) (d := 14) rfl rfl eg, ?_⟩; exact (rfl : (Mo.is undef).p undef y.on))
        | (have e25 : a'.tmps[25]?.getD undef = _ := hd 12 25 rfl rfl; refine .inl ⟨wanted_of (j := 1) (d := 14) rfl rfl eg, ?_⟩; clear hs hd hx eg; go_simp; exact (KQ.out _).mono (fun e w'' ⟨he, hx⟩ => ⟨_, he, by rw [hx]; exact Ext.refl _ _, rfl⟩))
      · intro a' w' hx hs hd
        obtain ⟨y, rfl⟩ := hx.ew
        have eg : a'.tmps[14]?.getD undef = _ := hd 1 14 rfl rfl
        first
        | (refine .inr ⟨unwanted_of (j := 1) (d := 14) rfl rfl eg (by rfl), ?_⟩; exact (rfl : (Mo.is undef).p undef y.on))
        | (refine .inr ⟨unwanted_und (j := 1) (d := 14) rfl rfl eg, ?_⟩; exact (rfl : (Mo.is undef).p undef y.on))
        | (have e19 : a'.tmps[19]?.getD undef = _ := hd 6 19 rfl rfl; have e26 : a'.tmps[26]?.getD undef = _ := hd 13 26 rfl rfl; refine .inl ⟨wanted_of (j := 1) (d := 14) rfl rfl eg, ?_⟩; clear hs hd hx eg; go_simp; exact ⟨Ext.refl _ _, rfl⟩)
      · intro a' w' hx hs hd
        obtain ⟨y, rfl⟩ := hx.ew
        have e14 : a'.tmps[14]?.getD undef = _ := hd 1 14 rfl rfl
        have e27 : a'.tmps[27]?.getD undef = _ := hd 14 27 rfl rfl
        refine .inl ⟨rfl, ?_⟩
        clear hs hd hx
        go_simp
        exact ⟨Ext.refl _ _, rfl⟩
      · intro a' w' hx hs hd
        obtain ⟨y, rfl⟩ := hx.ew
        have e28 : a'.tmps[28]?.getD undef = _ := hd 15 28 rfl rfl
        refine .inl ⟨rfl, ?_⟩
        clear hs hd hx
        go_simp
        exact ⟨Ext.refl _ _, rfl⟩
    case' q1 =>
      intro vs w' hx hRR
      obtain ⟨x5, rfl⟩ := hx.ew
      have q0 : vs 0 = _ := hRR 0 (by decide)
      have q1 : vs 1 = _ := hRR 1 (by decide)
      have q2 : vs 2 = _ := hRR 2 (by decide)
      have q3 : vs 3 = _ := hRR 3 (by decide)
      have q4 : vs 4 = _ := hRR 4 (by decide)
      obtain ⟨a5, c5, q5⟩ : ∃ a c, vs 5 = .slice a wl c := hRR 5 (by decide)
      have q6 : vs 6 = _ := hRR 6 (by decide)
      have q7 : vs 7 = _ := hRR 7 (by decide)
      have q8 : vs 8 = _ := hRR 8 (by decide)
      have q9 : vs 9 = _ := hRR 9 (by decide)
      have q10 : vs 10 = _ := hRR 10 (by decide)
      have q11 : vs 11 = _ := hRR 11 (by decide)
      have q12 : vs 12 = _ := hRR 12 (by decide)
      have q13 : vs 13 = _ := hRR 13 (by decide)
      have q14 : vs 14 = _ := hRR 14 (by decide)
      have q15 : vs 15 = _ := hRR 15 (by decide)
      have q16 : vs 16 = _ := hRR 16 (by decide)
      clear hRR hx
      simp only [putAll, List.take_succ_cons, List.take_zero, List.drop_succ_cons, List.drop_zero, Act.put, List.setIfInBounds_toArray, List.set_cons_zero, List.set_cons_succ, Nat.reduceAdd, Nat.zero_add]
      simp only [q0, q1, q2, q3, q4, q5, q6, q7, q8, q9, q10, q11, q12, q13, q14, q15, q16]
      clear q0 q1 q2 q3 q4 q5 q6 q7 q8 q9 q10 q11 q12 q13 q14 q15 q16 vs
    go_wp2
    go_returns
    exact ⟨rfl, XX.out.trans x5.ext⟩
end Go.Proofs.Ytakbkpklfihfiaa
