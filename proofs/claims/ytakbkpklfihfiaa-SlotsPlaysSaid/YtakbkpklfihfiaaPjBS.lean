/- Joined texts: R14i. What each proves stands at its head; no conditions beside those in its theorems. -/
import Derived.Laws.CopyOwn
import Derived.Deep.OwnRows
import Derived.Deep.RegionLaw
import Derived.Test.YtakbkpklfihfiaaPjBR
/- The reference of layer 14: vote. -/
namespace Go.Proofs.Ytakbkpklfihfiaa
open Go.RowKit Go.Lib F64
set_option linter.unusedSimpArgs false
set_option linter.unusedVariables false
attribute [local go_sem] run_store_float
attribute [local go_sem low] EW.cellN EW.frozN alloc_cell_or alloc_froz_or EW.cellF EW.frozF EW.cell1 EW.froz1
attribute [local go_sem] relAt relUpon relAtT relUponT
attribute [local go_sem low] EW.cellO EW.frozO
def votT (cm : Bool) (f n : Int) (v : RV) : Bool := (v.cm == cm) && (v.slot == n) && (v.frm == f)
theorem voted_succ (votes : List RV) (cm : Bool) (f n : Int) {i : Nat} (h : i < votes.length) : votedR (votes.take (i + 1)) cm f n = (votedR (votes.take i) cm f n || votT cm f n votes[i]) := by
  unfold votedR votT
  rw [List.take_succ_eq_append_getElem h, List.any_append]
  simp
theorem voted_hit (votes : List RV) (cm : Bool) (f n : Int) {i : Nat} (h : i < votes.length) (ht : votT cm f n votes[i] = true) : votedR votes cm f n = true := by
  unfold votedR
  rw [List.any_eq_true]
  exact ⟨votes[i], List.getElem_mem h, ht⟩
set_option maxHeartbeats 8000000 in
set_option maxRecDepth 100000 in
theorem ref14_vote (b : Nat) (G : Nat → Prop) (m : RL14) (ncm : Bool) (nf ns : Int) (hn64 : I64 ns) (c s k : Int) (key : ByteArray) (x : Nat) (id nby : Int) (ntx : ByteArray) (hv : (⟨⟨c, s, ⟨k, key, x, id⟩⟩, nby, ntx⟩ : Vt).ok) (hf : Few14 m) (hp : m.votes.length ≤ 999) (w : World) (h : R14W w b G m) :
    Calls Try.prog 125 #[.pointer (some ⟨b, 0, none⟩), .agg #[.bool ncm, .int .i64 nf, .int .i64 ns, .int .i64 c, .int .i64 s, .int .i64 k, .string key, .float .f64 x, .int .i64 id, .int .i64 nby, .string ntx]] w fun e w' =>
    e = .returned (.int .i64 (voteE m ⟨ncm, nf, ns, ⟨⟨c, s, ⟨k, key, x, id⟩⟩, nby, ntx⟩⟩)) ∧ ∃ G', R14W w' b G' (voteG m ⟨ncm, nf, ns, ⟨⟨c, s, ⟨k, key, x, id⟩⟩, nby, ntx⟩⟩) ∧ (∀ k, G' k → G k ∨ w.heap.size ≤ k) ∧ Ext (LoF b G) w w' := by
  have HH := Go.Lib.hid h
  have HF := Go.Lib.hid hf
  have HVK := Go.Lib.hid hv
  have HN64 := Go.Lib.hid hn64
  have HP9 := Go.Lib.hid hp
  obtain ⟨S, a, cc, v1, v2, v3, v4, ka, Q⟩ := h.ex
  obtain ⟨vec_a, vec_c, hv2, hVS⟩ := vots_of Q.o2
  subst hv2
  have HQ := Go.Lib.hid Q
  have HVS := Go.Lib.hid hVS
  have HQG := Go.Lib.hid Q.lt
  have hbw := Q.bx.lt
  have hle := hVS.1; have hsm := hVS.2.1
  obtain ⟨N, hN⟩ : ∃ N, N = m.votes.length := ⟨_, rfl⟩
  have HN := Go.Lib.hid hN
  have c4 := Q.c4
  rw [← hN] at hle hp c4
  have DE : Hid (voteE m ⟨ncm, nf, ns, ⟨⟨c, s, ⟨k, key, x, id⟩⟩, nby, ntx⟩⟩ = if votedR m.votes ncm nf ns = true then 7 else 0) := Go.Lib.hid rfl
  have DG : Hid (voteG m ⟨ncm, nf, ns, ⟨⟨c, s, ⟨k, key, x, id⟩⟩, nby, ntx⟩⟩ = if voteE m ⟨ncm, nf, ns, ⟨⟨c, s, ⟨k, key, x, id⟩⟩, nby, ntx⟩⟩ = 0 then voteR m ⟨ncm, nf, ns, ⟨⟨c, s, ⟨k, key, x, id⟩⟩, nby, ntx⟩⟩ else m) := Go.Lib.hid rfl
  have DR : Hid (voteR m ⟨ncm, nf, ns, ⟨⟨c, s, ⟨k, key, x, id⟩⟩, nby, ntx⟩⟩ = lookR { m with votes := m.votes ++ [⟨ncm, nf, ns, ⟨⟨c, s, ⟨k, key, x, id⟩⟩, nby, ntx⟩⟩] } ns) := Go.Lib.hid rfl
  have NO : Hid (∀ w', Ext Non w w' → voteE m ⟨ncm, nf, ns, ⟨⟨c, s, ⟨k, key, x, id⟩⟩, nby, ntx⟩⟩ ≠ 0 → ∃ G', R14W w' b G' (voteG m ⟨ncm, nf, ns, ⟨⟨c, s, ⟨k, key, x, id⟩⟩, nby, ntx⟩⟩) ∧ (∀ k, G' k → G k ∨ w.heap.size ≤ k) ∧ Ext (LoF b G) w w') := Go.Lib.hid (fun w' x e => ⟨G, by rw [DG.out, if_neg e]; exact HH.out.extN x, fun k h => .inl h, x.ofNon⟩)
  clear Q h hf hv hn64 hN hVS
  go_enter Try.func125, Try.ntmps125
  go_wp2_with fail
  have XW : Hid (Ext Non w (w.alloc (.cells #[.bool ncm, .int .i64 nf, .int .i64 ns, .int .i64 c, .int .i64 s, .int .i64 k, .string key, .float .f64 x, .int .i64 id, .int .i64 nby, .string ntx] 164))) := Go.Lib.hid ((Ext.refl _ _).alloc _)
  have BR : Hid (Bx (w.alloc (.cells #[.bool ncm, .int .i64 nf, .int .i64 ns, .int .i64 c, .int .i64 s, .int .i64 k, .string key, .float .f64 x, .int .i64 id, .int .i64 nby, .string ntx] 164)) w.heap.size [.bool ncm, .int .i64 nf, .int .i64 ns, .int .i64 c, .int .i64 s, .int .i64 k, .string key, .float .f64 x, .int .i64 id, .int .i64 nby, .string ntx] 164) := Go.Lib.hid (Bx.newAt w _ _ _ rfl)
  obtain ⟨kr, hkr0⟩ : ∃ kr, kr = w.heap.size := ⟨_, rfl⟩
  have HKR := Go.Lib.hid hkr0
  rw [← hkr0] at BR ⊢
  have hws : w.heap.size ≤ (w.alloc (.cells #[.bool ncm, .int .i64 nf, .int .i64 ns, .int .i64 c, .int .i64 s, .int .i64 k, .string key, .float .f64 x, .int .i64 id, .int .i64 nby, .string ntx] 164)).heap.size := XW.out.size
  generalize w.alloc (.cells #[.bool ncm, .int .i64 nf, .int .i64 ns, .int .i64 c, .int .i64 s, .int .i64 k, .string key, .float .f64 x, .int .i64 id, .int .i64 nby, .string ntx] 164) = w1 at *
  have Q1 := Go.Lib.hid (HQ.out.extN XW.out)
  have HVS1 := Go.Lib.hid (HVS.out.extN XW.out)
  have q4 : w1.cell? ⟨b, 4, none⟩ = some (.slice vec_a N vec_c) := by have := Q1.out.c4; rw [← HN.out] at this; exact this
  clear c4 HQ HVS hkr0
  have z0 : w1.cell? ⟨kr, 0, none⟩ = some (.bool ncm) := BR.out.cell rfl
  have z1 : w1.cell? ⟨kr, 1, none⟩ = some (.int .i64 nf) := BR.out.cell rfl
  have z2 : w1.cell? ⟨kr, 2, none⟩ = some (.int .i64 ns) := BR.out.cell rfl
  have z3 : w1.cell? ⟨kr, 3, none⟩ = some (.int .i64 c) := BR.out.cell rfl
  have z4 : w1.cell? ⟨kr, 4, none⟩ = some (.int .i64 s) := BR.out.cell rfl
  have z5 : w1.cell? ⟨kr, 5, none⟩ = some (.int .i64 k) := BR.out.cell rfl
  have z6 : w1.cell? ⟨kr, 6, none⟩ = some (.string key) := BR.out.cell rfl
  have z7 : w1.cell? ⟨kr, 7, none⟩ = some (.float .f64 x) := BR.out.cell rfl
  have z8 : w1.cell? ⟨kr, 8, none⟩ = some (.int .i64 id) := BR.out.cell rfl
  have z9 : w1.cell? ⟨kr, 9, none⟩ = some (.int .i64 nby) := BR.out.cell rfl
  have z10 : w1.cell? ⟨kr, 10, none⟩ = some (.string ntx) := BR.out.cell rfl
  have hkr1 : kr < w1.heap.size := BR.out.lt
  have hb1 : b < w1.heap.size := by omega
  go_loopg [5] N (fun k iv wr => ∃ (i : Nat) (z : EW Non w1), i ≤ N ∧ k = N - i ∧ iv = .int .i64 i ∧ wr = z.on ∧ Hid (votedR (m.votes.take i) ncm nf ns = false))
  case atStart => exact ⟨0, ⟨_, Ext.refl _ _⟩, Nat.zero_le _, rfl, rfl, rfl, Go.Lib.hid (by simp [votedR])⟩
  case round =>
    obtain ⟨i, z, hi, hk, rfl, rfl, HV0⟩ := hrel
    have HGk := Go.Lib.hid hk; clear hk
    by_cases hlt : i < N
    · have hil : i < m.votes.length := by rw [← HN.out]; exact hlt
      obtain ⟨g, hga, hg, hc⟩ := HVS1.out.2.2 i hil
      subst hga
      have SU := Go.Lib.hid (voted_succ m.votes ncm nf ns hil)
      have HIT := Go.Lib.hid (voted_hit m.votes ncm nf ns hil)
      generalize m.votes[i] = v at *
      obtain ⟨vcm, vf, vs, ⟨⟨qc, qs, ⟨qk, qkey, qx, qid⟩⟩, vby, vtx⟩⟩ := v
      have TT : Hid (votT ncm nf ns ⟨vcm, vf, vs, ⟨⟨qc, qs, ⟨qk, qkey, qx, qid⟩⟩, vby, vtx⟩⟩ = ((vcm == ncm) && (vs == ns) && (vf == nf))) := Go.Lib.hid rfl
      rw [TT.out] at SU HIT
      have p0 : w1.cell? ⟨g, 0 + i * 11, none⟩ = some (.bool vcm) := hc 0 _ rfl
      have p1 : w1.cell? ⟨g, 0 + i * 11 + 1, none⟩ = some (.int .i64 vf) := hc 1 _ rfl
      have p2 : w1.cell? ⟨g, 0 + i * 11 + 2, none⟩ = some (.int .i64 vs) := hc 2 _ rfl
      clear hc
      simp only [Nat.zero_add] at p0 p1 p2
      clear TT
      go_upto_region 4 with fail
      by_cases x1 : vcm = ncm
      case neg =>
        have d1 : (vcm == ncm) = false := by simpa using x1
        have DD : ((vcm == ncm) && (vs == ns) && (vf == nf)) = false := by rw [d1]; rfl
        have DDH := Go.Lib.hid DD
        clear x1 DD
        (refine wp_region_ext_lit (by kernel_rfl) (by kernel_rfl) ?_)
        ((try simp only [Bool.not_true, Bool.not_false, Bool.or_false, Bool.or_true, Bool.false_or, Bool.true_or, Bool.and_true, Bool.true_and, Bool.and_false, Bool.false_and]); (repeat (go_big_quiet_step (fail))))
        (refine wpQuiet_nil ?_; intro _ hw'; obtain ⟨xq, hw''⟩ := hw'; subst hw'')
        go_wp2_with fail
        go_roundg (N - (i + 1))
        case measure => have := HGk.out; omega
        case rel => exact ⟨i + 1, ⟨_, z.ext.trans xq.ext⟩, hlt, rfl, by go_num, rfl, Go.Lib.hid (by rw [SU.out, HV0.out]; rw [DDH.out]; rfl)⟩
      have d1 : (vcm == ncm) = true := by simpa using x1
      clear x1
      by_cases x2 : vs = ns
      case neg =>
        have d2 : (vs == ns) = false := by simpa using x2
        have DDH := Go.Lib.hid (show ((vcm == ncm) && (vs == ns) && (vf == nf)) = false by rw [d1, d2]; rfl)
        clear x2
        (refine wp_region_ext_lit (by kernel_rfl) (by kernel_rfl) ?_)
        ((try simp only [Bool.not_true, Bool.not_false, Bool.or_false, Bool.or_true, Bool.false_or, Bool.true_or, Bool.and_true, Bool.true_and, Bool.and_false, Bool.false_and]); (repeat (go_big_quiet_step (fail))))
        (refine wpQuiet_nil ?_; intro _ hw'; obtain ⟨xq, hw''⟩ := hw'; subst hw'')
        go_wp2_with fail
        go_roundg (N - (i + 1))
        case measure => have := HGk.out; omega
        case rel => exact ⟨i + 1, ⟨_, z.ext.trans xq.ext⟩, hlt, rfl, by go_num, rfl, Go.Lib.hid (by rw [SU.out, HV0.out]; rw [DDH.out]; rfl)⟩
      have d2 : (vs == ns) = true := by simpa using x2
      clear x2
      by_cases x3 : vf = nf
      case neg =>
        have d3 : (vf == nf) = false := by simpa using x3
        have DDH := Go.Lib.hid (show ((vcm == ncm) && (vs == ns) && (vf == nf)) = false by rw [d1, d2, d3]; rfl)
        clear x3
        (refine wp_region_ext_lit (by kernel_rfl) (by kernel_rfl) ?_)
        ((try simp only [Bool.not_true, Bool.not_false, Bool.or_false, Bool.or_true, Bool.false_or, Bool.true_or, Bool.and_true, Bool.true_and, Bool.and_false, Bool.false_and]); (repeat (go_big_quiet_step (fail))))
        (refine wpQuiet_nil ?_; intro _ hw'; obtain ⟨xq, hw''⟩ := hw'; subst hw'')
        go_wp2_with fail
        go_roundg (N - (i + 1))
        case measure => have := HGk.out; omega
        case rel => exact ⟨i + 1, ⟨_, z.ext.trans xq.ext⟩, hlt, rfl, by go_num, rfl, Go.Lib.hid (by rw [SU.out, HV0.out]; rw [DDH.out]; rfl)⟩
      have d3 : (vf == nf) = true := by simpa using x3
      clear x3
      have DV : Hid (votedR m.votes ncm nf ns = true) := Go.Lib.hid (HIT.out (by rw [d1, d2, d3]; rfl))
      have HE1 : Hid (voteE m ⟨ncm, nf, ns, ⟨⟨c, s, ⟨k, key, x, id⟩⟩, nby, ntx⟩⟩ = 7) := Go.Lib.hid (by rw [DE.out, DV.out]; rfl)
      (refine wp_region_ext_lit (by kernel_rfl) (by kernel_rfl) ?_)
      ((try simp only [Bool.not_true, Bool.not_false, Bool.or_false, Bool.or_true, Bool.false_or, Bool.true_or, Bool.and_true, Bool.true_and, Bool.and_false, Bool.false_and]); (repeat (go_big_quiet_step (fail))))
      (refine wpQuiet_nil ?_; intro _ hw'; obtain ⟨xq, hw''⟩ := hw'; subst hw'')
      go_wp2
      go_ret
      exact ⟨ret_int HE1.out.symm, NO.out _ (XW.out.trans (z.ext.trans xq.ext)) (by rw [HE1.out]; decide)⟩
    · obtain rfl : i = N := by omega
      have HE1 : Hid (voteE m ⟨ncm, nf, ns, ⟨⟨c, s, ⟨k, key, x, id⟩⟩, nby, ntx⟩⟩ = 0) := Go.Lib.hid (by
        have h1 := HV0.out
        rw [HN.out, List.take_length] at h1
        rw [DE.out, h1]; rfl)
      have X3 := Go.Lib.hid (XW.out.trans z.ext)
      have Q3 := Go.Lib.hid (Q1.out.extN z.ext)
      have BR3 := Go.Lib.hid (BR.out.extN z.ext)
      have hzs : w1.heap.size ≤ z.on.heap.size := z.ext.size
      clear Q1 BR z0 z1 z2 z3 z4 z5 z6 z7 z8 z9 z10 HVS1 HV0 q4
      generalize z.on = w3 at *
      clear z
      have z0 : w3.cell? ⟨kr, 0, none⟩ = some (.bool ncm) := BR3.out.cell rfl
      have z1 : w3.cell? ⟨kr, 1, none⟩ = some (.int .i64 nf) := BR3.out.cell rfl
      have z2 : w3.cell? ⟨kr, 2, none⟩ = some (.int .i64 ns) := BR3.out.cell rfl
      have z3 : w3.cell? ⟨kr, 3, none⟩ = some (.int .i64 c) := BR3.out.cell rfl
      have z4 : w3.cell? ⟨kr, 4, none⟩ = some (.int .i64 s) := BR3.out.cell rfl
      have z5 : w3.cell? ⟨kr, 5, none⟩ = some (.int .i64 k) := BR3.out.cell rfl
      have z6 : w3.cell? ⟨kr, 6, none⟩ = some (.string key) := BR3.out.cell rfl
      have z7 : w3.cell? ⟨kr, 7, none⟩ = some (.float .f64 x) := BR3.out.cell rfl
      have z8 : w3.cell? ⟨kr, 8, none⟩ = some (.int .i64 id) := BR3.out.cell rfl
      have z9 : w3.cell? ⟨kr, 9, none⟩ = some (.int .i64 nby) := BR3.out.cell rfl
      have z10 : w3.cell? ⟨kr, 10, none⟩ = some (.string ntx) := BR3.out.cell rfl
      have y4 : w3.cell? ⟨b, 4, none⟩ = some (.slice vec_a m.votes.length vec_c) := Q3.out.c4
      have O2 := Go.Lib.hid Q3.out.o2
      rw [← HN.out] at y4 O2
      go_upto_region 6 with fail
      have HRV := Go.Lib.hid (own_row O2.out)
      obtain ⟨v2, hv2⟩ : ∃ v2, v2 = Value.slice vec_a i vec_c := ⟨_, rfl⟩
      rw [← hv2] at y4 O2 HRV
      have Q4 : Hid (R14Q w3 b G S m a cc v1 v2 v3 v4 ka) := Go.Lib.hid (by rw [hv2, HN.out]; exact Q3.out)
      clear hv2 Q3
      have nb1 : Row v2 b = False := by simp only [eq_iff_iff, iff_false]; intro q; exact Q4.out.nb (Q4.out.low.2.1 b q)
      have nq1 : Row v2 kr = False := by simp only [eq_iff_iff, iff_false]; intro q; have := HQG.out kr (Q4.out.low.2.1 kr q); have := HKR.out; omega
      have nn1 : Non b = False := rfl
      have nn2 : Non kr = False := rfl
      have HR2 : Hid (∀ k, Row v2 k → k < w3.heap.size) := Go.Lib.hid (fun k q => (HRV.out k q).2)
      apply wp_region_wr 10 [Mo.is _, Mo.is _, Mo.is _, Mo.is _, Mo.is _, Mo.is _, moOne w3.heap.size [.bool ncm, .int .i64 nf, .int .i64 ns, .int .i64 c, .int .i64 s, .int .i64 k, .string key, .float .f64 x, .int .i64 id, .int .i64 nby, .string ntx] 164, moRow v2 w3.heap.size 0 164 11 (i + 1) (m.votes.flatMap vC ++ ([.bool ncm, .int .i64 nf, .int .i64 ns, .int .i64 c, .int .i64 s, .int .i64 k, .string key, .float .f64 x, .int .i64 id, .int .i64 nby, .string ntx] : List Value)), Mo.is _, Mo.is _] (Row v2) 7 (fun w' => w'.ownsRow 0 164 11 v2 i (m.votes.flatMap vC)) (Non) 9999 (fun _ => True) (by kernel_rfl) (by kernel_rfl) (by kernel_rfl) (by kernel_rfl) (by kernel_rfl) (by decide) (by kernel_rfl) (by decide) ?ta2 ?tb2 ?ha2 ?hb2 ?hc2 ?hd2 ?ma2 ?mb2 ?st2 ?q2
      case ta2 => exact O2.out
      case tb2 => exact trivial
      case ha2 => exact fun _ _ x h => ownR_extN h x
      case hb2 => exact fun _ _ x h => ownR_extN h x
      case hc2 => exact fun _ _ _ _ => trivial
      case hd2 => exact fun _ _ _ _ => trivial
      case st2 =>
        refine ⟨?_, ?_, ?_, ?_, ?_, ?_, ?_, ?_, ?_, ?_, trivial⟩
        · refine .inl ⟨by decide, by decide, ?_⟩
          intro a' w' hx hs hd
          obtain ⟨y, rfl⟩ := hx.ew
          have e0 : a'.tmps[0]?.getD undef = _ := hs 0 rfl
          simp only [List.getElem?_toArray, List.getElem?_cons_succ, List.getElem?_cons_zero, Option.getD_some, Array.getElem?_eq_some_iff] at e0
          refine .inl ⟨rfl, ?_⟩
          clear hs hd hx
          go_simp
          exact ⟨Ext.refl _ _, rfl⟩
        · refine .inl ⟨by decide, by decide, ?_⟩
          intro a' w' hx hs hd
          obtain ⟨y, rfl⟩ := hx.ew
          have e0 : a'.tmps[0]?.getD undef = _ := hs 0 rfl
          simp only [List.getElem?_toArray, List.getElem?_cons_succ, List.getElem?_cons_zero, Option.getD_some, Array.getElem?_eq_some_iff] at e0
          refine .inl ⟨rfl, ?_⟩
          clear hs hd hx
          go_simp
          exact ⟨Ext.refl _ _, rfl⟩
        · refine .inl ⟨by decide, by decide, ?_⟩
          intro a' w' hx hs hd
          obtain ⟨y, rfl⟩ := hx.ew
          have e53 : a'.tmps[53]?.getD undef = _ := hd 1 53 rfl rfl
          refine .inl ⟨rfl, ?_⟩
          clear hs hd hx
          go_simp
          exact ⟨Ext.refl _ _, rfl⟩
        · refine .inl ⟨by decide, by decide, ?_⟩
          intro a' w' hx hs hd
          obtain ⟨y, rfl⟩ := hx.ew
          have e54 : a'.tmps[54]?.getD undef = _ := hd 2 54 rfl rfl
          refine .inl ⟨rfl, ?_⟩
          clear hs hd hx
          go_simp
          exact ⟨Ext.refl _ _, rfl⟩
        · refine .inl ⟨by decide, by decide, ?_⟩
          intro a' w' hx hs hd
          obtain ⟨y, rfl⟩ := hx.ew
          have e55 : a'.tmps[55]?.getD undef = _ := hd 3 55 rfl rfl
          refine .inl ⟨rfl, ?_⟩
          clear hs hd hx
          go_simp
          exact ⟨Ext.refl _ _, rfl⟩
        · refine .inl ⟨by decide, by decide, ?_⟩
          intro a' w' hx hs hd
          obtain ⟨y, rfl⟩ := hx.ew
          have e3 : a'.tmps[3]?.getD undef = _ := hs 3 rfl
          simp only [List.getElem?_toArray, List.getElem?_cons_succ, List.getElem?_cons_zero, Option.getD_some, Array.getElem?_eq_some_iff] at e3
          refine .inl ⟨rfl, ?_⟩
          clear hs hd hx
          go_simp
          exact ⟨Ext.refl _ _, rfl⟩
        · refine .inl ⟨by decide, by decide, ?_⟩
          intro a' w' hx hs hd
          obtain ⟨y, rfl⟩ := hx.ew
          have e57 : a'.tmps[57]?.getD undef = _ := hd 5 57 rfl rfl
          refine .inl ⟨rfl, ?_⟩
          clear hs hd hx
          go_simp
          exact ⟨(Ext.refl _ _).alloc _, _, rfl, y.ext.size, Bx.newAt _ _ _ _ rfl⟩
        · refine .inr (.inl ⟨rfl, ?_⟩)
          intro a' w' hx hst hs hd
          obtain ⟨y, rfl⟩ := hx.ew
          have e56 : a'.tmps[56]?.getD undef = _ := hd 4 56 rfl rfl
          obtain ⟨k4, e58, hk4, hB4⟩ : ∃ kp, a'.tmps[58]?.getD undef = .slice (some ⟨kp, 0, none⟩) 1 1 ∧ w3.heap.size ≤ kp ∧ Bx y.on kp [.bool ncm, .int .i64 nf, .int .i64 ns, .int .i64 c, .int .i64 s, .int .i64 k, .string key, .float .f64 x, .int .i64 id, .int .i64 nby, .string ntx] 164 := hd 6 58 rfl rfl
          refine ⟨rfl, ?_⟩
          clear hs hd hx
          exact rel_append_row _ _ 136 rfl 0 164 11 104 _ Try.underlying136 info_vote14 (by rfl) (by omega) (by omega) v2 i (m.votes.flatMap vC) ((eval_tmp _ _).trans e56) hst k4 _ _ ((eval_tmp _ _).trans e58) hB4 rfl (by intro u hu; simp at hu; rcases hu with rfl | rfl | rfl | rfl | rfl | rfl | rfl | rfl | rfl | rfl | rfl <;> rfl) (by omega) (by omega) (fun v' w' x o r => ⟨v', rfl, o, fun k hk => (r k hk).imp (fun z => z) (fun z => Nat.le_trans y.ext.size z)⟩)
        · refine .inl ⟨by decide, by decide, ?_⟩
          intro a' w' hx hs hd
          obtain ⟨y, rfl⟩ := hx.ew
          have e52 : a'.tmps[52]?.getD undef = _ := hd 0 52 rfl rfl
          refine .inl ⟨rfl, ?_⟩
          clear hs hd hx
          go_simp
          exact ⟨Ext.refl _ _, rfl⟩
        · refine .inl ⟨by decide, by decide, ?_⟩
          intro a' w' hx hs hd
          obtain ⟨y, rfl⟩ := hx.ew
          have e60 : a'.tmps[60]?.getD undef = _ := hd 8 60 rfl rfl
          refine .inl ⟨rfl, ?_⟩
          clear hs hd hx
          go_simp
          exact ⟨Ext.refl _ _, rfl⟩
      case ma2 => exact ⟨.inr (Mo.is_still _ _), .inr (Mo.is_still _ _), .inr (Mo.is_still _ _), .inr (Mo.is_still _ _), .inr (Mo.is_still _ _), .inr (Mo.is_still _ _), .inr (moOne_still HR2.out), .inl rfl, .inr (Mo.is_still _ _), .inr (Mo.is_still _ _), trivial⟩
      case mb2 => exact ⟨.inr (Mo.mono _), .inr (Mo.mono _), .inr (Mo.mono _), .inr (Mo.mono _), .inr (Mo.mono _), .inr (Mo.mono _), .inr (Mo.mono _), .inr (Mo.mono _), .inr (Mo.mono _), .inr (Mo.mono _), trivial⟩
      case' q2 =>
        intro vs w' hx hRR
        obtain ⟨x9, rfl⟩ := hx.ew
        have q0 : vs 0 = _ := hRR 0 (by decide)
        have q1 : vs 1 = _ := hRR 1 (by decide)
        have q2 : vs 2 = _ := hRR 2 (by decide)
        have q3 : vs 3 = _ := hRR 3 (by decide)
        have q4 : vs 4 = _ := hRR 4 (by decide)
        have q5 : vs 5 = _ := hRR 5 (by decide)
        obtain ⟨k4, q6, hk4, hB4⟩ : ∃ kp, vs 6 = .slice (some ⟨kp, 0, none⟩) 1 1 ∧ w3.heap.size ≤ kp ∧ Bx x9.on kp [.bool ncm, .int .i64 nf, .int .i64 ns, .int .i64 c, .int .i64 s, .int .i64 k, .string key, .float .f64 x, .int .i64 id, .int .i64 nby, .string ntx] 164 := hRR 6 (by decide)
        obtain ⟨u5, q7, hO5, hr5⟩ : ∃ u, vs 7 = u ∧ x9.on.ownsRow 0 164 11 u (i + 1) (m.votes.flatMap vC ++ ([.bool ncm, .int .i64 nf, .int .i64 ns, .int .i64 c, .int .i64 s, .int .i64 k, .string key, .float .f64 x, .int .i64 id, .int .i64 nby, .string ntx] : List Value)) ∧ ∀ k, Row u k → Row v2 k ∨ w3.heap.size ≤ k := hRR 7 (by decide)
        have q8 : vs 8 = _ := hRR 8 (by decide)
        have q9 : vs 9 = _ := hRR 9 (by decide)
        clear hRR hx
        simp only [putAll, List.take_succ_cons, List.take_zero, List.drop_succ_cons, List.drop_zero, Act.put, List.setIfInBounds_toArray, List.set_cons_zero, List.set_cons_succ, Nat.reduceAdd, Nat.zero_add]
        simp only [q0, q1, q2, q3, q4, q5, q6, q7, q8, q9]
        clear q0 q1 q2 q3 q4 q5 q6 q7 q8 q9 vs
      obtain ⟨ua, uc, hus⟩ := row_slice hO5
      subst hus
      have hwsz : w.heap.size ≤ w3.heap.size := by omega
      have PD := Go.Lib.hid (Q4.out.putV (p := ⟨ncm, nf, ns, ⟨⟨c, s, ⟨k, key, x, id⟩⟩, nby, ntx⟩⟩) (x9.ext.mono (fun k _ q => by rcases q with q | q; exact q; exact q.elim)) HVK.out (by rw [← HN.out]; exact hO5) hr5)
      have NQ1 : Hid (∀ {p : Prop}, (Or2 (Row v2) Non kr → p) ) := Go.Lib.hid (fun q => by rcases q with q | q; rw [nq1] at q; exact q.elim; exact q.elim)
      have BR9 := Go.Lib.hid (BR3.out.ext x9.ext (fun q => NQ1.out q))
      have y7 : x9.on.cell? ⟨b, 4, none⟩ = some v2 := (x9.ext.cell (p := ⟨b, 4, none⟩) Q4.out.bx.lt (fun q => by rcases q with q | q; rw [nb1] at q; exact q; exact q)).trans y4
      have f7 : x9.on.frozen? ⟨b, 4, none⟩ = false := froz_of_heap (Q4.out.bx.ext x9.ext (fun q => by rcases q with q | q; rw [nb1] at q; exact q; exact q)).h
      have XF : Hid (Ext (LoF b G) w (x9.on.setCell ⟨b, 4, none⟩ (.slice ua (i + 1) uc))) := Go.Lib.hid ((X3.out.ofNon.step x9.ext (fun k hk q => by
        rcases q with q | q
        · exact .inr (Q4.out.low.2.1 k q)
        · exact q.elim)).step ((Ext.refl (One b) _).set1 _) (fun k hk q => .inl q))
      have FW : Hid (Few14 { m with votes := m.votes ++ [⟨ncm, nf, ns, ⟨⟨c, s, ⟨k, key, x, id⟩⟩, nby, ntx⟩⟩] }) := Go.Lib.hid ⟨HF.out.mem, by have := HP9.out; simp; omega, HF.out.props, HF.out.kept, HF.out.done, HF.out.vw⟩
      have HG5 : Hid (∀ k, GrG G w3.heap.size x9.on.heap.size k → G k ∨ w.heap.size ≤ k) := Go.Lib.hid (fun k h => by
        rcases h with h | ⟨h, _⟩
        · exact .inl h
        · exact .inr (by omega))
      have KL := Go.Lib.hid (ref14_look b _ _ ns HN64.out FW.out _ ⟨_, _, _, _, _, _, _, _, PD.out⟩)
      have BRA := Go.Lib.hid (BR9.out.ext (w' := x9.on.setCell ⟨b, 4, none⟩ (.slice ua (i + 1) uc)) ((Ext.refl (One b) _).set1 _) (fun e => by have e : kr = b := e; have := HKR.out; omega))
      clear PD
      generalize GrG G w3.heap.size x9.on.heap.size = G5 at *
      go_upto_region 7 with fail
      generalize x9.on.setCell ⟨b, 4, none⟩ (.slice ua (i + 1) uc) = w9 at *
      have zz : w9.cell? ⟨kr, 2, none⟩ = some (.int .i64 ns) := BRA.out.cell rfl
      go_wp2_with fail
      refine (KL.out).mono ?_
      rintro e w10 ⟨rfl, G6, hL, hG6, hx6⟩
      have FIN := Go.Lib.hid (And.intro hL (And.intro hG6 hx6))
      clear hL hG6 hx6
      go_wp2
      go_ret
      exact ⟨ret_int HE1.out.symm, G6, by rw [DG.out, if_pos HE1.out, DR.out]; exact FIN.out.1, fun k h => by
        rcases FIN.out.2.1 k h with h | h
        · exact HG5.out k h
        · exact .inr (Nat.le_trans XF.out.size h), XF.out.step FIN.out.2.2 (fun k hk q => by
        rcases q with q | q
        · exact .inl q
        · rcases HG5.out k q with h | h
          · exact .inr h
          · omega)⟩
end Go.Proofs.Ytakbkpklfihfiaa
