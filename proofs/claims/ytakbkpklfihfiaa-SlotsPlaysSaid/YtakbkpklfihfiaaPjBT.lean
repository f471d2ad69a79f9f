/- Joined texts: R14j, R14k. What each proves stands at its head; no conditions beside those in its theorems. -/
import Derived.Laws.CopyOwn
import Derived.Deep.OwnRows
import Derived.Deep.RegionLaw
import Derived.Test.YtakbkpklfihfiaaPjBS
/- The reference of layer 14: Prepare and Commit. -/
namespace Go.Proofs.Ytakbkpklfihfiaa
open Go.RowKit Go.Lib F64
set_option linter.unusedSimpArgs false
set_option linter.unusedVariables false
attribute [local go_sem] run_store_float
attribute [local go_sem low] EW.cellN EW.frozN alloc_cell_or alloc_froz_or EW.cellF EW.frozF EW.cell1 EW.froz1
attribute [local go_sem] relAt relUpon
theorem commit_after {m : RL14} {f n : Int} {r : Req} (h : mayRE m f n r = 0) : commitRE m f n r = voteE m ⟨true, f, n, ⟨r, 0, ByteArray.empty⟩⟩ ∧ commitR m f n r = voteG m ⟨true, f, n, ⟨r, 0, ByteArray.empty⟩⟩ := by
  have h1 : commitRE m f n r = voteE m ⟨true, f, n, ⟨r, 0, ByteArray.empty⟩⟩ := by unfold commitRE; rw [if_pos h]
  refine ⟨h1, ?_⟩
  unfold commitR voteG
  rw [h1]
theorem commit_before {m : RL14} {f n : Int} {r : Req} (h : mayRE m f n r ≠ 0) : commitRE m f n r = mayRE m f n r ∧ commitR m f n r = m := by
  have h1 : commitRE m f n r = mayRE m f n r := by unfold commitRE; rw [if_neg h]
  refine ⟨h1, ?_⟩
  unfold commitR
  rw [h1, if_neg h]
theorem prepare_before {m : RL14} {f n : Int} {r : Req} {by_ : Int} {text : ByteArray} (h : mayRE m f n r ≠ 0) : prepareRE m f n r by_ text = mayRE m f n r ∧ prepareR m f n r by_ text = m := by
  have h1 : prepareRE m f n r by_ text = mayRE m f n r := by unfold prepareRE; rw [if_neg h]
  refine ⟨h1, ?_⟩
  unfold prepareR
  rw [h1, if_neg h]
theorem prepare_wrong {m : RL14} {f n : Int} {r : Req} {by_ : Int} {text : ByteArray} (h : mayRE m f n r = 0) (h2 : ¬ (by_ = f ∧ text = prepS m.ep m.view n r)) : prepareRE m f n r by_ text = 16 ∧ prepareR m f n r by_ text = m := by
  have h1 : prepareRE m f n r by_ text = 16 := by unfold prepareRE; rw [if_pos h, if_neg h2]
  refine ⟨h1, ?_⟩
  unfold prepareR
  rw [h1, if_neg (by decide)]
theorem prepare_after {m : RL14} {f n : Int} {r : Req} {by_ : Int} {text : ByteArray} (h : mayRE m f n r = 0) (h2 : by_ = f ∧ text = prepS m.ep m.view n r) : prepareRE m f n r by_ text = voteE m ⟨false, f, n, ⟨r, by_, text⟩⟩ ∧ prepareR m f n r by_ text = voteG m ⟨false, f, n, ⟨r, by_, text⟩⟩ := by
  have h1 : prepareRE m f n r by_ text = voteE m ⟨false, f, n, ⟨r, by_, text⟩⟩ := by unfold prepareRE; rw [if_pos h, if_pos h2]
  refine ⟨h1, ?_⟩
  unfold prepareR voteG
  rw [h1]
set_option maxHeartbeats 4000000 in
set_option maxRecDepth 100000 in
theorem ref14_Commit (b : Nat) (G : Nat → Prop) (m : RL14) (f n : Int) (hn64 : I64 n) (c s k : Int) (key : ByteArray) (x : Nat) (id : Int) (hr : ReqOk ⟨c, s, ⟨k, key, x, id⟩⟩) (hep : 0 ≤ m.ep ∧ m.ep ≤ 60) (hf : Few14 m) (hp : m.votes.length ≤ 999) (w : World) (h : R14W w b G m) :
    Calls Try.prog 91 #[.pointer (some ⟨b, 0, none⟩), .int .i64 f, .int .i64 n, .agg #[.int .i64 c, .int .i64 s, .int .i64 k, .string key, .float .f64 x, .int .i64 id]] w fun e w' =>
    e = .returned (.int .i64 (commitRE m f n ⟨c, s, ⟨k, key, x, id⟩⟩)) ∧ ∃ G', R14W w' b G' (commitR m f n ⟨c, s, ⟨k, key, x, id⟩⟩) ∧ (∀ k, G' k → G k ∨ w.heap.size ≤ k) ∧ Ext (LoF b G) w w' := by
  have HH := Go.Lib.hid h
  have KM := Go.Lib.hid (fun w' (y : Ext Non w w') => ref14_may b G m f n c s k key x id hep w' (HH.out.extN y))
  have KV := Go.Lib.hid (fun w' (y : Ext Non w w') => ref14_vote b G m true f n hn64 c s k key x id 0 ByteArray.empty ⟨hr, by unfold I64; simp, Nat.zero_le _⟩ hf hp w' (HH.out.extN y))
  have CA := Go.Lib.hid (@commit_after m f n ⟨c, s, ⟨k, key, x, id⟩⟩)
  have CB := Go.Lib.hid (@commit_before m f n ⟨c, s, ⟨k, key, x, id⟩⟩)
  clear h hr hep hf hp hn64
  generalize mayRE m f n ⟨c, s, ⟨k, key, x, id⟩⟩ = ev at *
  generalize voteE m ⟨true, f, n, ⟨⟨c, s, ⟨k, key, x, id⟩⟩, 0, ByteArray.empty⟩⟩ = vv at *
  by_cases he : ev = 0
  · subst he
    obtain ⟨h1, h2⟩ := CA.out rfl
    rw [h1, h2]
    clear CA CB h1 h2
    go_enter Try.func91, Try.ntmps91
    go_wp2_with fail
    refine Calls.ew (KM.out _ (by (repeat (first | with_reducible (first | exact Ext.refl _ _ | assumption | refine Ext.upN ?_ | refine Ext.alloc ?_ _ | refine Ext.drew ?_ | refine Ext.drewN ?_ _ | refine Ext.up1N (by first | omega | simp) ?_) | refine Ext.alloc ?_ _ | refine Ext.setCell ?_ (.inr (by first | omega | simp)) _)))) ?_
    rintro e x1 rfl
    have X1 := Go.Lib.hid (by (repeat (first | with_reducible (first | exact Ext.refl _ _ | assumption | refine Ext.upN ?_ | refine Ext.alloc ?_ _ | refine Ext.drew ?_ | refine Ext.drewN ?_ _ | refine Ext.up1N (by first | omega | simp) ?_) | refine Ext.alloc ?_ _ | refine Ext.setCell ?_ (.inr (by first | omega | simp)) _)) : Ext Non w x1.on)
    go_wp2_with fail
    refine (KV.out _ (by (repeat (first | with_reducible (first | exact Ext.refl _ _ | assumption | refine Ext.upN ?_ | refine Ext.alloc ?_ _ | refine Ext.drew ?_ | refine Ext.drewN ?_ _ | refine Ext.up1N (by first | omega | simp) ?_) | refine Ext.alloc ?_ _ | refine Ext.setCell ?_ (.inr (by first | omega | simp)) _)))).mono ?_
    rintro e w2 ⟨rfl, G', hL, hG, hx⟩
    have FIN := Go.Lib.hid (And.intro hL (And.intro hG hx))
    clear hL hG hx
    go_wp2
    go_ret
    exact ⟨rfl, G', FIN.out.1, fun k hk => (FIN.out.2.1 k hk).imp (fun h => h) (fun h => Nat.le_trans X1.out.size h), X1.out.ofNon.trans FIN.out.2.2⟩
  · have hb : (ev != 0) = true := by simpa using he
    obtain ⟨h1, h2⟩ := CB.out he
    rw [h1, h2]
    clear CA CB h1 h2 he KV
    go_enter Try.func91, Try.ntmps91
    go_wp2_with fail
    refine Calls.ew (KM.out _ (by (repeat (first | with_reducible (first | exact Ext.refl _ _ | assumption | refine Ext.upN ?_ | refine Ext.alloc ?_ _ | refine Ext.drew ?_ | refine Ext.drewN ?_ _ | refine Ext.up1N (by first | omega | simp) ?_) | refine Ext.alloc ?_ _ | refine Ext.setCell ?_ (.inr (by first | omega | simp)) _)))) ?_
    rintro e x1 rfl
    go_wp2
    go_ret
    exact ⟨rfl, G, HH.out.extN (by (repeat (first | with_reducible (first | exact Ext.refl _ _ | assumption | refine Ext.upN ?_ | refine Ext.alloc ?_ _ | refine Ext.drew ?_ | refine Ext.drewN ?_ _ | refine Ext.up1N (by first | omega | simp) ?_) | refine Ext.alloc ?_ _ | refine Ext.setCell ?_ (.inr (by first | omega | simp)) _))), fun k h => .inl h, (by (repeat (first | with_reducible (first | exact Ext.refl _ _ | assumption | refine Ext.upN ?_ | refine Ext.alloc ?_ _ | refine Ext.drew ?_ | refine Ext.drewN ?_ _ | refine Ext.up1N (by first | omega | simp) ?_) | refine Ext.alloc ?_ _ | refine Ext.setCell ?_ (.inr (by first | omega | simp)) _)) : Ext Non w x1.on).ofNon⟩
set_option maxHeartbeats 4000000 in
set_option maxRecDepth 100000 in
theorem ref14_Prepare (b : Nat) (G : Nat → Prop) (m : RL14) (f n : Int) (hn64 : I64 n) (c s k : Int) (key : ByteArray) (x : Nat) (id : Int) (hr : ReqOk ⟨c, s, ⟨k, key, x, id⟩⟩) (by_ : Int) (text : ByteArray) (hby : I64 by_) (htx : text.size ≤ 9223372036854775807) (hep : 0 ≤ m.ep ∧ m.ep ≤ 60) (hf : Few14 m) (hp : m.votes.length ≤ 999) (w : World) (h : R14W w b G m) :
    Calls Try.prog 90 #[.pointer (some ⟨b, 0, none⟩), .int .i64 f, .int .i64 n, .agg #[.int .i64 c, .int .i64 s, .int .i64 k, .string key, .float .f64 x, .int .i64 id], .agg #[.int .i64 by_, .string text]] w fun e w' =>
    e = .returned (.int .i64 (prepareRE m f n ⟨c, s, ⟨k, key, x, id⟩⟩ by_ text)) ∧ ∃ G', R14W w' b G' (prepareR m f n ⟨c, s, ⟨k, key, x, id⟩⟩ by_ text) ∧ (∀ k, G' k → G k ∨ w.heap.size ≤ k) ∧ Ext (LoF b G) w w' := by
  have HH := Go.Lib.hid h
  obtain ⟨S, a, cc, v1, v2, v3, v4, ka, Q⟩ := h.ex
  have c0 := Q.c0
  have c2 := Q.c2
  have hbw := Q.bx.lt
  have KM := Go.Lib.hid (fun w' (y : Ext Non w w') => ref14_may b G m f n c s k key x id hep w' (HH.out.extN y))
  have KV := Go.Lib.hid (fun w' (y : Ext Non w w') => ref14_vote b G m false f n hn64 c s k key x id by_ text ⟨hr, hby, htx⟩ hf hp w' (HH.out.extN y))
  have KR := Go.Lib.hid (fun w' => ref_Prepared m.ep m.view n c s k key x id (by unfold I64; omega) hf.vw hn64 hr.c hr.s hr.k hr.id hr.x hr.key w')
  have CA := Go.Lib.hid (@prepare_after m f n ⟨c, s, ⟨k, key, x, id⟩⟩ by_ text)
  have CB := Go.Lib.hid (@prepare_before m f n ⟨c, s, ⟨k, key, x, id⟩⟩ by_ text)
  have CW := Go.Lib.hid (@prepare_wrong m f n ⟨c, s, ⟨k, key, x, id⟩⟩ by_ text)
  clear h hr hep hf hp hn64 hby htx Q
  generalize mayRE m f n ⟨c, s, ⟨k, key, x, id⟩⟩ = ev at *
  generalize voteE m ⟨false, f, n, ⟨⟨c, s, ⟨k, key, x, id⟩⟩, by_, text⟩⟩ = vv at *
  generalize prepS m.ep m.view n ⟨c, s, ⟨k, key, x, id⟩⟩ = ptx at *
  generalize prepE m.ep m.view n ⟨c, s, ⟨k, key, x, id⟩⟩ = pe at *
  by_cases he : ev = 0
  · subst he
    clear CB
    by_cases hb : by_ = f
    · have hbb : (by_ != f) = false := by rw [hb]; simp
      by_cases ht : text = ptx
      · have hte : (text.toList == ptx.toList) = true := by rw [ht]; simp
        have hte2 : text.toList = ptx.toList := by rw [ht]
        obtain ⟨h1, h2⟩ := CA.out rfl ⟨hb, ht⟩
        rw [h1, h2]
        clear CA CW h1 h2 hb ht
        go_enter Try.func90, Try.ntmps90
        go_wp2_with fail
        refine Calls.ew (KM.out _ (by (repeat (first | with_reducible (first | exact Ext.refl _ _ | assumption | refine Ext.upN ?_ | refine Ext.alloc ?_ _ | refine Ext.drew ?_ | refine Ext.drewN ?_ _ | refine Ext.up1N (by first | omega | simp) ?_) | refine Ext.alloc ?_ _ | refine Ext.setCell ?_ (.inr (by first | omega | simp)) _)))) ?_
        rintro e x1 rfl
        go_upto_region 4 with fail
        (refine wp_region_ext_lit (by kernel_rfl) (by kernel_rfl) ?_; (repeat (go_big_quiet_step ((go_at_call 53; exact Calls.ext_of (KR.out _))))); refine wpQuiet_nil ?_; intro _ hw'; obtain ⟨xq, hw''⟩ := hw'; subst hw'')
        have X1 := Go.Lib.hid (by (repeat (first | with_reducible (first | exact Ext.refl _ _ | assumption | refine Ext.upN ?_ | refine Ext.alloc ?_ _ | refine Ext.drew ?_ | refine Ext.drewN ?_ _ | refine Ext.up1N (by first | omega | simp) ?_) | refine Ext.alloc ?_ _ | refine Ext.setCell ?_ (.inr (by first | omega | simp)) _)) : Ext Non w xq.on)
        go_wp2_with fail
        refine (KV.out _ (by (repeat (first | with_reducible (first | exact Ext.refl _ _ | assumption | refine Ext.upN ?_ | refine Ext.alloc ?_ _ | refine Ext.drew ?_ | refine Ext.drewN ?_ _ | refine Ext.up1N (by first | omega | simp) ?_) | refine Ext.alloc ?_ _ | refine Ext.setCell ?_ (.inr (by first | omega | simp)) _)))).mono ?_
        rintro e w2 ⟨rfl, G', hL, hG, hx⟩
        have FIN := Go.Lib.hid (And.intro hL (And.intro hG hx))
        clear hL hG hx
        go_wp2
        go_ret
        exact ⟨rfl, G', FIN.out.1, fun k hk => (FIN.out.2.1 k hk).imp (fun h => h) (fun h => Nat.le_trans X1.out.size h), X1.out.ofNon.trans FIN.out.2.2⟩
      · have hte : (text.toList == ptx.toList) = false := by
          have : ¬ text.toList = ptx.toList := fun e => ht (toList_inj e)
          simpa using this
        have hte2 : ¬ text.toList = ptx.toList := fun e => ht (toList_inj e)
        obtain ⟨h1, h2⟩ := CW.out rfl (fun h => ht h.2)
        rw [h1, h2]
        clear CA CW h1 h2 hb ht KV
        go_enter Try.func90, Try.ntmps90
        go_wp2_with fail
        refine Calls.ew (KM.out _ (by (repeat (first | with_reducible (first | exact Ext.refl _ _ | assumption | refine Ext.upN ?_ | refine Ext.alloc ?_ _ | refine Ext.drew ?_ | refine Ext.drewN ?_ _ | refine Ext.up1N (by first | omega | simp) ?_) | refine Ext.alloc ?_ _ | refine Ext.setCell ?_ (.inr (by first | omega | simp)) _)))) ?_
        rintro e x1 rfl
        go_upto_region 4 with fail
        (refine wp_region_ext_lit (by kernel_rfl) (by kernel_rfl) ?_; (repeat (go_big_quiet_step ((go_at_call 53; exact Calls.ext_of (KR.out _))))); refine wpQuiet_nil ?_; intro _ hw'; obtain ⟨xq, hw''⟩ := hw'; subst hw'')
        go_wp2
        go_ret
        exact ⟨rfl, G, HH.out.extN (by (repeat (first | with_reducible (first | exact Ext.refl _ _ | assumption | refine Ext.upN ?_ | refine Ext.alloc ?_ _ | refine Ext.drew ?_ | refine Ext.drewN ?_ _ | refine Ext.up1N (by first | omega | simp) ?_) | refine Ext.alloc ?_ _ | refine Ext.setCell ?_ (.inr (by first | omega | simp)) _))), fun k h => .inl h, (by (repeat (first | with_reducible (first | exact Ext.refl _ _ | assumption | refine Ext.upN ?_ | refine Ext.alloc ?_ _ | refine Ext.drew ?_ | refine Ext.drewN ?_ _ | refine Ext.up1N (by first | omega | simp) ?_) | refine Ext.alloc ?_ _ | refine Ext.setCell ?_ (.inr (by first | omega | simp)) _)) : Ext Non w xq.on).ofNon⟩
    · have hbb : (by_ != f) = true := by simpa using hb
      obtain ⟨h1, h2⟩ := CW.out rfl (fun h => hb h.1)
      rw [h1, h2]
      clear CA CW h1 h2 hb KV
      go_enter Try.func90, Try.ntmps90
      go_wp2_with fail
      refine Calls.ew (KM.out _ (by (repeat (first | with_reducible (first | exact Ext.refl _ _ | assumption | refine Ext.upN ?_ | refine Ext.alloc ?_ _ | refine Ext.drew ?_ | refine Ext.drewN ?_ _ | refine Ext.up1N (by first | omega | simp) ?_) | refine Ext.alloc ?_ _ | refine Ext.setCell ?_ (.inr (by first | omega | simp)) _)))) ?_
      rintro e x1 rfl
      go_upto_region 4 with fail
      (refine wp_region_ext_lit (by kernel_rfl) (by kernel_rfl) ?_; (repeat (go_big_quiet_step ((go_at_call 53; exact Calls.ext_of (KR.out _))))); refine wpQuiet_nil ?_; intro _ hw'; obtain ⟨xq, hw''⟩ := hw'; subst hw'')
      go_wp2
      go_ret
      exact ⟨rfl, G, HH.out.extN (by (repeat (first | with_reducible (first | exact Ext.refl _ _ | assumption | refine Ext.upN ?_ | refine Ext.alloc ?_ _ | refine Ext.drew ?_ | refine Ext.drewN ?_ _ | refine Ext.up1N (by first | omega | simp) ?_) | refine Ext.alloc ?_ _ | refine Ext.setCell ?_ (.inr (by first | omega | simp)) _))), fun k h => .inl h, (by (repeat (first | with_reducible (first | exact Ext.refl _ _ | assumption | refine Ext.upN ?_ | refine Ext.alloc ?_ _ | refine Ext.drew ?_ | refine Ext.drewN ?_ _ | refine Ext.up1N (by first | omega | simp) ?_) | refine Ext.alloc ?_ _ | refine Ext.setCell ?_ (.inr (by first | omega | simp)) _)) : Ext Non w xq.on).ofNon⟩
  · have hb : (ev != 0) = true := by simpa using he
    obtain ⟨h1, h2⟩ := CB.out he
    rw [h1, h2]
    clear CA CB CW h1 h2 he KV KR
    go_enter Try.func90, Try.ntmps90
    go_wp2_with fail
    refine Calls.ew (KM.out _ (by (repeat (first | with_reducible (first | exact Ext.refl _ _ | assumption | refine Ext.upN ?_ | refine Ext.alloc ?_ _ | refine Ext.drew ?_ | refine Ext.drewN ?_ _ | refine Ext.up1N (by first | omega | simp) ?_) | refine Ext.alloc ?_ _ | refine Ext.setCell ?_ (.inr (by first | omega | simp)) _)))) ?_
    rintro e x1 rfl
    go_wp2
    go_ret
    exact ⟨rfl, G, HH.out.extN (by (repeat (first | with_reducible (first | exact Ext.refl _ _ | assumption | refine Ext.upN ?_ | refine Ext.alloc ?_ _ | refine Ext.drew ?_ | refine Ext.drewN ?_ _ | refine Ext.up1N (by first | omega | simp) ?_) | refine Ext.alloc ?_ _ | refine Ext.setCell ?_ (.inr (by first | omega | simp)) _))), fun k h => .inl h, (by (repeat (first | with_reducible (first | exact Ext.refl _ _ | assumption | refine Ext.upN ?_ | refine Ext.alloc ?_ _ | refine Ext.drew ?_ | refine Ext.drewN ?_ _ | refine Ext.up1N (by first | omega | simp) ?_) | refine Ext.alloc ?_ _ | refine Ext.setCell ?_ (.inr (by first | omega | simp)) _)) : Ext Non w x1.on).ofNon⟩
end Go.Proofs.Ytakbkpklfihfiaa

/- The reference of layer 14: Certs. -/
namespace Go.Proofs.Ytakbkpklfihfiaa
open Go.RowKit Go.Lib F64
set_option linter.unusedSimpArgs false
set_option linter.unusedVariables false
attribute [local go_sem] run_store_float
attribute [local go_sem low] EW.cellN EW.frozN alloc_cell_or alloc_froz_or EW.cellF EW.frozF EW.cell1 EW.froz1
attribute [local go_sem] relAt relUpon
def atK14 (t : Int) (q : CtR) : Bool := q.1.slot == t
def certsK (ka : List CtR) (ep : Int) (k : Nat) : List CtR := (List.range k).flatMap fun (i : Nat) => ka.filter (atK14 (4 * ep + ((i : Int) + 1)))
theorem certsK_succ (ka : List CtR) (ep : Int) (k : Nat) : certsK ka ep (k + 1) = certsK ka ep k ++ ka.filter (atK14 (4 * ep + ((k : Int) + 1))) := by
  unfold certsK
  rw [List.range_succ, List.flatMap_append]
  simp
theorem certsK_len (ka : List CtR) (ep : Int) : ∀ k, (certsK ka ep k).length ≤ k * ka.length
  | 0 => by simp [certsK]
  | k + 1 => by
    have h1 := certsK_len ka ep k
    have h2 : (ka.filter (atK14 (4 * ep + ((k : Int) + 1)))).length ≤ ka.length := List.length_filter_le _ _
    rw [certsK_succ, List.length_append, Nat.add_mul]
    omega
theorem certsK_map (ka : List CtR) (m : RL14) (h : ka.map (·.1) = m.kept) : (certsK ka m.ep 4).map (·.1) = certsR m := by
  unfold certsK certsR
  rw [List.map_flatMap, ← h]
  congr 1
  funext i
  rw [List.filter_map]
  rfl
theorem certsK_mem (ka : List CtR) (ep : Int) (k : Nat) : ∀ q ∈ certsK ka ep k, q ∈ ka := fun q hq => by
  unfold certsK at hq
  obtain ⟨_, _, h⟩ := List.mem_flatMap.1 hq
  exact (List.mem_filter.1 h).1
set_option maxHeartbeats 8000000 in
set_option maxRecDepth 100000 in
theorem ref14_Certs (b : Nat) (G : Nat → Prop) (m : RL14) (hep : 0 ≤ m.ep ∧ m.ep ≤ 60) (hf : Few14 m) (w : World) (h : R14W w b G m) : Calls Try.prog 93 #[.pointer (some ⟨b, 0, none⟩)] w fun e w' =>
    ∃ a cap, e = .returned (.slice a (certsR m).length cap) ∧ Certs w' a cap (certsR m) ∧ Ext Non w w' := by
  obtain ⟨S, a, c, v1, v2, v3, v4, ka, Q⟩ := h.ex
  have HQ := Go.Lib.hid Q
  have HCM := Go.Lib.hid (certsK_map ka m Q.km)
  have c0 := Q.c0
  obtain ⟨a3, c3, rfl, h31, h32, hrow⟩ := ownG_rows ka ctRow (fun _ => rfl) Q.o3
  have HROW := Go.Lib.hid hrow
  have q5 := Q.c5
  have hK1 : ka.length ≤ 1000 := by
    have h1 := congrArg List.length Q.km
    rw [List.length_map] at h1
    have h2 := hf.kept
    omega
  have hbw := Q.bx.lt
  obtain ⟨K, hK⟩ : ∃ K, K = ka.length := ⟨_, rfl⟩
  have HK := Go.Lib.hid hK
  rw [← hK] at q5 h31 hK1
  obtain ⟨n1, hn1⟩ : ∃ n1, n1 = w.heap.size := ⟨_, rfl⟩
  have hbn : b < n1 := by omega
  clear hrow hK Q h hf
  have HME := Go.Lib.hid (rfl : m.ep = m.ep)
  obtain ⟨ep, hme⟩ : ∃ ep, ep = m.ep := ⟨_, rfl⟩
  rw [← hme] at c0 hep HCM
  clear HME
  have hw1 : IntKind.i64.wrap (4 * ep) = 4 * ep := IntWalk.i64_in _ (by omega)
  go_enter Try.func93, Try.ntmps93
  go_wp2_with fail
  go_loopg [3, 4] 4 (fun k ov nv wr => ∃ (j : Nat) (z : EW (From n1) w), j ≤ 4 ∧ k = 4 - j ∧ nv = .int .i64 ((j : Int) + 1) ∧ wr = z.on ∧ Hid (wr.ownsRow n1 52 9 ov (certsK ka ep j).length ((certsK ka ep j).flatMap ctRow)))
  case atStart => exact ⟨0, ⟨_, Ext.refl _ _⟩, by omega, rfl, rfl, rfl, Go.Lib.hid (World.ownsRow_nil _ _ _ _)⟩
  case round =>
    obtain ⟨j, z, hj, hk, rfl, rfl, HO⟩ := hrel
    have HG := Go.Lib.hid hk; clear hk
    by_cases hlt : j < 4
    · have d0 : decide (((j : Int) + 1) ≤ 4) = true := decide_eq_true (by omega)
      have hw2 : IntKind.i64.wrap (4 * ep + ((j : Int) + 1)) = 4 * ep + ((j : Int) + 1) := IntWalk.i64_in _ (by omega)
      have hw3 : IntKind.i64.wrap (((j : Int) + 1) + 1) = ((j : Int) + 1) + 1 := IntWalk.i64_in _ (by omega)
      have CS := Go.Lib.hid (certsK_succ ka ep j)
      have CL : Hid ((certsK ka ep j).length ≤ j * K) := Go.Lib.hid (by rw [HK.out]; exact certsK_len ka ep j)
      obtain ⟨L, hL⟩ : ∃ L, L = certsK ka ep j := ⟨_, rfl⟩
      rw [← hL] at HO CS CL
      clear hL
      obtain ⟨tg, htg⟩ : ∃ tg, tg = 4 * ep + ((j : Int) + 1) := ⟨_, rfl⟩
      rw [← htg] at CS hw2
      have HTG := Go.Lib.hid htg
      rw [htg] at hw2
      clear htg
      go_wp2_with fail
      go_loopg [3, 5] K (fun k ov iv wr => ∃ (i : Nat) (L2 : List CtR) (u : EW (From n1) w), i ≤ K ∧ k = K - i ∧ iv = .int .i64 i ∧ wr = u.on ∧ Hid (L2 = L ++ (ka.take i).filter (atK14 tg)) ∧ Hid (wr.ownsRow n1 52 9 ov L2.length (L2.flatMap ctRow)))
      case atStart => exact ⟨0, L, z, Nat.zero_le _, rfl, rfl, rfl, Go.Lib.hid (by simp), HO⟩
      case round =>
        obtain ⟨i, L2, u, hi, hki, rfl, rfl, HL2, HO2⟩ := hrel
        have HGi := Go.Lib.hid hki; clear hki HO
        by_cases hlti : i < K
        · have hik : i < ka.length := by rw [← HK.out]; exact hlti
          obtain ⟨g, rfl, hg, hc⟩ := HROW.out i hik
          have FS := Go.Lib.hid (filt_succ (atK14 tg) ka hik)
          have hL2 : L2.length ≤ 1000000 := by
            have h1 := congrArg List.length HL2.out
            have h4 : ((ka.take i).filter (atK14 tg)).length ≤ i := Nat.le_trans (List.length_filter_le _ _) (by rw [List.length_take]; omega)
            rw [List.length_append] at h1
            have h5 := CL.out
            have h6 : j * K ≤ 4 * 1000 := Nat.mul_le_mul (by omega) hK1
            omega
          generalize ka[i] = q at *
          obtain ⟨⟨cv, cs, ⟨qc, qs, ⟨qk, qkey, qx, qid⟩⟩, sl⟩, sa, scap⟩ := q
          have TS : Hid (atK14 tg (⟨cv, cs, ⟨qc, qs, ⟨qk, qkey, qx, qid⟩⟩, sl⟩, sa, scap) = (cs == tg)) := Go.Lib.hid rfl
          rw [TS.out] at FS
          have p0 : w.cell? ⟨g, 0 + i * 9, none⟩ = some (.int .i64 cv) := hc 0 _ rfl
          have p1 : w.cell? ⟨g, 0 + i * 9 + 1, none⟩ = some (.int .i64 cs) := hc 1 _ rfl
          have p2 : w.cell? ⟨g, 0 + i * 9 + 2, none⟩ = some (.int .i64 qc) := hc 2 _ rfl
          have p3 : w.cell? ⟨g, 0 + i * 9 + 3, none⟩ = some (.int .i64 qs) := hc 3 _ rfl
          have p4 : w.cell? ⟨g, 0 + i * 9 + 4, none⟩ = some (.int .i64 qk) := hc 4 _ rfl
          have p5 : w.cell? ⟨g, 0 + i * 9 + 5, none⟩ = some (.string qkey) := hc 5 _ rfl
          have p6 : w.cell? ⟨g, 0 + i * 9 + 6, none⟩ = some (.float .f64 qx) := hc 6 _ rfl
          have p7 : w.cell? ⟨g, 0 + i * 9 + 7, none⟩ = some (.int .i64 qid) := hc 7 _ rfl
          have p8 : w.cell? ⟨g, 0 + i * 9 + 8, none⟩ = some (.slice sa sl.length scap) := hc 8 _ rfl
          clear hc
          simp only [Nat.zero_add] at p0 p1 p2 p3 p4 p5 p6 p7 p8
          have hgn : g < n1 := by rw [hn1]; exact hg
          have hz1 : n1 ≤ u.on.heap.size := by have := u.ext.size; omega
          by_cases hsn : cs = tg
          · have d1 : (cs == tg) = true := by simpa using hsn
            have d2 : (cs == 4 * ep + ((j : Int) + 1)) = true := by rw [← HTG.out]; exact d1
            have NL : Hid (L2 ++ [(⟨cv, cs, ⟨qc, qs, ⟨qk, qkey, qx, qid⟩⟩, sl⟩, sa, scap)] = L ++ (ka.take (i + 1)).filter (atK14 tg)) := Go.Lib.hid (by rw [FS.out, d1, HL2.out]; simp)
            clear hsn d1
            go_upto_region 8 with fail
            (refine wp_region_ext_lit (by kernel_rfl) (by kernel_rfl) ?_)
            ((try simp only [Bool.not_true, Bool.not_false, Bool.or_false, Bool.or_true, Bool.false_or, Bool.true_or, Bool.and_true, Bool.true_and, Bool.and_false, Bool.false_and]); (repeat (go_big_quiet_step (fail))))
            (refine wpQuiet_nil ?_; intro _ hw'; obtain ⟨xq, hw''⟩ := hw'; subst hw'')
            have X5 := Go.Lib.hid (u.ext.trans xq.ext.ofNon)
            have HO3 := Go.Lib.hid (ownR_extN HO2.out xq.ext)
            have hz2 : n1 ≤ xq.on.heap.size := Nat.le_trans hz1 xq.ext.size
            go_wp2_with (at_builtin; refine wpList_append_ew rfl _ _ 22 rfl n1 52 9 96 _ Try.underlying22 info_cert3 (by rfl) (by omega) (by omega) _ L2.length _ rfl (ownR_extN HO3.out (by (repeat (first | with_reducible (first | exact Ext.refl _ _ | assumption | refine Ext.upN ?_ | refine Ext.alloc ?_ _ | refine Ext.drew ?_ | refine Ext.drewN ?_ _ | refine Ext.upF ?_ | refine Ext.upFF (by first | omega | simp) ?_ | refine Ext.setCellsF _ _ _ (by first | omega | simp) ?_ | refine Ext.setCellF _ _ _ (by first | omega | simp) ?_ | refine Ext.upFN (by first | omega | simp) ?_ | refine Ext.up1F (by first | omega | simp) ?_ | refine Ext.up1N (by first | omega | simp) ?_) | refine Ext.alloc ?_ _ | refine Ext.setCellF _ _ _ (by first | omega | simp) ?_ | refine Ext.setCell ?_ (.inr (by first | omega | simp)) _)))) _ [.int .i64 cv, .int .i64 cs, .int .i64 qc, .int .i64 qs, .int .i64 qk, .string qkey, .float .f64 qx, .int .i64 qid, .slice sa sl.length scap] _ rfl (Bx.newAt _ _ _ _ (by simp)) rfl (by simp [Value.oneCell']) (by omega) (by simp; omega) (fun v' W2 hO => ?_); have HO5 := Go.Lib.hid hO; clear hO)
            have LL : Hid ((L2 ++ [((⟨cv, cs, ⟨qc, qs, ⟨qk, qkey, qx, qid⟩⟩, sl⟩, sa, scap) : CtR)]).length = L2.length + 1) := Go.Lib.hid (by simp)
            go_roundg (K - (i + 1))
            case measure => have := HGi.out; omega
            case rel => exact ⟨i + 1, L2 ++ [(⟨cv, cs, ⟨qc, qs, ⟨qk, qkey, qx, qid⟩⟩, sl⟩, sa, scap)], ⟨_, X5.out.trans (by (repeat (first | with_reducible (first | exact Ext.refl _ _ | assumption | refine Ext.upN ?_ | refine Ext.alloc ?_ _ | refine Ext.drew ?_ | refine Ext.drewN ?_ _ | refine Ext.upF ?_ | refine Ext.upFF (by first | omega | simp) ?_ | refine Ext.setCellsF _ _ _ (by first | omega | simp) ?_ | refine Ext.setCellF _ _ _ (by first | omega | simp) ?_ | refine Ext.upFN (by first | omega | simp) ?_ | refine Ext.up1F (by first | omega | simp) ?_ | refine Ext.up1N (by first | omega | simp) ?_) | refine Ext.alloc ?_ _ | refine Ext.setCellF _ _ _ (by first | omega | simp) ?_ | refine Ext.setCell ?_ (.inr (by first | omega | simp)) _)))⟩, hlti, rfl, by go_num, rfl, NL, Go.Lib.hid (by rw [LL.out, List.flatMap_append]; exact HO5.out)⟩
          · have d1 : (cs == tg) = false := by simpa using hsn
            have d2 : (cs == 4 * ep + ((j : Int) + 1)) = false := by rw [← HTG.out]; exact d1
            have NL : Hid (L2 = L ++ (ka.take (i + 1)).filter (atK14 tg)) := Go.Lib.hid (by rw [FS.out, d1, HL2.out]; simp)
            clear hsn d1
            go_upto_region 8 with fail
            (refine wp_region_ext_lit (by kernel_rfl) (by kernel_rfl) ?_)
            ((try simp only [Bool.not_true, Bool.not_false, Bool.or_false, Bool.or_true, Bool.false_or, Bool.true_or, Bool.and_true, Bool.true_and, Bool.and_false, Bool.false_and]); (repeat (go_big_quiet_step (fail))))
            (refine wpQuiet_nil ?_; intro _ hw'; obtain ⟨xq, hw''⟩ := hw'; subst hw'')
            go_wp2_with fail
            go_roundg (K - (i + 1))
            case measure => have := HGi.out; omega
            case rel => exact ⟨i + 1, L2, ⟨_, u.ext.trans xq.ext.ofNon⟩, hlti, rfl, by go_num, rfl, NL, Go.Lib.hid (ownR_extN HO2.out xq.ext)⟩
        · obtain rfl : i = K := by omega
          have LE : Hid (L2 = certsK ka ep (j + 1)) := Go.Lib.hid (by
            have h1 := HL2.out
            rw [HK.out, List.take_length] at h1
            rw [CS.out]; exact h1)
          go_wp2_with fail
          go_roundg (4 - (j + 1))
          case measure => have := HG.out; omega
          case rel => exact ⟨j + 1, u, hlt, rfl, by go_num, rfl, Go.Lib.hid (by rw [← LE.out]; exact HO2.out)⟩
    · obtain rfl : j = 4 := by omega
      have OKS : Hid (∀ q ∈ certsK ka ep 4, CtOk z.on q) := Go.Lib.hid (fun q hq => by
        have h1 := HQ.out.ck q (certsK_mem ka ep 4 q hq)
        exact h1.1.ext z.ext (fun k o e => by
          have h2 := HQ.out.lt k (HQ.out.sG k (h1.2 k o e))
          intro h3
          have h3 : n1 ≤ k := h3
          omega))
      obtain ⟨ra, rcap, hrv, hcs⟩ := own_rows9 _ HO.out OKS.out
      have HCS := Go.Lib.hid hcs
      rw [HCM.out] at HCS
      have LN : Hid ((certsK ka ep 4).length = (certsR m).length) := Go.Lib.hid (by rw [← HCM.out, List.length_map])
      rw [LN.out] at hrv
      clear hcs OKS HO
      subst hrv
      have XF := Go.Lib.hid (Ext.fromNon (by omega : w.heap.size ≤ n1) z.ext)
      go_wp2
      go_ret
      exact ⟨ra, rcap, rfl, HCS.out, XF.out⟩
end Go.Proofs.Ytakbkpklfihfiaa
