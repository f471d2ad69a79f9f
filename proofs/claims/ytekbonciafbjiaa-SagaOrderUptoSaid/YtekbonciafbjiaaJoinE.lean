/- Joined texts: SagaOrderP, SagaOrder22. What each proves stands at its head; no conditions beside those in its theorems. -/
import Derived.Test.YtekbonciafbjiaaJoinB
import Derived.Test.YtekbonciafbjiaaJoinD
/- Layer 22 in plain words: what SagaOrder says of two merges. -/
namespace Go.Proofs.Ytekbonciafbjiaa
open Go.RowKit Go.Lib F64
set_option linter.unusedSimpArgs false
set_option linter.unusedVariables false
theorem allT_of : ∀ (l k : List Req), l.length = k.length → (∀ (j : Nat) (r s : Req), l[j]? = some r → k[j]? = some s → sameT r s = true) → allT l k = true
  | [], [], _, _ => rfl
  | [], _ :: _, h, _ => by simp at h
  | _ :: _, [], h, _ => by simp at h
  | x :: xs, y :: ys, h, hp => by
    unfold allT
    rw [hp 0 x y rfl rfl, allT_of xs ys (by simpa using h) (fun j r s hr hs => hp (j + 1) r s hr hs)]; rfl
theorem mergeL_no {l : List En} (h : mergeE l ≠ 0) : mergeL l = [] := by unfold mergeL; rw [if_neg h]
theorem fold_vals {P : Req → Prop} : ∀ (t : List En) (m m' : Tab), foldE m t = some m' → (∀ j r, m j = some r → P r) → (∀ x ∈ t, P x.req) → ∀ j r, m' j = some r → P r
  | [], m, m', h, hm, _ => by unfold foldE at h; injection h with h; subst h; exact hm
  | x :: t, m, m', h, hm, ht => by
    unfold foldE at h
    split at h
    · refine fold_vals t (putE m x) m' h (fun j r hr => ?_) (fun y hy => ht y (List.mem_cons_of_mem _ hy))
      unfold putE at hr
      split at hr
      · injection hr with hr; subst hr; exact ht x List.mem_cons_self
      · exact hm j r hr
    · cases h
theorem mergeL_all {P : Req → Prop} {l : List En} (h : ∀ x ∈ l, P x.req) : ∀ r ∈ mergeL l, P r := fun r hr => by
  unfold mergeL at hr
  split at hr
  · split at hr
    · rename_i m hm
      unfold listT at hr
      obtain ⟨j, -, hj⟩ := List.mem_filterMap.1 hr
      exact fold_vals l _ m hm (fun j r h => by cases h) h _ _ hj
    · cases hr
  · cases hr
/-- The rows told again, from n on ahead. -/
def turnR (n : Nat) (rs : List EnR) : List EnR := rs.drop n ++ rs
theorem turn_mem (n : Nat) (rs : List EnR) (x : En) : x ∈ allE rs ↔ x ∈ allE (turnR n rs) := by
  unfold allE turnR
  rw [List.flatMap_append, List.mem_append]
  refine ⟨fun h => .inr h, fun h => ?_⟩
  rcases h with h | h
  · obtain ⟨r, hr, hx⟩ := List.mem_flatMap.1 h
    exact List.mem_flatMap.2 ⟨r, List.mem_of_mem_drop hr, hx⟩
  · exact h
theorem turn_len (n : Nat) (rs : List EnR) : (allE (turnR n rs)).length ≤ 2 * (allE rs).length := by
  have h : (allE (rs.drop n)).length ≤ (allE rs).length := by
    have e : allE rs = allE (rs.take n) ++ allE (rs.drop n) := by
      unfold allE
      rw [← List.flatMap_append, List.take_append_drop]
    rw [e, List.length_append]; omega
  have e : allE (turnR n rs) = allE (rs.drop n) ++ allE rs := by unfold allE turnR; rw [List.flatMap_append]
  rw [e, List.length_append]; omega
theorem ees_of_own2 {w : World} {base : Nat} {e : TypeId} {v : Value} (rs : List EnR) (h : w.ownsRow base e 1 v rs.length (rs.flatMap enrCell)) (hr : ∀ r ∈ rs, Ens w r.1 r.2.1 r.2.2) : ∃ a cap, v = .slice a rs.length cap ∧ EEs w a cap rs := by
  obtain ⟨a, cap, rfl, h1, h2, h3⟩ := ownA_rows rs enrCell (fun _ => rfl) h
  refine ⟨a, cap, rfl, h1, h2, own_none h, fun j hj => ?_⟩
  obtain ⟨g, rfl, hg, hc⟩ := h3 j hj
  have hc0 := hc 0 _ rfl
  refine ⟨g, 0, rfl, hg, ?_, hr _ (List.getElem_mem hj)⟩
  simpa using hc0
theorem ees_mem {w : World} {a : Option Addr} {cap : Nat} {rs : List EnR} (h : EEs w a cap rs) : ∀ r ∈ rs, Ens w r.1 r.2.1 r.2.2 := fun r hr => by
  obtain ⟨j, hj, rfl⟩ := List.mem_iff_getElem.1 hr
  obtain ⟨b, o, -, -, -, hE⟩ := h.at_ j hj
  exact hE
theorem enr_len (rs : List EnR) : (rs.flatMap enrCell).length = rs.length := by
  induction rs with
  | nil => rfl
  | cons x t ih => rw [List.flatMap_cons, List.length_append, ih, List.length_cons]; show 1 + _ = _; omega
theorem enr_one (rs : List EnR) : ∀ u ∈ rs.flatMap enrCell, u.oneCell' = true := fun u hu => by
  obtain ⟨x, -, h⟩ := List.mem_flatMap.1 hu
  simp [enrCell] at h
  subst h; rfl
theorem enr_get (rs : List EnR) (j : Nat) : (rs.flatMap enrCell)[j]? = (rs[j]?).map (fun r => .slice r.1 r.2.2.length r.2.1) := by
  induction rs generalizing j with
  | nil => simp
  | cons x t ih =>
    rw [List.flatMap_cons]
    cases j with
    | zero => rfl
    | succ j =>
      rw [show enrCell x ++ t.flatMap enrCell = (.slice x.1 x.2.2.length x.2.1) :: t.flatMap enrCell from rfl, List.getElem?_cons_succ, List.getElem?_cons_succ, ih]
theorem ees_news {w : World} {a : Option Addr} {cap : Nat} {rs : List EnR} (h : EEs w a cap rs) : ∀ ad, a = some ad → ∀ j u, (rs.flatMap enrCell)[j]? = some u → w.cell? (ad.add j) = some u := fun ad e j u hu => by
  rw [enr_get] at hu
  cases hj : rs[j]? with
  | none => rw [hj] at hu; cases hu
  | some r =>
    rw [hj] at hu
    obtain ⟨hlt, rfl⟩ := List.getElem?_eq_some_iff.1 hj
    obtain ⟨b, o, e2, -, hc, -⟩ := h.at_ j hlt
    rw [e] at e2; injection e2 with e2; subst e2
    rw [addr_add]
    simp only [Option.map_some, Option.some.injEq] at hu
    rw [hc, hu]
/-- What h[n:] is. -/
def cutA (a : Option Addr) (n cap : Nat) : Option Addr := if cap = n then a else a.map (·.add n)
theorem ees_cut {w : World} {a : Option Addr} {cap : Nat} {rs : List EnR} (h : EEs w a cap rs) {n : Nat} (hn : n ≤ rs.length) : EEs w (cutA a n cap) (cap - n) (rs.drop n) := by
  have hle := h.le
  refine ⟨by rw [List.length_drop]; omega, by have := h.small; omega, fun e => ?_, fun j hj => ?_⟩
  · unfold cutA at e
    split at e
    · omega
    · cases a with
      | none => have := h.none_ rfl; omega
      | some ad => cases e
  · rw [List.length_drop] at hj
    obtain ⟨b, o, e, hb, hc, hE⟩ := h.at_ (n + j) (by omega)
    subst e
    have hne : ¬ cap = n := by omega
    refine ⟨b, o + n, ?_, hb, ?_, ?_⟩
    · unfold cutA; rw [if_neg hne]; show some ((⟨b, o, none⟩ : Addr).add n) = _; rw [addr_add]
    · rw [List.getElem_drop, show o + n + j = o + (n + j) by omega]; exact hc
    · rw [List.getElem_drop]; exact hE
end Go.Proofs.Ytekbonciafbjiaa

/- The law SagaOrder: the walk. -/
namespace Go.Proofs.Ytekbonciafbjiaa
open Go.RowKit Go.Lib F64
set_option linter.unusedSimpArgs false
set_option linter.unusedVariables false
attribute [local go_sem] run_store_float
attribute [local go_sem low] EW.cellN EW.frozN alloc_cell_or alloc_froz_or EW.cellF EW.frozF EW.cell1 EW.froz1
attribute [local go_sem] relAt relUpon
theorem turn_n (k : Int) (R : Nat) (h : R ≤ 1048576) : ∃ n : Nat, n ≤ R ∧ wrap64 ((IntKind.u64.wrap k).tmod ((R : Int) + 1)) = (n : Int) := by
  have hU : 0 ≤ IntKind.u64.wrap k := by
    show 0 ≤ k % 18446744073709551616
    exact Int.emod_nonneg _ (by decide)
  generalize IntKind.u64.wrap k = U at *
  have h1 : 0 ≤ U.tmod ((R : Int) + 1) := Int.tmod_nonneg _ hU
  have h2 : U.tmod ((R : Int) + 1) < (R : Int) + 1 := Int.tmod_lt_of_pos _ (by omega)
  generalize U.tmod ((R : Int) + 1) = m at *
  refine ⟨m.toNat, by omega, ?_⟩
  have e : wrap64 m = m := IntWalk.wrap64_in m (by omega)
  rw [e]; omega
theorem cut_slice (ra : Option Addr) (R rc n : Nat) (h : n ≤ R) (W : World) : (Instr.slice 53 (.slice ra R rc) (some (.int .i64 (n : Int))) none none).run Try.prog W = .ok (.slice (cutA ra n rc) (R - n) (rc - n)) W := by
  have e2 : (Try.prog.info? 60).map (·.size) = some 1 := by kernel_rfl
  have e3 : Try.prog.elem 53 = 60 := by kernel_rfl
  rw [run_slice_l (P := Try.prog) W 53 ra R rc (by kernel_rfl) .i64 (n : Int) (by omega) (by omega), e3]
  cases hp : Try.prog.info? 60 with
  | none => rw [hp] at e2; cases e2
  | some i =>
    rw [hp] at e2
    simp only [Option.map_some, Option.some.injEq] at e2
    simp [sizeOf, typeInfo, hp, e2, sliced, cutA]
set_option maxHeartbeats 4000000 in
set_option maxRecDepth 100000 in
theorem walk_SagaOrder (a : Option Addr) (cap : Nat) (l : List (List Ln)) (k : Int) (hk : I64 k) (hlim : l.length ≤ 1048576 ∧ ∀ x ∈ l, x.length ≤ 1048576) (hsum : (allL l).length ≤ 1048576) (w : World) (h : LLs w a cap l) :
    Calls Try.prog 6 #[.slice a l.length cap, .int .i64 k] w fun e w' => e = .returned (.bool true) ∧ Ext Non w w' := by
  have HA := Go.Lib.hid h
  have HLM := Go.Lib.hid hlim
  have HOK := Go.Lib.hid (lls_ok h)
  have hsm := h.small; have hsl := h.le
  have hll := hlim.1
  clear h hlim
  go_enter Try.func6, Try.ntmps6
  go_wp2_with fail
  refine Calls.ew (law22_lives _) ?_
  rintro e x1 rfl
  go_wp2_with fail
  refine (law22_histories a cap l HLM.out _ (by
    exact ⟨HA.out.le, HA.out.small, fun j hj => by
      obtain ⟨b, o, ia, ic, e, hb, c, hL⟩ := HA.out.at_ j hj
      exact ⟨b, o, ia, ic, e, Nat.lt_of_lt_of_le hb x1.ext.size, (x1.ext.cell (p := ⟨b, o + j, none⟩) hb (fun f => f)).trans c, hL.extN x1.ext⟩⟩)).mono ?_
  rintro e _ ⟨ra, rc, rs, rfl, hmap, hE, hx⟩
  obtain ⟨x2, rfl⟩ := hx.ew
  have HE := Go.Lib.hid hE
  have hal := allE_allL hmap
  have hrl : rs.length = l.length := by have := congrArg List.length hmap; simpa using this
  have HOK2 : Hid (∀ x ∈ allE rs, x.ok) := Go.Lib.hid (by rw [hal]; exact HOK.out)
  have hl2 : (allE rs).length ≤ 1048576 := by rw [hal]; omega
  have hrs : rs.length ≤ 1048576 := by omega
  have e1 := hE.small; have e2 := hE.le
  clear hE hx hmap hal hrl HOK HLM HA hsm hsl hll hsum
  have hw1 : IntKind.i64.wrap ((rs.length : Int) + 1) = ((rs.length + 1 : Nat) : Int) := (IntWalk.i64_in _ (by omega)).trans (by omega)
  obtain ⟨n, hn1, hn2⟩ := turn_n k rs.length hrs
  go_upto_region 5 with fail
  rw [hn2]
  have hC := ees_cut HE.out hn1
  have hcs := cut_slice ra rs.length rc n hn1
  have HN1 := Go.Lib.hid (ees_news hC)
  have HN2 := Go.Lib.hid (ees_news HE.out)
  have h1 := enr_len (rs.drop n)
  rw [List.length_drop] at h1
  have HL1 := Go.Lib.hid h1
  have HL2 := Go.Lib.hid (enr_len rs)
  have HO1 := Go.Lib.hid (enr_one (rs.drop n))
  have HO2 := Go.Lib.hid (enr_one rs)
  have HZ1 : Hid (cutA ra n rc = none → rs.length - n = 0 ∧ rc - n = 0) := Go.Lib.hid (fun e => by have q1 := hC.none_ e; have q2 := hC.le; rw [List.length_drop] at q2; omega)
  have HZ2 : Hid (ra = none → rs.length = 0 ∧ rc = 0) := Go.Lib.hid (fun e => by have := HE.out.none_ e; omega)
  have ROW0 : Hid (x2.on.ownsRow x2.on.heap.size 60 1 (.slice none 0 0) 0 []) := Go.Lib.hid (World.ownsRow_nil _ _ _ _)
  clear hC h1
  obtain ⟨ca, hca⟩ : ∃ ca, ca = cutA ra n rc := ⟨_, rfl⟩
  rw [← hca] at hcs HN1 HZ1
  clear hca
  obtain ⟨len1, hlen1⟩ : ∃ len1, len1 = rs.length - n := ⟨_, rfl⟩
  have hlen1b : len1 ≤ 1048576 := by omega
  rw [← hlen1] at hcs HL1 HZ1
  have HLN := Go.Lib.hid hlen1
  clear hlen1
  obtain ⟨nw1, hnw1⟩ : ∃ nw1, nw1 = (rs.drop n).flatMap enrCell := ⟨_, rfl⟩
  obtain ⟨nw2, hnw2⟩ : ∃ nw2, nw2 = rs.flatMap enrCell := ⟨_, rfl⟩
  rw [← hnw1] at HN1 HL1 HO1
  rw [← hnw2] at HN2 HL2 HO2
  have HNW1 := Go.Lib.hid hnw1; have HNW2 := Go.Lib.hid hnw2
  clear hnw1 hnw2
  go_wp2_with (at_builtin; first | (refine wpList_append_listB rfl _ _ 53 rfl x2.on.heap.size 60 1 24 _ Try.underlying53 info_entries (by rfl) (by omega) (.slice none 0 0) 0 [] rfl ROW0.out ca len1 (rc - n) nw1 rfl HZ1.out HN1.out (by rw [HL1.out]; omega) HO1.out (by omega) (by omega) (Nat.le_refl _) (fun v3 W3 hO hrow => ?_); have HP1 := Go.Lib.hid hO; clear hO hrow) | (refine wpList_append_listB rfl _ _ 53 rfl x2.on.heap.size 60 1 24 _ Try.underlying53 info_entries (by rfl) (by omega) v3 (0 + len1) _ rfl HP1.out ra rs.length rc nw2 rfl HZ2.out (fun ad e j u hu => (W3.ext.cell (lt_of_cell (HN2.out ad e j u hu)) (fun q => by have := (own_row ROW0.out _ q).1; have := lt_of_cell (HN2.out ad e j u hu); omega)).trans (HN2.out ad e j u hu)) (by rw [HL2.out]; omega) HO2.out (by omega) (by omega) W3.ext.size (fun v4 W4 hO hrow => ?_); have HP2 := Go.Lib.hid hO; clear hO hrow))
  have X3 : Ext Non x2.on W3.on := (Ext.refl Non x2.on).step W3.ext (fun k hk q => by have := (own_row ROW0.out k q).1; omega)
  have X4 : Ext Non x2.on W4.on := X3.step W4.ext (fun k hk q => by have := (own_row HP1.out k q).1; omega)
  have hOT : W4.on.ownsRow x2.on.heap.size 60 1 v4 (turnR n rs).length ((turnR n rs).flatMap enrCell) := by
    have h1 := HP2.out
    have e1 : (turnR n rs).length = 0 + len1 + rs.length := by unfold turnR; rw [List.length_append, List.length_drop, HLN.out]; omega
    have e2 : (turnR n rs).flatMap enrCell = [] ++ nw1 ++ nw2 := by unfold turnR; rw [List.flatMap_append, HNW1.out, HNW2.out]; rfl
    rw [e1, e2]; exact h1
  have hEm := ees_mem HE.out
  obtain ⟨ta, tc, hv4, hET⟩ := ees_of_own2 (turnR n rs) hOT (fun r hr => by
    have hr2 : r ∈ rs := by
      unfold turnR at hr
      rcases List.mem_append.1 hr with h | h
      · exact List.mem_of_mem_drop h
      · exact h
    exact (hEm r hr2).extN X4)
  subst hv4
  have hE4 := HE.out.extN X4
  have hlt : (allE (turnR n rs)).length ≤ 2097152 := by have := turn_len n rs; omega
  have HMS := Go.Lib.hid (merge_same (turn_mem n rs))
  have HMH := Go.Lib.hid (@merge_has (allE rs))
  have HOK3 : Hid (∀ x ∈ allE (turnR n rs), x.ok) := Go.Lib.hid (fun x hx => HOK2.out x ((turn_mem n rs x).2 hx))
  have HV1 : Hid (∀ r ∈ mergeL (allE rs), ReqOk r) := Go.Lib.hid (mergeL_all (fun x hx => (HOK2.out x hx).2))
  have HV2 : Hid (∀ r ∈ mergeL (allE (turnR n rs)), ReqOk r) := Go.Lib.hid (mergeL_all (fun x hx => (HOK3.out x hx).2))
  have X5 : Ext Non w W4.on := (x1.ext.trans x2.ext).trans X4
  obtain ⟨x3, hx3⟩ := X5.ew
  rw [hx3] at hE4 hET ⊢
  have HE4 := Go.Lib.hid hE4; have HET := Go.Lib.hid hET
  clear hE4 hET hx3 X5 X4 X3 hOT hEm HE HP1 HP2 W4 W3 HZ1 HZ2 HN1 HN2 HL1 HL2 HO1 HO2 ROW0 HNW1 HNW2 hcs hn2 hw1 HLN
  have HIN : Hid (∀ (i j : Nat) (hi : i < rs.length) (hj : j < (rs[i]).2.2.length), (rs[i]).2.2[j] ∈ allE rs) := Go.Lib.hid (fun i j hi hj => by
    unfold allE
    exact List.mem_flatMap.2 ⟨rs[i], List.getElem_mem hi, List.getElem_mem hj⟩)
  generalize turnR n rs = tr at *
  refine (saga_Merge ra rc rs (by omega) HOK2.out _ (HE4.out)).mono ?_
  rintro e _ ⟨v1, rfl, hQ1, hx⟩
  obtain ⟨x4, rfl⟩ := hx.ew
  have HQ1 := Go.Lib.hid hQ1
  clear hQ1 hx
  go_wp2_with fail
  refine (saga_Merge ta tc tr hlt HOK3.out _ (HET.out.extN (by (repeat (first | with_reducible exact Ext.refl _ _ | assumption | with_reducible refine Ext.upN ?_ | with_reducible refine Ext.alloc ?_ _ | with_reducible refine Ext.upA (by assumption) ?_ | with_reducible refine Ext.upW ?_ | with_reducible refine Ext.drew ?_ | with_reducible refine Ext.drewN ?_ _ | with_reducible refine Ext.upF ?_ | with_reducible refine Ext.upFF (by first | omega | simp) ?_ | with_reducible refine Ext.setCellsF _ _ _ (by first | omega | simp) ?_ | with_reducible refine Ext.setCellF _ _ _ (by first | omega | simp) ?_ | with_reducible refine Ext.upFN (by first | omega | simp) ?_ | with_reducible refine Ext.up1F (by first | omega | simp) ?_ | with_reducible refine Ext.up1N (by first | omega | simp) ?_ | with_reducible refine Ext.setCell ?_ (.inr (by first | omega | simp)) _ | refine Ext.alloc ?_ _ | refine Ext.setCellF _ _ _ (by first | omega | simp) ?_ | refine Ext.setCell ?_ (.inr (by first | omega | simp)) _))))).mono ?_
  rintro e _ ⟨v2, rfl, hQ2, hx⟩
  obtain ⟨x5, rfl⟩ := hx.ew
  obtain ⟨a1, c1, rfl, hR1⟩ := reqs_of_own _ HQ1.out
  obtain ⟨a2, c2, rfl, hR2⟩ := reqs_of_own _ hQ2
  have HR1 := Go.Lib.hid (hR1.extN x5.ext)
  have HR2 := Go.Lib.hid hR2
  have HIn : Hid (∀ x ∈ allE rs, x.ok) := HOK2
  clear hQ2 hx hR1 hR2 HQ1
  have HEQ := Go.Lib.hid HMS.out.1
  rw [← HEQ.out]
  by_cases h0 : mergeE (allE rs) = 0
  · have HT : Hid (allT (mergeL (allE rs)) (mergeL (allE tr)) = true) := Go.Lib.hid (by
      obtain ⟨q1, q2⟩ := HMS.out.2 h0
      exact allT_of _ _ q1 q2)
    have HHAS := Go.Lib.hid (HMH.out h0)
    rw [h0]
    generalize mergeL (allE tr) = m2 at *
    obtain ⟨m1, hm1⟩ : ∃ m1, m1 = mergeL (allE rs) := ⟨_, rfl⟩
    rw [← hm1] at HT HHAS HV1 HR1 ⊢
    clear hm1 h0 HMS HMH HEQ
    go_wp2_with fail
    refine Calls.ew (ref16_Same a1 c1 m1 a2 c2 m2 _ (HR1.out.extN (by (repeat (first | with_reducible exact Ext.refl _ _ | assumption | with_reducible refine Ext.upN ?_ | with_reducible refine Ext.alloc ?_ _ | with_reducible refine Ext.upA (by assumption) ?_ | with_reducible refine Ext.upW ?_ | with_reducible refine Ext.drew ?_ | with_reducible refine Ext.drewN ?_ _ | with_reducible refine Ext.upF ?_ | with_reducible refine Ext.upFF (by first | omega | simp) ?_ | with_reducible refine Ext.setCellsF _ _ _ (by first | omega | simp) ?_ | with_reducible refine Ext.setCellF _ _ _ (by first | omega | simp) ?_ | with_reducible refine Ext.upFN (by first | omega | simp) ?_ | with_reducible refine Ext.up1F (by first | omega | simp) ?_ | with_reducible refine Ext.up1N (by first | omega | simp) ?_ | with_reducible refine Ext.setCell ?_ (.inr (by first | omega | simp)) _ | refine Ext.alloc ?_ _ | refine Ext.setCellF _ _ _ (by first | omega | simp) ?_ | refine Ext.setCell ?_ (.inr (by first | omega | simp)) _)))) (HR2.out.extN (by (repeat (first | with_reducible exact Ext.refl _ _ | assumption | with_reducible refine Ext.upN ?_ | with_reducible refine Ext.alloc ?_ _ | with_reducible refine Ext.upA (by assumption) ?_ | with_reducible refine Ext.upW ?_ | with_reducible refine Ext.drew ?_ | with_reducible refine Ext.drewN ?_ _ | with_reducible refine Ext.upF ?_ | with_reducible refine Ext.upFF (by first | omega | simp) ?_ | with_reducible refine Ext.setCellsF _ _ _ (by first | omega | simp) ?_ | with_reducible refine Ext.setCellF _ _ _ (by first | omega | simp) ?_ | with_reducible refine Ext.upFN (by first | omega | simp) ?_ | with_reducible refine Ext.up1F (by first | omega | simp) ?_ | with_reducible refine Ext.up1N (by first | omega | simp) ?_ | with_reducible refine Ext.setCell ?_ (.inr (by first | omega | simp)) _ | refine Ext.alloc ?_ _ | refine Ext.setCellF _ _ _ (by first | omega | simp) ?_ | refine Ext.setCell ?_ (.inr (by first | omega | simp)) _))))) ?_
    rintro e x6 rfl
    cases hsm : allW m1 m2
    · clear hsm
      go_wp2_with fail
      refine Calls.ew (law22_alike a1 c1 m1 a2 c2 m2 HV1.out HV2.out _ (HR1.out.extN (by (repeat (first | with_reducible exact Ext.refl _ _ | assumption | with_reducible refine Ext.upN ?_ | with_reducible refine Ext.alloc ?_ _ | with_reducible refine Ext.upA (by assumption) ?_ | with_reducible refine Ext.upW ?_ | with_reducible refine Ext.drew ?_ | with_reducible refine Ext.drewN ?_ _ | with_reducible refine Ext.upF ?_ | with_reducible refine Ext.upFF (by first | omega | simp) ?_ | with_reducible refine Ext.setCellsF _ _ _ (by first | omega | simp) ?_ | with_reducible refine Ext.setCellF _ _ _ (by first | omega | simp) ?_ | with_reducible refine Ext.upFN (by first | omega | simp) ?_ | with_reducible refine Ext.up1F (by first | omega | simp) ?_ | with_reducible refine Ext.up1N (by first | omega | simp) ?_ | with_reducible refine Ext.setCell ?_ (.inr (by first | omega | simp)) _ | refine Ext.alloc ?_ _ | refine Ext.setCellF _ _ _ (by first | omega | simp) ?_ | refine Ext.setCell ?_ (.inr (by first | omega | simp)) _)))) (HR2.out.extN (by (repeat (first | with_reducible exact Ext.refl _ _ | assumption | with_reducible refine Ext.upN ?_ | with_reducible refine Ext.alloc ?_ _ | with_reducible refine Ext.upA (by assumption) ?_ | with_reducible refine Ext.upW ?_ | with_reducible refine Ext.drew ?_ | with_reducible refine Ext.drewN ?_ _ | with_reducible refine Ext.upF ?_ | with_reducible refine Ext.upFF (by first | omega | simp) ?_ | with_reducible refine Ext.setCellsF _ _ _ (by first | omega | simp) ?_ | with_reducible refine Ext.setCellF _ _ _ (by first | omega | simp) ?_ | with_reducible refine Ext.upFN (by first | omega | simp) ?_ | with_reducible refine Ext.up1F (by first | omega | simp) ?_ | with_reducible refine Ext.up1N (by first | omega | simp) ?_ | with_reducible refine Ext.setCell ?_ (.inr (by first | omega | simp)) _ | refine Ext.alloc ?_ _ | refine Ext.setCellF _ _ _ (by first | omega | simp) ?_ | refine Ext.setCell ?_ (.inr (by first | omega | simp)) _))))) ?_
      rintro e x7 rfl
      rw [HT.out]
      go_wp2_with fail
      go_loopg [12, 13] rs.length (fun n iv jv wr => ∃ (i : Nat) (z : EW Non x7.on), i ≤ rs.length ∧ n = rs.length - i ∧ iv = .int .i64 i ∧ wr = z.on)
      case atStart => exact ⟨0, ⟨_, by (repeat (first | with_reducible exact Ext.refl _ _ | assumption | with_reducible refine Ext.upN ?_ | with_reducible refine Ext.alloc ?_ _ | with_reducible refine Ext.upA (by assumption) ?_ | with_reducible refine Ext.upW ?_ | with_reducible refine Ext.drew ?_ | with_reducible refine Ext.drewN ?_ _ | with_reducible refine Ext.upF ?_ | with_reducible refine Ext.upFF (by first | omega | simp) ?_ | with_reducible refine Ext.setCellsF _ _ _ (by first | omega | simp) ?_ | with_reducible refine Ext.setCellF _ _ _ (by first | omega | simp) ?_ | with_reducible refine Ext.upFN (by first | omega | simp) ?_ | with_reducible refine Ext.up1F (by first | omega | simp) ?_ | with_reducible refine Ext.up1N (by first | omega | simp) ?_ | with_reducible refine Ext.setCell ?_ (.inr (by first | omega | simp)) _ | refine Ext.alloc ?_ _ | refine Ext.setCellF _ _ _ (by first | omega | simp) ?_ | refine Ext.setCell ?_ (.inr (by first | omega | simp)) _))⟩, Nat.zero_le _, rfl, rfl, rfl⟩
      case round =>
        obtain ⟨i, z, hi, hn, rfl, rfl⟩ := hrel
        have HN := Go.Lib.hid hn; clear hn
        by_cases hlt2 : i < rs.length
        · obtain ⟨ab, ao, rfl, hab, hcell, hE⟩ := HE4.out.at_ i hlt2
          have HIE := Go.Lib.hid hE
          have es := hE.small; have el := hE.le
          have HI2 := Go.Lib.hid (fun j hj => HIN.out i j hlt2 hj)
          generalize (rs[i]).2.2 = ln at *
          generalize (rs[i]).1 = ia at *
          generalize (rs[i]).2.1 = ic at *
          clear hE
          go_wp2_with fail
          go_loopg [13] ln.length (fun n jv wr => ∃ (j : Nat) (u : EW Non x7.on), j ≤ ln.length ∧ n = ln.length - j ∧ jv = .int .i64 j ∧ wr = u.on)
          case atStart => exact ⟨0, ⟨_, by (repeat (first | with_reducible exact Ext.refl _ _ | assumption | with_reducible refine Ext.upN ?_ | with_reducible refine Ext.alloc ?_ _ | with_reducible refine Ext.upA (by assumption) ?_ | with_reducible refine Ext.upW ?_ | with_reducible refine Ext.drew ?_ | with_reducible refine Ext.drewN ?_ _ | with_reducible refine Ext.upF ?_ | with_reducible refine Ext.upFF (by first | omega | simp) ?_ | with_reducible refine Ext.setCellsF _ _ _ (by first | omega | simp) ?_ | with_reducible refine Ext.setCellF _ _ _ (by first | omega | simp) ?_ | with_reducible refine Ext.upFN (by first | omega | simp) ?_ | with_reducible refine Ext.up1F (by first | omega | simp) ?_ | with_reducible refine Ext.up1N (by first | omega | simp) ?_ | with_reducible refine Ext.setCell ?_ (.inr (by first | omega | simp)) _ | refine Ext.alloc ?_ _ | refine Ext.setCellF _ _ _ (by first | omega | simp) ?_ | refine Ext.setCell ?_ (.inr (by first | omega | simp)) _))⟩, Nat.zero_le _, rfl, rfl, rfl⟩
          case round =>
            obtain ⟨j, u, hj, hjn, rfl, rfl⟩ := hrel
            have HJ := Go.Lib.hid hjn; clear hjn
            by_cases hjl : j < ln.length
            · obtain ⟨bb, bo, rfl, hbb, hbc⟩ := HIE.out.at_ j hjl
              have hmem := HI2.out j hjl
              have HKR := Go.Lib.hid (HIn.out _ hmem).2
              obtain ⟨g1, g2, r, g3, g4⟩ := HHAS.out _ hmem
              have HRO := Go.Lib.hid (HV1.out r (List.mem_of_getElem? g3))
              clear hmem
              generalize ln[j] = o at *
              obtain ⟨sl, ⟨c, st, ⟨kk, key, x, id⟩⟩⟩ := o
              obtain ⟨s, hs⟩ : ∃ s : Nat, s = (sl - 1).toNat := ⟨_, rfl⟩
              try simp only at g1 g2 g3 g4
              rw [← hs] at g3
              have hsl : s < m1.length := by omega
              obtain ⟨b1, o1, rfl, hb1, k1⟩ := HR1.out.at_ s hsl
              have hr : m1[s] = r := by rw [List.getElem?_eq_getElem hsl] at g3; injection g3
              rw [hr] at k1
              have hw : IntKind.i64.wrap (sl - 1) = (s : Int) := (IntWalk.i64_in _ (by have := HR1.out.small; have := HR1.out.le; omega)).trans (by omega)
              have d1 : decide (sl < 1) = false := decide_eq_false (by omega)
              have d2 : decide ((m1.length : Int) < sl) = false := decide_eq_false (by omega)
              obtain ⟨rc', rst, ⟨rk, rkey, rx, rid⟩⟩ := r
              have HG4 := Go.Lib.hid g4
              have hsm1 : (s : Int) < (m1.length : Int) := by omega
              clear hs g3 g4 hr
              have q0 : x3.on.cell? ⟨bb, bo + j * 7, none⟩ = some (.int .i64 sl) := hbc 0 _ rfl
              have q1 : x3.on.cell? ⟨bb, bo + j * 7 + 1, none⟩ = some (.int .i64 c) := hbc 1 _ rfl
              have q2 : x3.on.cell? ⟨bb, bo + j * 7 + 2, none⟩ = some (.int .i64 st) := hbc 2 _ rfl
              have q3 : x3.on.cell? ⟨bb, bo + j * 7 + 3, none⟩ = some (.int .i64 kk) := hbc 3 _ rfl
              have q4 : x3.on.cell? ⟨bb, bo + j * 7 + 4, none⟩ = some (.string key) := hbc 4 _ rfl
              have q5 : x3.on.cell? ⟨bb, bo + j * 7 + 5, none⟩ = some (.float .f64 x) := hbc 5 _ rfl
              have q6 : x3.on.cell? ⟨bb, bo + j * 7 + 6, none⟩ = some (.int .i64 id) := hbc 6 _ rfl
              have t0 : x5.on.cell? ⟨b1, o1 + s * 6, none⟩ = some (.int .i64 rc') := k1 0 _ rfl
              have t1 : x5.on.cell? ⟨b1, o1 + s * 6 + 1, none⟩ = some (.int .i64 rst) := k1 1 _ rfl
              have t2 : x5.on.cell? ⟨b1, o1 + s * 6 + 2, none⟩ = some (.int .i64 rk) := k1 2 _ rfl
              have t3 : x5.on.cell? ⟨b1, o1 + s * 6 + 3, none⟩ = some (.string rkey) := k1 3 _ rfl
              have t4 : x5.on.cell? ⟨b1, o1 + s * 6 + 4, none⟩ = some (.float .f64 rx) := k1 4 _ rfl
              have t5 : x5.on.cell? ⟨b1, o1 + s * 6 + 5, none⟩ = some (.int .i64 rid) := k1 5 _ rfl
              clear hbc k1
              go_upto_region 19 with (refine wpList_store_box rfl 62 _ _ rfl u.on.heap.size _ [.int .i64 sl, .int .i64 c, .int .i64 st, .int .i64 kk, .string key, .float .f64 x, .int .i64 id] _ rfl rfl (Bx.newAt _ _ _ _ rfl) rfl info_entry7 (by simp [Value.oneCell']) (fun W hB => ?_); have BX := Go.Lib.hid hB; clear hB)
              have XW : Ext Non u.on W.on := by (repeat (first | with_reducible exact Ext.refl _ _ | assumption | with_reducible refine Ext.upN ?_ | with_reducible refine Ext.alloc ?_ _ | with_reducible refine Ext.upA (by assumption) ?_ | with_reducible refine Ext.upW ?_ | with_reducible refine Ext.drew ?_ | with_reducible refine Ext.drewN ?_ _ | with_reducible refine Ext.upF ?_ | with_reducible refine Ext.upFF (by first | omega | simp) ?_ | with_reducible refine Ext.setCellsF _ _ _ (by first | omega | simp) ?_ | with_reducible refine Ext.setCellF _ _ _ (by first | omega | simp) ?_ | with_reducible refine Ext.upFN (by first | omega | simp) ?_ | with_reducible refine Ext.up1F (by first | omega | simp) ?_ | with_reducible refine Ext.up1N (by first | omega | simp) ?_ | with_reducible refine Ext.setCell ?_ (.inr (by first | omega | simp)) _ | refine Ext.alloc ?_ _ | refine Ext.setCellF _ _ _ (by first | omega | simp) ?_ | refine Ext.setCell ?_ (.inr (by first | omega | simp)) _))
              obtain ⟨y5, hy5⟩ := (u.ext.trans XW).ew
              rw [hy5] at BX ⊢
              clear hy5 XW W q0 q1 q2 q3 q4 q5 q6
              try simp only [Act.put]
              generalize u.on.heap.size = kx at *
              have y0 : y5.on.cell? ⟨kx, 0, none⟩ = some (.int .i64 sl) := BX.out.cell rfl
              have y1 : y5.on.cell? ⟨kx, 1, none⟩ = some (.int .i64 c) := BX.out.cell rfl
              have y2 : y5.on.cell? ⟨kx, 2, none⟩ = some (.int .i64 st) := BX.out.cell rfl
              have y3 : y5.on.cell? ⟨kx, 3, none⟩ = some (.int .i64 kk) := BX.out.cell rfl
              have y4 : y5.on.cell? ⟨kx, 4, none⟩ = some (.string key) := BX.out.cell rfl
              have y5' : y5.on.cell? ⟨kx, 5, none⟩ = some (.float .f64 x) := BX.out.cell rfl
              have y6 : y5.on.cell? ⟨kx, 6, none⟩ = some (.int .i64 id) := BX.out.cell rfl
              apply wp_region_rel (relR [Mo.is _, Mo.is _, Mo.is _, Mo.is _, Mo.is _, Mo.is _, Mo.is _, Mo.is _, Mo.is _, Mo.is _, Mo.is _, Mo.is _, Mo.is _, Mo.is _, Mo.is _, Mo.is _, Mo.is _, Mo.is _, Mo.is _, Mo.is _, Mo.is _, Mo.is _]) (by kernel_rfl) (by kernel_rfl) (by kernel_rfl) (relR_mono _) (StepD.all ?st1) ?q1
              case st1 =>
                refine ⟨?_, ?_, ?_, ?_, ?_, ?_, ?_, ?_, ?_, ?_, ?_, ?_, ?_, ?_, ?_, ?_, ?_, ?_, ?_, ?_, ?_, ?_, trivial⟩
                · intro a' w' hx hs hd
                  obtain ⟨y, rfl⟩ := hx.ew
                  have e14 : a'.tmps[14]?.getD undef = _ := hs 14 rfl
                  simp only [List.getElem?_toArray, List.getElem?_cons_succ, List.getElem?_cons_zero, Option.getD_some, Array.getElem?_eq_some_iff] at e14
                  refine .inl ⟨rfl, ?_⟩
                  clear hs hd hx
                  go_simp
                  exact ⟨Ext.refl _ _, rfl⟩
                · intro a' w' hx hs hd
                  obtain ⟨y, rfl⟩ := hx.ew
                  have e89 : a'.tmps[89]?.getD undef = _ := hd 0 89 rfl rfl
                  refine .inl ⟨rfl, ?_⟩
                  clear hs hd hx
                  go_simp
                  exact ⟨Ext.refl _ _, rfl⟩
                · intro a' w' hx hs hd
                  obtain ⟨y, rfl⟩ := hx.ew
                  have e90 : a'.tmps[90]?.getD undef = _ := hd 1 90 rfl rfl
                  refine .inl ⟨rfl, ?_⟩
                  clear hs hd hx
                  go_simp
                  exact ⟨Ext.refl _ _, rfl⟩
                · intro a' w' hx hs hd
                  obtain ⟨y, rfl⟩ := hx.ew
                  have e91 : a'.tmps[91]?.getD undef = _ := hd 2 91 rfl rfl
                  refine .inl ⟨rfl, ?_⟩
                  clear hs hd hx
                  go_simp
                  exact ⟨Ext.refl _ _, rfl⟩
                · intro a' w' hx hs hd
                  obtain ⟨y, rfl⟩ := hx.ew
                  have eg : a'.tmps[92]?.getD undef = _ := hd 3 92 rfl rfl
                  first
                  | (refine .inr ⟨unwanted_of (j := 3) (d := 92) rfl rfl eg (by rfl), ?_⟩; exact (rfl : (Mo.is undef).p undef y.on))
                  | (refine .inr ⟨unwanted_und (j := 3) (d := 92) rfl rfl eg, ?_⟩; exact (rfl : (Mo.is undef).p undef y.on))
                  | (have e14 : a'.tmps[14]?.getD undef = _ := hs 14 rfl; simp only [List.getElem?_toArray, List.getElem?_cons_succ, List.getElem?_cons_zero, Option.getD_some, Array.getElem?_eq_some_iff] at e14; refine .inl ⟨wanted_of (j := 3) (d := 92) rfl rfl eg, ?_⟩; clear hs hd hx eg; go_simp; exact ⟨Ext.refl _ _, rfl⟩)
                · intro a' w' hx hs hd
                  obtain ⟨y, rfl⟩ := hx.ew
                  have eg : a'.tmps[92]?.getD undef = _ := hd 3 92 rfl rfl
                  first
                  | (refine .inr ⟨unwanted_of (j := 3) (d := 92) rfl rfl eg (by rfl), ?_⟩; exact (rfl : (Mo.is undef).p undef y.on))
                  | (refine .inr ⟨unwanted_und (j := 3) (d := 92) rfl rfl eg, ?_⟩; exact (rfl : (Mo.is undef).p undef y.on))
                  | (have e93 : a'.tmps[93]?.getD undef = _ := hd 4 93 rfl rfl; refine .inl ⟨wanted_of (j := 3) (d := 92) rfl rfl eg, ?_⟩; clear hs hd hx eg; go_simp; exact ⟨Ext.refl _ _, rfl⟩)
                · intro a' w' hx hs hd
                  obtain ⟨y, rfl⟩ := hx.ew
                  have eg : a'.tmps[92]?.getD undef = _ := hd 3 92 rfl rfl
                  first
                  | (refine .inr ⟨unwanted_of (j := 3) (d := 92) rfl rfl eg (by rfl), ?_⟩; exact (rfl : (Mo.is undef).p undef y.on))
                  | (refine .inr ⟨unwanted_und (j := 3) (d := 92) rfl rfl eg, ?_⟩; exact (rfl : (Mo.is undef).p undef y.on))
                  | (have e8 : a'.tmps[8]?.getD undef = _ := hs 8 rfl; simp only [List.getElem?_toArray, List.getElem?_cons_succ, List.getElem?_cons_zero, Option.getD_some, Array.getElem?_eq_some_iff] at e8; refine .inl ⟨wanted_of (j := 3) (d := 92) rfl rfl eg, ?_⟩; clear hs hd hx eg; go_simp; exact ⟨Ext.refl _ _, rfl⟩)
                · intro a' w' hx hs hd
                  obtain ⟨y, rfl⟩ := hx.ew
                  have eg : a'.tmps[92]?.getD undef = _ := hd 3 92 rfl rfl
                  first
                  | (refine .inr ⟨unwanted_of (j := 3) (d := 92) rfl rfl eg (by rfl), ?_⟩; exact (rfl : (Mo.is undef).p undef y.on))
                  | (refine .inr ⟨unwanted_und (j := 3) (d := 92) rfl rfl eg, ?_⟩; exact (rfl : (Mo.is undef).p undef y.on))
                  | (have e95 : a'.tmps[95]?.getD undef = _ := hd 6 95 rfl rfl; refine .inl ⟨wanted_of (j := 3) (d := 92) rfl rfl eg, ?_⟩; clear hs hd hx eg; go_simp; exact ⟨Ext.refl _ _, rfl⟩)
                · intro a' w' hx hs hd
                  obtain ⟨y, rfl⟩ := hx.ew
                  have eg : a'.tmps[92]?.getD undef = _ := hd 3 92 rfl rfl
                  first
                  | (refine .inr ⟨unwanted_of (j := 3) (d := 92) rfl rfl eg (by rfl), ?_⟩; exact (rfl : (Mo.is undef).p undef y.on))
                  | (refine .inr ⟨unwanted_und (j := 3) (d := 92) rfl rfl eg, ?_⟩; exact (rfl : (Mo.is undef).p undef y.on))
                  | (have e94 : a'.tmps[94]?.getD undef = _ := hd 5 94 rfl rfl; have e96 : a'.tmps[96]?.getD undef = _ := hd 7 96 rfl rfl; refine .inl ⟨wanted_of (j := 3) (d := 92) rfl rfl eg, ?_⟩; clear hs hd hx eg; go_simp; exact ⟨Ext.refl _ _, rfl⟩)
                · intro a' w' hx hs hd
                  obtain ⟨y, rfl⟩ := hx.ew
                  have e92 : a'.tmps[92]?.getD undef = _ := hd 3 92 rfl rfl
                  have e97 : a'.tmps[97]?.getD undef = _ := hd 8 97 rfl rfl
                  refine .inl ⟨rfl, ?_⟩
                  clear hs hd hx
                  go_simp
                  exact ⟨Ext.refl _ _, rfl⟩
                · intro a' w' hx hs hd
                  obtain ⟨y, rfl⟩ := hx.ew
                  have e98 : a'.tmps[98]?.getD undef = _ := hd 9 98 rfl rfl
                  refine .inl ⟨rfl, ?_⟩
                  clear hs hd hx
                  go_simp
                  exact ⟨Ext.refl _ _, rfl⟩
                · intro a' w' hx hs hd
                  obtain ⟨y, rfl⟩ := hx.ew
                  have eg : a'.tmps[99]?.getD undef = _ := hd 10 99 rfl rfl
                  first
                  | (refine .inr ⟨unwanted_of (j := 10) (d := 99) rfl rfl eg (by rfl), ?_⟩; exact (rfl : (Mo.is undef).p undef y.on))
                  | (refine .inr ⟨unwanted_und (j := 10) (d := 99) rfl rfl eg, ?_⟩; exact (rfl : (Mo.is undef).p undef y.on))
                  | (have e8 : a'.tmps[8]?.getD undef = _ := hs 8 rfl; simp only [List.getElem?_toArray, List.getElem?_cons_succ, List.getElem?_cons_zero, Option.getD_some, Array.getElem?_eq_some_iff] at e8; refine .inl ⟨wanted_of (j := 10) (d := 99) rfl rfl eg, ?_⟩; clear hs hd hx eg; go_simp; exact ⟨Ext.refl _ _, rfl⟩)
                · intro a' w' hx hs hd
                  obtain ⟨y, rfl⟩ := hx.ew
                  have eg : a'.tmps[99]?.getD undef = _ := hd 10 99 rfl rfl
                  first
                  | (refine .inr ⟨unwanted_of (j := 10) (d := 99) rfl rfl eg (by rfl), ?_⟩; exact (rfl : (Mo.is undef).p undef y.on))
                  | (refine .inr ⟨unwanted_und (j := 10) (d := 99) rfl rfl eg, ?_⟩; exact (rfl : (Mo.is undef).p undef y.on))
                  | (have e14 : a'.tmps[14]?.getD undef = _ := hs 14 rfl; simp only [List.getElem?_toArray, List.getElem?_cons_succ, List.getElem?_cons_zero, Option.getD_some, Array.getElem?_eq_some_iff] at e14; refine .inl ⟨wanted_of (j := 10) (d := 99) rfl rfl eg, ?_⟩; clear hs hd hx eg; go_simp; exact ⟨Ext.refl _ _, rfl⟩)
                · intro a' w' hx hs hd
                  obtain ⟨y, rfl⟩ := hx.ew
                  have eg : a'.tmps[99]?.getD undef = _ := hd 10 99 rfl rfl
                  first
                  | (refine .inr ⟨unwanted_of (j := 10) (d := 99) rfl rfl eg (by rfl), ?_⟩; exact (rfl : (Mo.is undef).p undef y.on))
                  | (refine .inr ⟨unwanted_und (j := 10) (d := 99) rfl rfl eg, ?_⟩; exact (rfl : (Mo.is undef).p undef y.on))
                  | (have e101 : a'.tmps[101]?.getD undef = _ := hd 12 101 rfl rfl; refine .inl ⟨wanted_of (j := 10) (d := 99) rfl rfl eg, ?_⟩; clear hs hd hx eg; go_simp; exact ⟨Ext.refl _ _, rfl⟩)
                · intro a' w' hx hs hd
                  obtain ⟨y, rfl⟩ := hx.ew
                  have eg : a'.tmps[99]?.getD undef = _ := hd 10 99 rfl rfl
                  first
                  | (refine .inr ⟨unwanted_of (j := 10) (d := 99) rfl rfl eg (by rfl), ?_⟩; exact (rfl : (Mo.is undef).p undef y.on))
                  | (refine .inr ⟨unwanted_und (j := 10) (d := 99) rfl rfl eg, ?_⟩; exact (rfl : (Mo.is undef).p undef y.on))
                  | (have e102 : a'.tmps[102]?.getD undef = _ := hd 13 102 rfl rfl; refine .inl ⟨wanted_of (j := 10) (d := 99) rfl rfl eg, ?_⟩; clear hs hd hx eg; go_simp; exact ⟨Ext.refl _ _, rfl⟩)
                · intro a' w' hx hs hd
                  obtain ⟨y, rfl⟩ := hx.ew
                  have eg : a'.tmps[99]?.getD undef = _ := hd 10 99 rfl rfl
                  first
                  | (refine .inr ⟨unwanted_of (j := 10) (d := 99) rfl rfl eg (by rfl), ?_⟩; exact (rfl : (Mo.is undef).p undef y.on))
                  | (refine .inr ⟨unwanted_und (j := 10) (d := 99) rfl rfl eg, ?_⟩; exact (rfl : (Mo.is undef).p undef y.on))
                  | (have e100 : a'.tmps[100]?.getD undef = _ := hd 11 100 rfl rfl; have e103 : a'.tmps[103]?.getD undef = _ := hd 14 103 rfl rfl; refine .inl ⟨wanted_of (j := 10) (d := 99) rfl rfl eg, ?_⟩; clear hs hd hx eg; go_simp; exact ⟨Ext.refl _ _, rfl⟩)
                · intro a' w' hx hs hd
                  obtain ⟨y, rfl⟩ := hx.ew
                  have eg : a'.tmps[99]?.getD undef = _ := hd 10 99 rfl rfl
                  first
                  | (refine .inr ⟨unwanted_of (j := 10) (d := 99) rfl rfl eg (by rfl), ?_⟩; exact (rfl : (Mo.is undef).p undef y.on))
                  | (refine .inr ⟨unwanted_und (j := 10) (d := 99) rfl rfl eg, ?_⟩; exact (rfl : (Mo.is undef).p undef y.on))
                  | (have e104 : a'.tmps[104]?.getD undef = _ := hd 15 104 rfl rfl; refine .inl ⟨wanted_of (j := 10) (d := 99) rfl rfl eg, ?_⟩; clear hs hd hx eg; go_simp; exact ⟨Ext.refl _ _, rfl⟩)
                · intro a' w' hx hs hd
                  obtain ⟨y, rfl⟩ := hx.ew
                  have eg : a'.tmps[99]?.getD undef = _ := hd 10 99 rfl rfl
                  first
                  | (refine .inr ⟨unwanted_of (j := 10) (d := 99) rfl rfl eg (by rfl), ?_⟩; exact (rfl : (Mo.is undef).p undef y.on))
                  | (refine .inr ⟨unwanted_und (j := 10) (d := 99) rfl rfl eg, ?_⟩; exact (rfl : (Mo.is undef).p undef y.on))
                  | (have e14 : a'.tmps[14]?.getD undef = _ := hs 14 rfl; simp only [List.getElem?_toArray, List.getElem?_cons_succ, List.getElem?_cons_zero, Option.getD_some, Array.getElem?_eq_some_iff] at e14; refine .inl ⟨wanted_of (j := 10) (d := 99) rfl rfl eg, ?_⟩; clear hs hd hx eg; go_simp; exact ⟨Ext.refl _ _, rfl⟩)
                · intro a' w' hx hs hd
                  obtain ⟨y, rfl⟩ := hx.ew
                  have eg : a'.tmps[99]?.getD undef = _ := hd 10 99 rfl rfl
                  first
                  | (refine .inr ⟨unwanted_of (j := 10) (d := 99) rfl rfl eg (by rfl), ?_⟩; exact (rfl : (Mo.is undef).p undef y.on))
                  | (refine .inr ⟨unwanted_und (j := 10) (d := 99) rfl rfl eg, ?_⟩; exact (rfl : (Mo.is undef).p undef y.on))
                  | (have e106 : a'.tmps[106]?.getD undef = _ := hd 17 106 rfl rfl; refine .inl ⟨wanted_of (j := 10) (d := 99) rfl rfl eg, ?_⟩; clear hs hd hx eg; go_simp; exact ⟨Ext.refl _ _, rfl⟩)
                · intro a' w' hx hs hd
                  obtain ⟨y, rfl⟩ := hx.ew
                  have eg : a'.tmps[99]?.getD undef = _ := hd 10 99 rfl rfl
                  first
                  | (refine .inr ⟨unwanted_of (j := 10) (d := 99) rfl rfl eg (by rfl), ?_⟩; exact (rfl : (Mo.is undef).p undef y.on))
                  | (refine .inr ⟨unwanted_und (j := 10) (d := 99) rfl rfl eg, ?_⟩; exact (rfl : (Mo.is undef).p undef y.on))
                  | (have e105 : a'.tmps[105]?.getD undef = _ := hd 16 105 rfl rfl; have e107 : a'.tmps[107]?.getD undef = _ := hd 18 107 rfl rfl; refine .inl ⟨wanted_of (j := 10) (d := 99) rfl rfl eg, ?_⟩; clear hs hd hx eg; go_simp; exact (ref11_Same rc' rst rk rkey rx rid c st kk key x id HRO.out HKR.out _).mono (fun e w'' ⟨he, hx⟩ => ⟨.bool true, he.trans (congrArg _ (congrArg _ HG4.out)), hx, rfl⟩))
                · intro a' w' hx hs hd
                  obtain ⟨y, rfl⟩ := hx.ew
                  have eg : a'.tmps[99]?.getD undef = _ := hd 10 99 rfl rfl
                  first
                  | (refine .inr ⟨unwanted_of (j := 10) (d := 99) rfl rfl eg (by rfl), ?_⟩; exact (rfl : (Mo.is undef).p undef y.on))
                  | (refine .inr ⟨unwanted_und (j := 10) (d := 99) rfl rfl eg, ?_⟩; exact (rfl : (Mo.is undef).p undef y.on))
                  | (have e108 : a'.tmps[108]?.getD undef = _ := hd 19 108 rfl rfl; refine .inl ⟨wanted_of (j := 10) (d := 99) rfl rfl eg, ?_⟩; clear hs hd hx eg; go_simp; exact ⟨Ext.refl _ _, rfl⟩)
                · intro a' w' hx hs hd
                  obtain ⟨y, rfl⟩ := hx.ew
                  have e99 : a'.tmps[99]?.getD undef = _ := hd 10 99 rfl rfl
                  have e109 : a'.tmps[109]?.getD undef = _ := hd 20 109 rfl rfl
                  refine .inl ⟨rfl, ?_⟩
                  clear hs hd hx
                  go_simp
                  exact ⟨Ext.refl _ _, rfl⟩
              case' q1 =>
                intro vs w' hx hRR
                obtain ⟨yq, rfl⟩ := hx.ew
                have q0 : vs 0 = _ := hRR 0 (by decide)
                have q1 : vs 1 = _ := hRR 1 (by decide)
                have q2 : vs 2 = _ := hRR 2 (by decide)
                have q3 : vs 3 = _ := hRR 3 (by decide)
                have q4 : vs 4 = _ := hRR 4 (by decide)
                have q5 : vs 5 = _ := hRR 5 (by decide)
                have q6 : vs 6 = _ := hRR 6 (by decide)
                have q7 : vs 7 = _ := hRR 7 (by decide)
                have q8 : vs 8 = _ := hRR 8 (by decide)
                have q9 : vs 9 = _ := hRR 9 (by decide)
                have q10 : vs 10 = _ := hRR 10 (by decide)
                have q11 : vs 11 = _ := hRR 11 (by decide)
                have q12 : vs 12 = _ := hRR 12 (by decide)
                have q13 : vs 13 = _ := hRR 13 (by decide)
                have q14 : vs 14 = _ := hRR 14 (by decide)
                have q15 : vs 15 = _ := hRR 15 (by decide)
                have q16 : vs 16 = _ := hRR 16 (by decide)
                have q17 : vs 17 = _ := hRR 17 (by decide)
                have q18 : vs 18 = _ := hRR 18 (by decide)
                have q19 : vs 19 = _ := hRR 19 (by decide)
                have q20 : vs 20 = _ := hRR 20 (by decide)
                have q21 : vs 21 = _ := hRR 21 (by decide)
                clear hRR hx
                simp only [putAll, List.take_succ_cons, List.take_zero, List.drop_succ_cons, List.drop_zero, Act.put, List.setIfInBounds_toArray, List.set_cons_zero, List.set_cons_succ, Nat.reduceAdd, Nat.zero_add]
                simp only [q0, q1, q2, q3, q4, q5, q6, q7, q8, q9, q10, q11, q12, q13, q14, q15, q16, q17, q18, q19, q20, q21]
                clear q0 q1 q2 q3 q4 q5 q6 q7 q8 q9 q10 q11 q12 q13 q14 q15 q16 q17 q18 q19 q20 q21 vs
              clear y0 y1 y2 y3 y4 y5' y6 t0 t1 t2 t3 t4 t5
              go_wp2_with fail
              go_roundg (ln.length - (j + 1))
              case measure => have := HJ.out; omega
              case rel => exact ⟨j + 1, ⟨_, by (repeat (first | with_reducible exact Ext.refl _ _ | assumption | with_reducible refine Ext.upN ?_ | with_reducible refine Ext.alloc ?_ _ | with_reducible refine Ext.upA (by assumption) ?_ | with_reducible refine Ext.upW ?_ | with_reducible refine Ext.drew ?_ | with_reducible refine Ext.drewN ?_ _ | with_reducible refine Ext.upF ?_ | with_reducible refine Ext.upFF (by first | omega | simp) ?_ | with_reducible refine Ext.setCellsF _ _ _ (by first | omega | simp) ?_ | with_reducible refine Ext.setCellF _ _ _ (by first | omega | simp) ?_ | with_reducible refine Ext.upFN (by first | omega | simp) ?_ | with_reducible refine Ext.up1F (by first | omega | simp) ?_ | with_reducible refine Ext.up1N (by first | omega | simp) ?_ | with_reducible refine Ext.setCell ?_ (.inr (by first | omega | simp)) _ | refine Ext.alloc ?_ _ | refine Ext.setCellF _ _ _ (by first | omega | simp) ?_ | refine Ext.setCell ?_ (.inr (by first | omega | simp)) _))⟩, hjl, rfl, by go_num, rfl⟩
            · obtain rfl : j = ln.length := by omega
              go_wp2_with fail
              go_roundg (rs.length - (i + 1))
              case measure => have := HN.out; omega
              case rel => exact ⟨i + 1, ⟨_, by (repeat (first | with_reducible exact Ext.refl _ _ | assumption | with_reducible refine Ext.upN ?_ | with_reducible refine Ext.alloc ?_ _ | with_reducible refine Ext.upA (by assumption) ?_ | with_reducible refine Ext.upW ?_ | with_reducible refine Ext.drew ?_ | with_reducible refine Ext.drewN ?_ _ | with_reducible refine Ext.upF ?_ | with_reducible refine Ext.upFF (by first | omega | simp) ?_ | with_reducible refine Ext.setCellsF _ _ _ (by first | omega | simp) ?_ | with_reducible refine Ext.setCellF _ _ _ (by first | omega | simp) ?_ | with_reducible refine Ext.upFN (by first | omega | simp) ?_ | with_reducible refine Ext.up1F (by first | omega | simp) ?_ | with_reducible refine Ext.up1N (by first | omega | simp) ?_ | with_reducible refine Ext.setCell ?_ (.inr (by first | omega | simp)) _ | refine Ext.alloc ?_ _ | refine Ext.setCellF _ _ _ (by first | omega | simp) ?_ | refine Ext.setCell ?_ (.inr (by first | omega | simp)) _))⟩, hlt2, rfl, by go_num, rfl⟩
        · obtain rfl : i = rs.length := by omega
          go_wp2
          go_ret
          exact ⟨rfl, by (repeat (first | with_reducible exact Ext.refl _ _ | assumption | with_reducible refine Ext.upN ?_ | with_reducible refine Ext.alloc ?_ _ | with_reducible refine Ext.upA (by assumption) ?_ | with_reducible refine Ext.upW ?_ | with_reducible refine Ext.drew ?_ | with_reducible refine Ext.drewN ?_ _ | with_reducible refine Ext.upF ?_ | with_reducible refine Ext.upFF (by first | omega | simp) ?_ | with_reducible refine Ext.setCellsF _ _ _ (by first | omega | simp) ?_ | with_reducible refine Ext.setCellF _ _ _ (by first | omega | simp) ?_ | with_reducible refine Ext.upFN (by first | omega | simp) ?_ | with_reducible refine Ext.up1F (by first | omega | simp) ?_ | with_reducible refine Ext.up1N (by first | omega | simp) ?_ | with_reducible refine Ext.setCell ?_ (.inr (by first | omega | simp)) _ | refine Ext.alloc ?_ _ | refine Ext.setCellF _ _ _ (by first | omega | simp) ?_ | refine Ext.setCell ?_ (.inr (by first | omega | simp)) _))⟩
    · clear hsm
      go_wp2_with fail
      go_loopg [12, 13] rs.length (fun n iv jv wr => ∃ (i : Nat) (z : EW Non x6.on), i ≤ rs.length ∧ n = rs.length - i ∧ iv = .int .i64 i ∧ wr = z.on)
      case atStart => exact ⟨0, ⟨_, by (repeat (first | with_reducible exact Ext.refl _ _ | assumption | with_reducible refine Ext.upN ?_ | with_reducible refine Ext.alloc ?_ _ | with_reducible refine Ext.upA (by assumption) ?_ | with_reducible refine Ext.upW ?_ | with_reducible refine Ext.drew ?_ | with_reducible refine Ext.drewN ?_ _ | with_reducible refine Ext.upF ?_ | with_reducible refine Ext.upFF (by first | omega | simp) ?_ | with_reducible refine Ext.setCellsF _ _ _ (by first | omega | simp) ?_ | with_reducible refine Ext.setCellF _ _ _ (by first | omega | simp) ?_ | with_reducible refine Ext.upFN (by first | omega | simp) ?_ | with_reducible refine Ext.up1F (by first | omega | simp) ?_ | with_reducible refine Ext.up1N (by first | omega | simp) ?_ | with_reducible refine Ext.setCell ?_ (.inr (by first | omega | simp)) _ | refine Ext.alloc ?_ _ | refine Ext.setCellF _ _ _ (by first | omega | simp) ?_ | refine Ext.setCell ?_ (.inr (by first | omega | simp)) _))⟩, Nat.zero_le _, rfl, rfl, rfl⟩
      case round =>
        obtain ⟨i, z, hi, hn, rfl, rfl⟩ := hrel
        have HN := Go.Lib.hid hn; clear hn
        by_cases hlt2 : i < rs.length
        · obtain ⟨ab, ao, rfl, hab, hcell, hE⟩ := HE4.out.at_ i hlt2
          have HIE := Go.Lib.hid hE
          have es := hE.small; have el := hE.le
          have HI2 := Go.Lib.hid (fun j hj => HIN.out i j hlt2 hj)
          generalize (rs[i]).2.2 = ln at *
          generalize (rs[i]).1 = ia at *
          generalize (rs[i]).2.1 = ic at *
          clear hE
          go_wp2_with fail
          go_loopg [13] ln.length (fun n jv wr => ∃ (j : Nat) (u : EW Non x6.on), j ≤ ln.length ∧ n = ln.length - j ∧ jv = .int .i64 j ∧ wr = u.on)
          case atStart => exact ⟨0, ⟨_, by (repeat (first | with_reducible exact Ext.refl _ _ | assumption | with_reducible refine Ext.upN ?_ | with_reducible refine Ext.alloc ?_ _ | with_reducible refine Ext.upA (by assumption) ?_ | with_reducible refine Ext.upW ?_ | with_reducible refine Ext.drew ?_ | with_reducible refine Ext.drewN ?_ _ | with_reducible refine Ext.upF ?_ | with_reducible refine Ext.upFF (by first | omega | simp) ?_ | with_reducible refine Ext.setCellsF _ _ _ (by first | omega | simp) ?_ | with_reducible refine Ext.setCellF _ _ _ (by first | omega | simp) ?_ | with_reducible refine Ext.upFN (by first | omega | simp) ?_ | with_reducible refine Ext.up1F (by first | omega | simp) ?_ | with_reducible refine Ext.up1N (by first | omega | simp) ?_ | with_reducible refine Ext.setCell ?_ (.inr (by first | omega | simp)) _ | refine Ext.alloc ?_ _ | refine Ext.setCellF _ _ _ (by first | omega | simp) ?_ | refine Ext.setCell ?_ (.inr (by first | omega | simp)) _))⟩, Nat.zero_le _, rfl, rfl, rfl⟩
          case round =>
            obtain ⟨j, u, hj, hjn, rfl, rfl⟩ := hrel
            have HJ := Go.Lib.hid hjn; clear hjn
            by_cases hjl : j < ln.length
            · obtain ⟨bb, bo, rfl, hbb, hbc⟩ := HIE.out.at_ j hjl
              have hmem := HI2.out j hjl
              have HKR := Go.Lib.hid (HIn.out _ hmem).2
              obtain ⟨g1, g2, r, g3, g4⟩ := HHAS.out _ hmem
              have HRO := Go.Lib.hid (HV1.out r (List.mem_of_getElem? g3))
              clear hmem
              generalize ln[j] = o at *
              obtain ⟨sl, ⟨c, st, ⟨kk, key, x, id⟩⟩⟩ := o
              obtain ⟨s, hs⟩ : ∃ s : Nat, s = (sl - 1).toNat := ⟨_, rfl⟩
              try simp only at g1 g2 g3 g4
              rw [← hs] at g3
              have hsl : s < m1.length := by omega
              obtain ⟨b1, o1, rfl, hb1, k1⟩ := HR1.out.at_ s hsl
              have hr : m1[s] = r := by rw [List.getElem?_eq_getElem hsl] at g3; injection g3
              rw [hr] at k1
              have hw : IntKind.i64.wrap (sl - 1) = (s : Int) := (IntWalk.i64_in _ (by have := HR1.out.small; have := HR1.out.le; omega)).trans (by omega)
              have d1 : decide (sl < 1) = false := decide_eq_false (by omega)
              have d2 : decide ((m1.length : Int) < sl) = false := decide_eq_false (by omega)
              obtain ⟨rc', rst, ⟨rk, rkey, rx, rid⟩⟩ := r
              have HG4 := Go.Lib.hid g4
              have hsm1 : (s : Int) < (m1.length : Int) := by omega
              clear hs g3 g4 hr
              have q0 : x3.on.cell? ⟨bb, bo + j * 7, none⟩ = some (.int .i64 sl) := hbc 0 _ rfl
              have q1 : x3.on.cell? ⟨bb, bo + j * 7 + 1, none⟩ = some (.int .i64 c) := hbc 1 _ rfl
              have q2 : x3.on.cell? ⟨bb, bo + j * 7 + 2, none⟩ = some (.int .i64 st) := hbc 2 _ rfl
              have q3 : x3.on.cell? ⟨bb, bo + j * 7 + 3, none⟩ = some (.int .i64 kk) := hbc 3 _ rfl
              have q4 : x3.on.cell? ⟨bb, bo + j * 7 + 4, none⟩ = some (.string key) := hbc 4 _ rfl
              have q5 : x3.on.cell? ⟨bb, bo + j * 7 + 5, none⟩ = some (.float .f64 x) := hbc 5 _ rfl
              have q6 : x3.on.cell? ⟨bb, bo + j * 7 + 6, none⟩ = some (.int .i64 id) := hbc 6 _ rfl
              have t0 : x5.on.cell? ⟨b1, o1 + s * 6, none⟩ = some (.int .i64 rc') := k1 0 _ rfl
              have t1 : x5.on.cell? ⟨b1, o1 + s * 6 + 1, none⟩ = some (.int .i64 rst) := k1 1 _ rfl
              have t2 : x5.on.cell? ⟨b1, o1 + s * 6 + 2, none⟩ = some (.int .i64 rk) := k1 2 _ rfl
              have t3 : x5.on.cell? ⟨b1, o1 + s * 6 + 3, none⟩ = some (.string rkey) := k1 3 _ rfl
              have t4 : x5.on.cell? ⟨b1, o1 + s * 6 + 4, none⟩ = some (.float .f64 rx) := k1 4 _ rfl
              have t5 : x5.on.cell? ⟨b1, o1 + s * 6 + 5, none⟩ = some (.int .i64 rid) := k1 5 _ rfl
              clear hbc k1
              go_upto_region 19 with (refine wpList_store_box rfl 62 _ _ rfl u.on.heap.size _ [.int .i64 sl, .int .i64 c, .int .i64 st, .int .i64 kk, .string key, .float .f64 x, .int .i64 id] _ rfl rfl (Bx.newAt _ _ _ _ rfl) rfl info_entry7 (by simp [Value.oneCell']) (fun W hB => ?_); have BX := Go.Lib.hid hB; clear hB)
              have XW : Ext Non u.on W.on := by (repeat (first | with_reducible exact Ext.refl _ _ | assumption | with_reducible refine Ext.upN ?_ | with_reducible refine Ext.alloc ?_ _ | with_reducible refine Ext.upA (by assumption) ?_ | with_reducible refine Ext.upW ?_ | with_reducible refine Ext.drew ?_ | with_reducible refine Ext.drewN ?_ _ | with_reducible refine Ext.upF ?_ | with_reducible refine Ext.upFF (by first | omega | simp) ?_ | with_reducible refine Ext.setCellsF _ _ _ (by first | omega | simp) ?_ | with_reducible refine Ext.setCellF _ _ _ (by first | omega | simp) ?_ | with_reducible refine Ext.upFN (by first | omega | simp) ?_ | with_reducible refine Ext.up1F (by first | omega | simp) ?_ | with_reducible refine Ext.up1N (by first | omega | simp) ?_ | with_reducible refine Ext.setCell ?_ (.inr (by first | omega | simp)) _ | refine Ext.alloc ?_ _ | refine Ext.setCellF _ _ _ (by first | omega | simp) ?_ | refine Ext.setCell ?_ (.inr (by first | omega | simp)) _))
              obtain ⟨y5, hy5⟩ := (u.ext.trans XW).ew
              rw [hy5] at BX ⊢
              clear hy5 XW W q0 q1 q2 q3 q4 q5 q6
              try simp only [Act.put]
              generalize u.on.heap.size = kx at *
              have y0 : y5.on.cell? ⟨kx, 0, none⟩ = some (.int .i64 sl) := BX.out.cell rfl
              have y1 : y5.on.cell? ⟨kx, 1, none⟩ = some (.int .i64 c) := BX.out.cell rfl
              have y2 : y5.on.cell? ⟨kx, 2, none⟩ = some (.int .i64 st) := BX.out.cell rfl
              have y3 : y5.on.cell? ⟨kx, 3, none⟩ = some (.int .i64 kk) := BX.out.cell rfl
              have y4 : y5.on.cell? ⟨kx, 4, none⟩ = some (.string key) := BX.out.cell rfl
              have y5' : y5.on.cell? ⟨kx, 5, none⟩ = some (.float .f64 x) := BX.out.cell rfl
              have y6 : y5.on.cell? ⟨kx, 6, none⟩ = some (.int .i64 id) := BX.out.cell rfl
              apply wp_region_rel (relR [Mo.is _, Mo.is _, Mo.is _, Mo.is _, Mo.is _, Mo.is _, Mo.is _, Mo.is _, Mo.is _, Mo.is _, Mo.is _, Mo.is _, Mo.is _, Mo.is _, Mo.is _, Mo.is _, Mo.is _, Mo.is _, Mo.is _, Mo.is _, Mo.is _, Mo.is _]) (by kernel_rfl) (by kernel_rfl) (by kernel_rfl) (relR_mono _) (StepD.all ?st2) ?q2
              case st2 =>
                refine ⟨?_, ?_, ?_, ?_, ?_, ?_, ?_, ?_, ?_, ?_, ?_, ?_, ?_, ?_, ?_, ?_, ?_, ?_, ?_, ?_, ?_, ?_, trivial⟩
                · intro a' w' hx hs hd
                  obtain ⟨y, rfl⟩ := hx.ew
                  have e14 : a'.tmps[14]?.getD undef = _ := hs 14 rfl
                  simp only [List.getElem?_toArray, List.getElem?_cons_succ, List.getElem?_cons_zero, Option.getD_some, Array.getElem?_eq_some_iff] at e14
                  refine .inl ⟨rfl, ?_⟩
                  clear hs hd hx
                  go_simp
                  exact ⟨Ext.refl _ _, rfl⟩
                · intro a' w' hx hs hd
                  obtain ⟨y, rfl⟩ := hx.ew
                  have e89 : a'.tmps[89]?.getD undef = _ := hd 0 89 rfl rfl
                  refine .inl ⟨rfl, ?_⟩
                  clear hs hd hx
                  go_simp
                  exact ⟨Ext.refl _ _, rfl⟩
                · intro a' w' hx hs hd
                  obtain ⟨y, rfl⟩ := hx.ew
                  have e90 : a'.tmps[90]?.getD undef = _ := hd 1 90 rfl rfl
                  refine .inl ⟨rfl, ?_⟩
                  clear hs hd hx
                  go_simp
                  exact ⟨Ext.refl _ _, rfl⟩
                · intro a' w' hx hs hd
                  obtain ⟨y, rfl⟩ := hx.ew
                  have e91 : a'.tmps[91]?.getD undef = _ := hd 2 91 rfl rfl
                  refine .inl ⟨rfl, ?_⟩
                  clear hs hd hx
                  go_simp
                  exact ⟨Ext.refl _ _, rfl⟩
                · intro a' w' hx hs hd
                  obtain ⟨y, rfl⟩ := hx.ew
                  have eg : a'.tmps[92]?.getD undef = _ := hd 3 92 rfl rfl
                  first
                  | (refine .inr ⟨unwanted_of (j := 3) (d := 92) rfl rfl eg (by rfl), ?_⟩; exact (rfl : (Mo.is undef).p undef y.on))
                  | (refine .inr ⟨unwanted_und (j := 3) (d := 92) rfl rfl eg, ?_⟩; exact (rfl : (Mo.is undef).p undef y.on))
                  | (have e14 : a'.tmps[14]?.getD undef = _ := hs 14 rfl; simp only [List.getElem?_toArray, List.getElem?_cons_succ, List.getElem?_cons_zero, Option.getD_some, Array.getElem?_eq_some_iff] at e14; refine .inl ⟨wanted_of (j := 3) (d := 92) rfl rfl eg, ?_⟩; clear hs hd hx eg; go_simp; exact ⟨Ext.refl _ _, rfl⟩)
                · intro a' w' hx hs hd
                  obtain ⟨y, rfl⟩ := hx.ew
                  have eg : a'.tmps[92]?.getD undef = _ := hd 3 92 rfl rfl
                  first
                  | (refine .inr ⟨unwanted_of (j := 3) (d := 92) rfl rfl eg (by rfl), ?_⟩; exact (rfl : (Mo.is undef).p undef y.on))
                  | (refine .inr ⟨unwanted_und (j := 3) (d := 92) rfl rfl eg, ?_⟩; exact (rfl : (Mo.is undef).p undef y.on))
                  | (have e93 : a'.tmps[93]?.getD undef = _ := hd 4 93 rfl rfl; refine .inl ⟨wanted_of (j := 3) (d := 92) rfl rfl eg, ?_⟩; clear hs hd hx eg; go_simp; exact ⟨Ext.refl _ _, rfl⟩)
                · intro a' w' hx hs hd
                  obtain ⟨y, rfl⟩ := hx.ew
                  have eg : a'.tmps[92]?.getD undef = _ := hd 3 92 rfl rfl
                  first
                  | (refine .inr ⟨unwanted_of (j := 3) (d := 92) rfl rfl eg (by rfl), ?_⟩; exact (rfl : (Mo.is undef).p undef y.on))
                  | (refine .inr ⟨unwanted_und (j := 3) (d := 92) rfl rfl eg, ?_⟩; exact (rfl : (Mo.is undef).p undef y.on))
                  | (have e8 : a'.tmps[8]?.getD undef = _ := hs 8 rfl; simp only [List.getElem?_toArray, List.getElem?_cons_succ, List.getElem?_cons_zero, Option.getD_some, Array.getElem?_eq_some_iff] at e8; refine .inl ⟨wanted_of (j := 3) (d := 92) rfl rfl eg, ?_⟩; clear hs hd hx eg; go_simp; exact ⟨Ext.refl _ _, rfl⟩)
                · intro a' w' hx hs hd
                  obtain ⟨y, rfl⟩ := hx.ew
                  have eg : a'.tmps[92]?.getD undef = _ := hd 3 92 rfl rfl
                  first
                  | (refine .inr ⟨unwanted_of (j := 3) (d := 92) rfl rfl eg (by rfl), ?_⟩; exact (rfl : (Mo.is undef).p undef y.on))
                  | (refine .inr ⟨unwanted_und (j := 3) (d := 92) rfl rfl eg, ?_⟩; exact (rfl : (Mo.is undef).p undef y.on))
                  | (have e95 : a'.tmps[95]?.getD undef = _ := hd 6 95 rfl rfl; refine .inl ⟨wanted_of (j := 3) (d := 92) rfl rfl eg, ?_⟩; clear hs hd hx eg; go_simp; exact ⟨Ext.refl _ _, rfl⟩)
                · intro a' w' hx hs hd
                  obtain ⟨y, rfl⟩ := hx.ew
                  have eg : a'.tmps[92]?.getD undef = _ := hd 3 92 rfl rfl
                  first
                  | (refine .inr ⟨unwanted_of (j := 3) (d := 92) rfl rfl eg (by rfl), ?_⟩; exact (rfl : (Mo.is undef).p undef y.on))
                  | (refine .inr ⟨unwanted_und (j := 3) (d := 92) rfl rfl eg, ?_⟩; exact (rfl : (Mo.is undef).p undef y.on))
                  | (have e94 : a'.tmps[94]?.getD undef = _ := hd 5 94 rfl rfl; have e96 : a'.tmps[96]?.getD undef = _ := hd 7 96 rfl rfl; refine .inl ⟨wanted_of (j := 3) (d := 92) rfl rfl eg, ?_⟩; clear hs hd hx eg; go_simp; exact ⟨Ext.refl _ _, rfl⟩)
                · intro a' w' hx hs hd
                  obtain ⟨y, rfl⟩ := hx.ew
                  have e92 : a'.tmps[92]?.getD undef = _ := hd 3 92 rfl rfl
                  have e97 : a'.tmps[97]?.getD undef = _ := hd 8 97 rfl rfl
                  refine .inl ⟨rfl, ?_⟩
                  clear hs hd hx
                  go_simp
                  exact ⟨Ext.refl _ _, rfl⟩
                · intro a' w' hx hs hd
                  obtain ⟨y, rfl⟩ := hx.ew
                  have e98 : a'.tmps[98]?.getD undef = _ := hd 9 98 rfl rfl
                  refine .inl ⟨rfl, ?_⟩
                  clear hs hd hx
                  go_simp
                  exact ⟨Ext.refl _ _, rfl⟩
                · intro a' w' hx hs hd
                  obtain ⟨y, rfl⟩ := hx.ew
                  have eg : a'.tmps[99]?.getD undef = _ := hd 10 99 rfl rfl
                  first
                  | (refine .inr ⟨unwanted_of (j := 10) (d := 99) rfl rfl eg (by rfl), ?_⟩; exact (rfl : (Mo.is undef).p undef y.on))
                  | (refine .inr ⟨unwanted_und (j := 10) (d := 99) rfl rfl eg, ?_⟩; exact (rfl : (Mo.is undef).p undef y.on))
                  | (have e8 : a'.tmps[8]?.getD undef = _ := hs 8 rfl; simp only [List.getElem?_toArray, List.getElem?_cons_succ, List.getElem?_cons_zero, Option.getD_some, Array.getElem?_eq_some_iff] at e8; refine .inl ⟨wanted_of (j := 10) (d := 99) rfl rfl eg, ?_⟩; clear hs hd hx eg; go_simp; exact ⟨Ext.refl _ _, rfl⟩)
                · intro a' w' hx hs hd
                  obtain ⟨y, rfl⟩ := hx.ew
                  have eg : a'.tmps[99]?.getD undef = _ := hd 10 99 rfl rfl
                  first
                  | (refine .inr ⟨unwanted_of (j := 10) (d := 99) rfl rfl eg (by rfl), ?_⟩; exact (rfl : (Mo.is undef).p undef y.on))
                  | (refine .inr ⟨unwanted_und (j := 10) (d := 99) rfl rfl eg, ?_⟩; exact (rfl : (Mo.is undef).p undef y.on))
                  | (have e14 : a'.tmps[14]?.getD undef = _ := hs 14 rfl; simp only [List.getElem?_toArray, List.getElem?_cons_succ, List.getElem?_cons_zero, Option.getD_some, Array.getElem?_eq_some_iff] at e14; refine .inl ⟨wanted_of (j := 10) (d := 99) rfl rfl eg, ?_⟩; clear hs hd hx eg; go_simp; exact ⟨Ext.refl _ _, rfl⟩)
                · intro a' w' hx hs hd
                  obtain ⟨y, rfl⟩ := hx.ew
                  have eg : a'.tmps[99]?.getD undef = _ := hd 10 99 rfl rfl
                  first
                  | (refine .inr ⟨unwanted_of (j := 10) (d := 99) rfl rfl eg (by rfl), ?_⟩; exact (rfl : (Mo.is undef).p undef y.on))
                  | (refine .inr ⟨unwanted_und (j := 10) (d := 99) rfl rfl eg, ?_⟩; exact (rfl : (Mo.is undef).p undef y.on))
                  | (have e101 : a'.tmps[101]?.getD undef = _ := hd 12 101 rfl rfl; refine .inl ⟨wanted_of (j := 10) (d := 99) rfl rfl eg, ?_⟩; clear hs hd hx eg; go_simp; exact ⟨Ext.refl _ _, rfl⟩)
                · intro a' w' hx hs hd
                  obtain ⟨y, rfl⟩ := hx.ew
                  have eg : a'.tmps[99]?.getD undef = _ := hd 10 99 rfl rfl
                  first
                  | (refine .inr ⟨unwanted_of (j := 10) (d := 99) rfl rfl eg (by rfl), ?_⟩; exact (rfl : (Mo.is undef).p undef y.on))
                  | (refine .inr ⟨unwanted_und (j := 10) (d := 99) rfl rfl eg, ?_⟩; exact (rfl : (Mo.is undef).p undef y.on))
                  | (have e102 : a'.tmps[102]?.getD undef = _ := hd 13 102 rfl rfl; refine .inl ⟨wanted_of (j := 10) (d := 99) rfl rfl eg, ?_⟩; clear hs hd hx eg; go_simp; exact ⟨Ext.refl _ _, rfl⟩)
                · intro a' w' hx hs hd
                  obtain ⟨y, rfl⟩ := hx.ew
                  have eg : a'.tmps[99]?.getD undef = _ := hd 10 99 rfl rfl
                  first
                  | (refine .inr ⟨unwanted_of (j := 10) (d := 99) rfl rfl eg (by rfl), ?_⟩; exact (rfl : (Mo.is undef).p undef y.on))
                  | (refine .inr ⟨unwanted_und (j := 10) (d := 99) rfl rfl eg, ?_⟩; exact (rfl : (Mo.is undef).p undef y.on))
                  | (have e100 : a'.tmps[100]?.getD undef = _ := hd 11 100 rfl rfl; have e103 : a'.tmps[103]?.getD undef = _ := hd 14 103 rfl rfl; refine .inl ⟨wanted_of (j := 10) (d := 99) rfl rfl eg, ?_⟩; clear hs hd hx eg; go_simp; exact ⟨Ext.refl _ _, rfl⟩)
                · intro a' w' hx hs hd
                  obtain ⟨y, rfl⟩ := hx.ew
                  have eg : a'.tmps[99]?.getD undef = _ := hd 10 99 rfl rfl
                  first
                  | (refine .inr ⟨unwanted_of (j := 10) (d := 99) rfl rfl eg (by rfl), ?_⟩; exact (rfl : (Mo.is undef).p undef y.on))
                  | (refine .inr ⟨unwanted_und (j := 10) (d := 99) rfl rfl eg, ?_⟩; exact (rfl : (Mo.is undef).p undef y.on))
                  | (have e104 : a'.tmps[104]?.getD undef = _ := hd 15 104 rfl rfl; refine .inl ⟨wanted_of (j := 10) (d := 99) rfl rfl eg, ?_⟩; clear hs hd hx eg; go_simp; exact ⟨Ext.refl _ _, rfl⟩)
                · intro a' w' hx hs hd
                  obtain ⟨y, rfl⟩ := hx.ew
                  have eg : a'.tmps[99]?.getD undef = _ := hd 10 99 rfl rfl
                  first
                  | (refine .inr ⟨unwanted_of (j := 10) (d := 99) rfl rfl eg (by rfl), ?_⟩; exact (rfl : (Mo.is undef).p undef y.on))
                  | (refine .inr ⟨unwanted_und (j := 10) (d := 99) rfl rfl eg, ?_⟩; exact (rfl : (Mo.is undef).p undef y.on))
                  | (have e14 : a'.tmps[14]?.getD undef = _ := hs 14 rfl; simp only [List.getElem?_toArray, List.getElem?_cons_succ, List.getElem?_cons_zero, Option.getD_some, Array.getElem?_eq_some_iff] at e14; refine .inl ⟨wanted_of (j := 10) (d := 99) rfl rfl eg, ?_⟩; clear hs hd hx eg; go_simp; exact ⟨Ext.refl _ _, rfl⟩)
                · intro a' w' hx hs hd
                  obtain ⟨y, rfl⟩ := hx.ew
                  have eg : a'.tmps[99]?.getD undef = _ := hd 10 99 rfl rfl
                  first
                  | (refine .inr ⟨unwanted_of (j := 10) (d := 99) rfl rfl eg (by rfl), ?_⟩; exact (rfl : (Mo.is undef).p undef y.on))
                  | (refine .inr ⟨unwanted_und (j := 10) (d := 99) rfl rfl eg, ?_⟩; exact (rfl : (Mo.is undef).p undef y.on))
                  | (have e106 : a'.tmps[106]?.getD undef = _ := hd 17 106 rfl rfl; refine .inl ⟨wanted_of (j := 10) (d := 99) rfl rfl eg, ?_⟩; clear hs hd hx eg; go_simp; exact ⟨Ext.refl _ _, rfl⟩)
                · intro a' w' hx hs hd
                  obtain ⟨y, rfl⟩ := hx.ew
                  have eg : a'.tmps[99]?.getD undef = _ := hd 10 99 rfl rfl
                  first
                  | (refine .inr ⟨unwanted_of (j := 10) (d := 99) rfl rfl eg (by rfl), ?_⟩; exact (rfl : (Mo.is undef).p undef y.on))
                  | (refine .inr ⟨unwanted_und (j := 10) (d := 99) rfl rfl eg, ?_⟩; exact (rfl : (Mo.is undef).p undef y.on))
                  | (have e105 : a'.tmps[105]?.getD undef = _ := hd 16 105 rfl rfl; have e107 : a'.tmps[107]?.getD undef = _ := hd 18 107 rfl rfl; refine .inl ⟨wanted_of (j := 10) (d := 99) rfl rfl eg, ?_⟩; clear hs hd hx eg; go_simp; exact (ref11_Same rc' rst rk rkey rx rid c st kk key x id HRO.out HKR.out _).mono (fun e w'' ⟨he, hx⟩ => ⟨.bool true, he.trans (congrArg _ (congrArg _ HG4.out)), hx, rfl⟩))
                · intro a' w' hx hs hd
                  obtain ⟨y, rfl⟩ := hx.ew
                  have eg : a'.tmps[99]?.getD undef = _ := hd 10 99 rfl rfl
                  first
                  | (refine .inr ⟨unwanted_of (j := 10) (d := 99) rfl rfl eg (by rfl), ?_⟩; exact (rfl : (Mo.is undef).p undef y.on))
                  | (refine .inr ⟨unwanted_und (j := 10) (d := 99) rfl rfl eg, ?_⟩; exact (rfl : (Mo.is undef).p undef y.on))
                  | (have e108 : a'.tmps[108]?.getD undef = _ := hd 19 108 rfl rfl; refine .inl ⟨wanted_of (j := 10) (d := 99) rfl rfl eg, ?_⟩; clear hs hd hx eg; go_simp; exact ⟨Ext.refl _ _, rfl⟩)
                · intro a' w' hx hs hd
                  obtain ⟨y, rfl⟩ := hx.ew
                  have e99 : a'.tmps[99]?.getD undef = _ := hd 10 99 rfl rfl
                  have e109 : a'.tmps[109]?.getD undef = _ := hd 20 109 rfl rfl
                  refine .inl ⟨rfl, ?_⟩
                  clear hs hd hx
                  go_simp
                  exact ⟨Ext.refl _ _, rfl⟩
              case' q2 =>
                intro vs w' hx hRR
                obtain ⟨yq, rfl⟩ := hx.ew
                have q0 : vs 0 = _ := hRR 0 (by decide)
                have q1 : vs 1 = _ := hRR 1 (by decide)
                have q2 : vs 2 = _ := hRR 2 (by decide)
                have q3 : vs 3 = _ := hRR 3 (by decide)
                have q4 : vs 4 = _ := hRR 4 (by decide)
                have q5 : vs 5 = _ := hRR 5 (by decide)
                have q6 : vs 6 = _ := hRR 6 (by decide)
                have q7 : vs 7 = _ := hRR 7 (by decide)
                have q8 : vs 8 = _ := hRR 8 (by decide)
                have q9 : vs 9 = _ := hRR 9 (by decide)
                have q10 : vs 10 = _ := hRR 10 (by decide)
                have q11 : vs 11 = _ := hRR 11 (by decide)
                have q12 : vs 12 = _ := hRR 12 (by decide)
                have q13 : vs 13 = _ := hRR 13 (by decide)
                have q14 : vs 14 = _ := hRR 14 (by decide)
                have q15 : vs 15 = _ := hRR 15 (by decide)
                have q16 : vs 16 = _ := hRR 16 (by decide)
                have q17 : vs 17 = _ := hRR 17 (by decide)
                have q18 : vs 18 = _ := hRR 18 (by decide)
                have q19 : vs 19 = _ := hRR 19 (by decide)
                have q20 : vs 20 = _ := hRR 20 (by decide)
                have q21 : vs 21 = _ := hRR 21 (by decide)
                clear hRR hx
                simp only [putAll, List.take_succ_cons, List.take_zero, List.drop_succ_cons, List.drop_zero, Act.put, List.setIfInBounds_toArray, List.set_cons_zero, List.set_cons_succ, Nat.reduceAdd, Nat.zero_add]
                simp only [q0, q1, q2, q3, q4, q5, q6, q7, q8, q9, q10, q11, q12, q13, q14, q15, q16, q17, q18, q19, q20, q21]
                clear q0 q1 q2 q3 q4 q5 q6 q7 q8 q9 q10 q11 q12 q13 q14 q15 q16 q17 q18 q19 q20 q21 vs
              clear y0 y1 y2 y3 y4 y5' y6 t0 t1 t2 t3 t4 t5
              go_wp2_with fail
              go_roundg (ln.length - (j + 1))
              case measure => have := HJ.out; omega
              case rel => exact ⟨j + 1, ⟨_, by (repeat (first | with_reducible exact Ext.refl _ _ | assumption | with_reducible refine Ext.upN ?_ | with_reducible refine Ext.alloc ?_ _ | with_reducible refine Ext.upA (by assumption) ?_ | with_reducible refine Ext.upW ?_ | with_reducible refine Ext.drew ?_ | with_reducible refine Ext.drewN ?_ _ | with_reducible refine Ext.upF ?_ | with_reducible refine Ext.upFF (by first | omega | simp) ?_ | with_reducible refine Ext.setCellsF _ _ _ (by first | omega | simp) ?_ | with_reducible refine Ext.setCellF _ _ _ (by first | omega | simp) ?_ | with_reducible refine Ext.upFN (by first | omega | simp) ?_ | with_reducible refine Ext.up1F (by first | omega | simp) ?_ | with_reducible refine Ext.up1N (by first | omega | simp) ?_ | with_reducible refine Ext.setCell ?_ (.inr (by first | omega | simp)) _ | refine Ext.alloc ?_ _ | refine Ext.setCellF _ _ _ (by first | omega | simp) ?_ | refine Ext.setCell ?_ (.inr (by first | omega | simp)) _))⟩, hjl, rfl, by go_num, rfl⟩
            · obtain rfl : j = ln.length := by omega
              go_wp2_with fail
              go_roundg (rs.length - (i + 1))
              case measure => have := HN.out; omega
              case rel => exact ⟨i + 1, ⟨_, by (repeat (first | with_reducible exact Ext.refl _ _ | assumption | with_reducible refine Ext.upN ?_ | with_reducible refine Ext.alloc ?_ _ | with_reducible refine Ext.upA (by assumption) ?_ | with_reducible refine Ext.upW ?_ | with_reducible refine Ext.drew ?_ | with_reducible refine Ext.drewN ?_ _ | with_reducible refine Ext.upF ?_ | with_reducible refine Ext.upFF (by first | omega | simp) ?_ | with_reducible refine Ext.setCellsF _ _ _ (by first | omega | simp) ?_ | with_reducible refine Ext.setCellF _ _ _ (by first | omega | simp) ?_ | with_reducible refine Ext.upFN (by first | omega | simp) ?_ | with_reducible refine Ext.up1F (by first | omega | simp) ?_ | with_reducible refine Ext.up1N (by first | omega | simp) ?_ | with_reducible refine Ext.setCell ?_ (.inr (by first | omega | simp)) _ | refine Ext.alloc ?_ _ | refine Ext.setCellF _ _ _ (by first | omega | simp) ?_ | refine Ext.setCell ?_ (.inr (by first | omega | simp)) _))⟩, hlt2, rfl, by go_num, rfl⟩
        · obtain rfl : i = rs.length := by omega
          go_wp2
          go_ret
          exact ⟨rfl, by (repeat (first | with_reducible exact Ext.refl _ _ | assumption | with_reducible refine Ext.upN ?_ | with_reducible refine Ext.alloc ?_ _ | with_reducible refine Ext.upA (by assumption) ?_ | with_reducible refine Ext.upW ?_ | with_reducible refine Ext.drew ?_ | with_reducible refine Ext.drewN ?_ _ | with_reducible refine Ext.upF ?_ | with_reducible refine Ext.upFF (by first | omega | simp) ?_ | with_reducible refine Ext.setCellsF _ _ _ (by first | omega | simp) ?_ | with_reducible refine Ext.setCellF _ _ _ (by first | omega | simp) ?_ | with_reducible refine Ext.upFN (by first | omega | simp) ?_ | with_reducible refine Ext.up1F (by first | omega | simp) ?_ | with_reducible refine Ext.up1N (by first | omega | simp) ?_ | with_reducible refine Ext.setCell ?_ (.inr (by first | omega | simp)) _ | refine Ext.alloc ?_ _ | refine Ext.setCellF _ _ _ (by first | omega | simp) ?_ | refine Ext.setCell ?_ (.inr (by first | omega | simp)) _))⟩
  · have HM1 := Go.Lib.hid (mergeL_no h0)
    have HM2 := Go.Lib.hid (mergeL_no (l := allE tr) (by rw [← HEQ.out]; exact h0))
    have hne : (mergeE (allE rs) != 0) = true := by simpa using h0
    rw [HM1.out] at HR1
    rw [HM2.out] at HR2
    rw [HM1.out, HM2.out]
    generalize mergeE (allE rs) = me at *
    clear h0
    go_wp2_with fail
    refine Calls.ew (ref16_Same a1 c1 [] a2 c2 [] _ (HR1.out.extN (by (repeat (first | with_reducible exact Ext.refl _ _ | assumption | with_reducible refine Ext.upN ?_ | with_reducible refine Ext.alloc ?_ _ | with_reducible refine Ext.upA (by assumption) ?_ | with_reducible refine Ext.upW ?_ | with_reducible refine Ext.drew ?_ | with_reducible refine Ext.drewN ?_ _ | with_reducible refine Ext.upF ?_ | with_reducible refine Ext.upFF (by first | omega | simp) ?_ | with_reducible refine Ext.setCellsF _ _ _ (by first | omega | simp) ?_ | with_reducible refine Ext.setCellF _ _ _ (by first | omega | simp) ?_ | with_reducible refine Ext.upFN (by first | omega | simp) ?_ | with_reducible refine Ext.up1F (by first | omega | simp) ?_ | with_reducible refine Ext.up1N (by first | omega | simp) ?_ | with_reducible refine Ext.setCell ?_ (.inr (by first | omega | simp)) _ | refine Ext.alloc ?_ _ | refine Ext.setCellF _ _ _ (by first | omega | simp) ?_ | refine Ext.setCell ?_ (.inr (by first | omega | simp)) _)))) (HR2.out.extN (by (repeat (first | with_reducible exact Ext.refl _ _ | assumption | with_reducible refine Ext.upN ?_ | with_reducible refine Ext.alloc ?_ _ | with_reducible refine Ext.upA (by assumption) ?_ | with_reducible refine Ext.upW ?_ | with_reducible refine Ext.drew ?_ | with_reducible refine Ext.drewN ?_ _ | with_reducible refine Ext.upF ?_ | with_reducible refine Ext.upFF (by first | omega | simp) ?_ | with_reducible refine Ext.setCellsF _ _ _ (by first | omega | simp) ?_ | with_reducible refine Ext.setCellF _ _ _ (by first | omega | simp) ?_ | with_reducible refine Ext.upFN (by first | omega | simp) ?_ | with_reducible refine Ext.up1F (by first | omega | simp) ?_ | with_reducible refine Ext.up1N (by first | omega | simp) ?_ | with_reducible refine Ext.setCell ?_ (.inr (by first | omega | simp)) _ | refine Ext.alloc ?_ _ | refine Ext.setCellF _ _ _ (by first | omega | simp) ?_ | refine Ext.setCell ?_ (.inr (by first | omega | simp)) _))))) ?_
    rintro e x6 rfl
    have HS := Go.Lib.hid (allW_self [])
    rw [HS.out]
    go_wp2
    go_ret
    exact ⟨rfl, by (repeat (first | with_reducible exact Ext.refl _ _ | assumption | with_reducible refine Ext.upN ?_ | with_reducible refine Ext.alloc ?_ _ | with_reducible refine Ext.upA (by assumption) ?_ | with_reducible refine Ext.upW ?_ | with_reducible refine Ext.drew ?_ | with_reducible refine Ext.drewN ?_ _ | with_reducible refine Ext.upF ?_ | with_reducible refine Ext.upFF (by first | omega | simp) ?_ | with_reducible refine Ext.setCellsF _ _ _ (by first | omega | simp) ?_ | with_reducible refine Ext.setCellF _ _ _ (by first | omega | simp) ?_ | with_reducible refine Ext.upFN (by first | omega | simp) ?_ | with_reducible refine Ext.up1F (by first | omega | simp) ?_ | with_reducible refine Ext.up1N (by first | omega | simp) ?_ | with_reducible refine Ext.setCell ?_ (.inr (by first | omega | simp)) _ | refine Ext.alloc ?_ _ | refine Ext.setCellF _ _ _ (by first | omega | simp) ?_ | refine Ext.setCell ?_ (.inr (by first | omega | simp)) _))⟩
set_option maxRecDepth 100000 in
open Go.ChangeShapes Go.WideShapes in
theorem arg_int1 {H : Type} {enc : TypeId × Value → H} {W : World} {base : Nat} {spare : Nat → Bool} {held : Bool} {v : Value} {d : DataW H} {p : List MemPlace} (h : DataW.Trod enc Try.prog W base spare held 3 v d p) {b0 : Nat} {r : Reach} (ok : Value.okWide Try.prog W r b0 3 v) : ∃ k : Int, v = .int .i64 k ∧ I64 k := by
  obtain ⟨k, rfl⟩ := okWide_int Try.underlying3 ok
  obtain ⟨m, hm⟩ := h
  have hm' : DataW.trod enc Try.prog W base spare held m 3 [.int .i64 k] = some (d, p) := hm
  obtain ⟨k', e, hk⟩ := read_int hm'
  simp at e
  subst e
  exact ⟨_, rfl, hk⟩
set_option maxRecDepth 100000 in
open Go.ChangeShapes Go.WideShapes in
theorem law_SagaOrder {H : Type} {enc : TypeId × Value → H} (W : World) {base : Nat} (v0 : Value) (d0 : DataW H) (p0 : List MemPlace) (v1 : Value) (d1 : DataW H) (p1 : List MemPlace)
    (h0 : DataW.Trod enc Try.prog W 0 (fun _ => true) true 52 v0 d0 p0) (ok0 : Value.okWide Try.prog W .any base 52 v0)
    (h1 : DataW.Trod enc Try.prog W 0 (fun _ => true) true 3 v1 d1 p1) (ok1 : Value.okWide Try.prog W .any base 3 v1)
    (hk : Rows.uptoSmall H [d0, d1] = true) :
    Calls Try.prog 6 #[v0, v1] W fun e w' => e = .returned (.bool true) ∧ Below W.heap.size W w' := by
  obtain ⟨a, cap, l, rfl, hl, hb⟩ := arg_histories ok0 h0
  obtain ⟨k, rfl, hk1⟩ := arg_int1 h1 ok1
  have hall : Rows.uptoBulkAll [d0, d1] ≤ 1048576 := of_decide_eq_true hk
  have hd := bulk_part (d := d0) (l := [d0, d1]) (by simp)
  obtain ⟨h1, h2⟩ := hb (by omega)
  exact (walk_SagaOrder a cap l k hk1 h1 h2 W hl).mono fun _ _ ⟨a, b⟩ => ⟨a, b.toBelow⟩
end Go.Proofs.Ytekbonciafbjiaa
