/- The law SagaOnce: the walk. -/
import Derived.Test.YtekbonciafbjiaaSagaNew22
namespace Go.Proofs.Ytekbonciafbjiaa
open Go.RowKit Go.Lib F64
set_option linter.unusedSimpArgs false
set_option linter.unusedVariables false
attribute [local go_sem] run_store_float
attribute [local go_sem low] EW.cellN EW.frozN alloc_cell_or alloc_froz_or EW.cellF EW.frozF EW.cell1 EW.froz1
attribute [local go_sem] relAt relUpon
theorem once_at {xs : List Int} {l : List Ak} {lr : List Req} (hlr : lr = l.map Ak.req) (hm : membersB xs = true) (hl : lr.length ≤ 244) (hq : ∀ q ∈ lr, AskOk q) {i : Nat} (h : i < l.length) :
    (rightB (l[i]).req = false → outI (l[i]).req (stepsL (newL xs) lr) = none) ∧
    (rightB (l[i]).req = true → lastS (gAt xs lr i) (l[i]).req.client < (l[i]).req.stamp → outI (l[i]).req (stepsL (newL xs) lr) = some i) ∧
    (rightB (l[i]).req = true → ¬ lastS (gAt xs lr i) (l[i]).req.client < (l[i]).req.stamp → outI (l[i]).req (stepsL (newL xs) lr) = none ∨ ∃ j, ∃ hj : j < i, outI (l[i]).req (stepsL (newL xs) lr) = some j ∧ sameT (l[j]'(by omega)).req (l[i]).req = true) ∧
    (∀ c, lastS (gAt xs lr (i + 1)) c = if rightB (l[i]).req = true ∧ c = (l[i]).req.client ∧ lastS (gAt xs lr i) c < (l[i]).req.stamp then (l[i]).req.stamp else lastS (gAt xs lr i) c) := by
  have hi : i < lr.length := by rw [hlr, List.length_map]; exact h
  have e : ∀ j (hj : j < lr.length) (hj' : j < l.length), lr[j] = (l[j]).req := fun j hj hj' => by subst hlr; rw [List.getElem_map]
  obtain ⟨a, b, c⟩ := once_law (xs := xs) hm hl hq hi
  have d := last_step (xs := xs) hl hq hi
  rw [e i hi h] at a b c d
  refine ⟨a, b, fun h1 h2 => ?_, d⟩
  rcases c h1 h2 with h3 | ⟨j, hj, h3, h4⟩
  · exact .inl h3
  · exact .inr ⟨j, hj, h3, by rw [e j (by omega) (by omega)] at h4; exact h4⟩
def lastRow (ws : Nat → Int) : List Value := [.int .i64 (ws 0), .int .i64 (ws 1), .int .i64 (ws 2), .int .i64 (ws 3), .int .i64 (ws 4), .int .i64 (ws 5), .int .i64 (ws 6), .int .i64 (ws 7), .int .i64 (ws 8)]
theorem last_get (ws : Nat → Int) {m : Nat} (h : m < 9) : (lastRow ws)[m]? = some (.int .i64 (ws m)) := by
  have h4 : m = 0 ∨ m = 1 ∨ m = 2 ∨ m = 3 ∨ m = 4 ∨ m = 5 ∨ m = 6 ∨ m = 7 ∨ m = 8 := by omega
  rcases h4 with rfl | rfl | rfl | rfl | rfl | rfl | rfl | rfl | rfl <;> rfl
theorem last_set (ws : Nat → Int) (v : Int) {m : Nat} (h : m < 9) : (lastRow ws).set m (.int .i64 v) = lastRow (fun n => if n = m then v else ws n) := by
  have h4 : m = 0 ∨ m = 1 ∨ m = 2 ∨ m = 3 ∨ m = 4 ∨ m = 5 ∨ m = 6 ∨ m = 7 ∨ m = 8 := by omega
  rcases h4 with rfl | rfl | rfl | rfl | rfl | rfl | rfl | rfl | rfl <;> rfl
theorem make9 (w : World) : (Instr.makeSlice 22 (.int .i64 9) (.int .i64 9)).run Try.prog w = .ok (.slice (some ⟨w.heap.size, 0, none⟩) 9 9) (w.alloc (.cells (lastRow (fun _ => 0)).toArray 3)) := by
  obtain ⟨i, hi0, hi1, hi2, hi3⟩ := info_parts info_int
  rw [run_makeSlice w 22 3 i _ Try.underlying22 hi0 hi1 .i64 .i64 9 9 (by omega) (by omega) (by rw [hi2]; decide) (by rw [hi3]; decide) (by omega), hi2]
  have h : madeCells (Value.int IntKind.i64 0).cells (Int.toNat 9 * 1) = (lastRow (fun _ => 0)).toArray := by
    first | rfl | kernel_rfl | (unfold madeCells lastRow; simp [Value.cells, Array.range_succ]) | (unfold madeCells lastRow; apply Array.ext <;> simp [Value.cells])
  rw [h]
  rfl
attribute [local go_sem] make9
set_option maxHeartbeats 4000000 in
set_option maxRecDepth 100000 in
theorem walk_SagaOnce (ep : Int) (a : Option Addr) (cap : Nat) (xs : List Int) (pa : Option Addr) (pcap : Nat) (l : List Ak) (hlim : l.length * 56 ≤ 140737488351232) (w : World) (hi : Ints w a cap xs) (hs : Aks w pa pcap l) :
    Calls Try.prog 3 #[.agg #[.int .i64 ep, .slice a xs.length cap], .slice pa l.length pcap] w fun e w' => e = .returned (.bool true) ∧ Ext Non w w' := by
  have HI := Go.Lib.hid hi; have HA := Go.Lib.hid hs
  obtain ⟨lr, hlr⟩ : ∃ lr, lr = l.map Ak.req := ⟨_, rfl⟩
  have hll : lr.length = l.length := by rw [hlr, List.length_map]
  have HOK := Go.Lib.hid (aks_ok hs hlr)
  have HLG := Go.Lib.hid (fun w' (x : Ext Non w w') => log_reqs l hlim lr hlr pa pcap w' (hs.extN x))
  have HLL := Go.Lib.hid hll
  have HLR := Go.Lib.hid hlr
  have hsm := hs.small; have hsl := hs.le
  clear hi hs hlr hll
  by_cases hne : newE ep xs lr = 0
  · obtain ⟨hm, rfl, hask, hlen⟩ := newE_zero hne
    have HM := Go.Lib.hid hm; have HQ := Go.Lib.hid hask
    have HAO := Go.Lib.hid (askOk_of hask HOK.out)
    clear hne hm hask
    go_enter Try.func3, Try.ntmps3
    go_wp2_with fail
    have B0 := Go.Lib.hid (Bx.newAt w [.int .i64 0, .slice a xs.length cap] 24 _ rfl)
    refine Calls.ew (law22_lives _) ?_
    rintro e x1 rfl
    have X1 : Ext Non w x1.on := by (repeat (first | with_reducible exact Ext.refl _ _ | assumption | with_reducible refine Ext.upN ?_ | with_reducible refine Ext.alloc ?_ _ | with_reducible refine Ext.upA (by assumption) ?_ | with_reducible refine Ext.upW ?_ | with_reducible refine Ext.drew ?_ | with_reducible refine Ext.drewN ?_ _ | with_reducible refine Ext.upF ?_ | with_reducible refine Ext.upFF (by first | omega | simp) ?_ | with_reducible refine Ext.setCellsF _ _ _ (by first | omega | simp) ?_ | with_reducible refine Ext.setCellF _ _ _ (by first | omega | simp) ?_ | with_reducible refine Ext.upFN (by first | omega | simp) ?_ | with_reducible refine Ext.up1F (by first | omega | simp) ?_ | with_reducible refine Ext.up1N (by first | omega | simp) ?_ | with_reducible refine Ext.setCell ?_ (.inr (by first | omega | simp)) _ | refine Ext.alloc ?_ _ | refine Ext.setCellF _ _ _ (by first | omega | simp) ?_ | refine Ext.setCell ?_ (.inr (by first | omega | simp)) _))
    have B1 := Go.Lib.hid (B0.out.extN x1.ext)
    have hb1 : w.heap.size < x1.on.heap.size := B1.out.lt
    go_upto_region 3 with fail
    apply wp_region_rel (relR [Mo.is _, Mo.is _, moLog lr, moNew w.heap.size xs lr, moNew w.heap.size xs lr, moSag w.heap.size xs lr, Mo.is _, moSag w.heap.size xs lr, Mo.is _]) (by kernel_rfl) (by kernel_rfl) (by kernel_rfl) (relR_mono _) (StepD.all ?st1) ?q1
    case st1 =>
      refine ⟨?_, ?_, ?_, ?_, ?_, ?_, ?_, ?_, ?_, trivial⟩
      · intro a' w' hx hs hd
        obtain ⟨y, rfl⟩ := hx.ew
        have e2 : a'.tmps[2]?.getD undef = _ := hs 2 rfl
        simp only [List.getElem?_toArray, List.getElem?_cons_succ, List.getElem?_cons_zero, Option.getD_some, Array.getElem?_eq_some_iff] at e2
        refine .inl ⟨rfl, ?_⟩
        clear hs hd hx
        go_simp
        exact ⟨Ext.refl _ _, rfl⟩
      · intro a' w' hx hs hd
        obtain ⟨y, rfl⟩ := hx.ew
        have e1 : a'.tmps[1]?.getD undef = _ := hs 1 rfl
        simp only [List.getElem?_toArray, List.getElem?_cons_succ, List.getElem?_cons_zero, Option.getD_some, Array.getElem?_eq_some_iff] at e1
        refine .inl ⟨rfl, ?_⟩
        clear hs hd hx
        go_simp
        exact ⟨Ext.refl _ _, rfl⟩
      · intro a' w' hx hs hd
        obtain ⟨y, rfl⟩ := hx.ew
        have e17 : a'.tmps[17]?.getD undef = _ := hd 1 17 rfl rfl
        refine .inl ⟨rfl, ?_⟩
        clear hs hd hx
        go_simp
        exact (HLG.out _ (by (repeat (first | with_reducible exact Ext.refl _ _ | assumption | with_reducible refine Ext.upN ?_ | with_reducible refine Ext.alloc ?_ _ | with_reducible refine Ext.upA (by assumption) ?_ | with_reducible refine Ext.upW ?_ | with_reducible refine Ext.drew ?_ | with_reducible refine Ext.drewN ?_ _ | with_reducible refine Ext.upF ?_ | with_reducible refine Ext.upFF (by first | omega | simp) ?_ | with_reducible refine Ext.setCellsF _ _ _ (by first | omega | simp) ?_ | with_reducible refine Ext.setCellF _ _ _ (by first | omega | simp) ?_ | with_reducible refine Ext.upFN (by first | omega | simp) ?_ | with_reducible refine Ext.up1F (by first | omega | simp) ?_ | with_reducible refine Ext.up1N (by first | omega | simp) ?_ | with_reducible refine Ext.setCell ?_ (.inr (by first | omega | simp)) _ | refine Ext.alloc ?_ _ | refine Ext.setCellF _ _ _ (by first | omega | simp) ?_ | refine Ext.setCell ?_ (.inr (by first | omega | simp)) _)))).mono (fun e w'' ⟨ra, rc, he, hR, hx⟩ => ⟨_, he, hx, ra, rc, rfl, hR⟩)
      · intro a' w' hx hs hd
        obtain ⟨y, rfl⟩ := hx.ew
        have e16 : a'.tmps[16]?.getD undef = _ := hd 0 16 rfl rfl
        obtain ⟨ra, rc, e18, hR⟩ : ∃ ra rc, a'.tmps[18]?.getD undef = .slice ra lr.length rc ∧ Reqs y.on ra rc lr := hd 2 18 rfl rfl
        refine .inl ⟨rfl, ?_⟩
        clear hs hd hx
        go_simp
        exact (saga_New a cap xs HM.out ra rc lr HOK.out HQ.out hlen _ (HI.out.extN (by (repeat (first | with_reducible exact Ext.refl _ _ | assumption | with_reducible refine Ext.upN ?_ | with_reducible refine Ext.alloc ?_ _ | with_reducible refine Ext.upA (by assumption) ?_ | with_reducible refine Ext.upW ?_ | with_reducible refine Ext.drew ?_ | with_reducible refine Ext.drewN ?_ _ | with_reducible refine Ext.upF ?_ | with_reducible refine Ext.upFF (by first | omega | simp) ?_ | with_reducible refine Ext.setCellsF _ _ _ (by first | omega | simp) ?_ | with_reducible refine Ext.setCellF _ _ _ (by first | omega | simp) ?_ | with_reducible refine Ext.upFN (by first | omega | simp) ?_ | with_reducible refine Ext.up1F (by first | omega | simp) ?_ | with_reducible refine Ext.up1N (by first | omega | simp) ?_ | with_reducible refine Ext.setCell ?_ (.inr (by first | omega | simp)) _ | refine Ext.alloc ?_ _ | refine Ext.setCellF _ _ _ (by first | omega | simp) ?_ | refine Ext.setCell ?_ (.inr (by first | omega | simp)) _)))) hR).mono (fun e w'' ⟨s, v1, v2, bs, he, hS, hx⟩ => ⟨_, he, hx, s, v1, v2, bs, rfl, hS.low (by have h1 := y.ext.size; omega)⟩)
      · intro a' w' hx hs hd
        obtain ⟨y, rfl⟩ := hx.ew
        obtain ⟨s3, v13, v23, bs3, e19, hS3⟩ : ∃ s v1 v2 bs, a'.tmps[19]?.getD undef = .tuple #[.pointer (some ⟨s, 0, none⟩), .int .i64 0] ∧ Sag w.heap.size y.on s v1 v2 xs lr bs := hd 3 19 rfl rfl
        refine .inl ⟨rfl, ?_⟩
        clear hs hd hx
        go_simp
        exact ⟨Ext.refl _ _, s3, v13, v23, bs3, rfl, hS3⟩
      · intro a' w' hx hs hd
        obtain ⟨y, rfl⟩ := hx.ew
        obtain ⟨s4, v14, v24, bs4, e15, hS4⟩ : ∃ s v1 v2 bs, a'.tmps[15]?.getD undef = .tuple #[.pointer (some ⟨s, 0, none⟩), .int .i64 0] ∧ Sag w.heap.size y.on s v1 v2 xs lr bs := hd 4 15 rfl rfl
        refine .inl ⟨rfl, ?_⟩
        clear hs hd hx
        go_simp
        exact ⟨Ext.refl _ _, s4, v14, v24, bs4, rfl, hS4⟩
      · intro a' w' hx hs hd
        obtain ⟨y, rfl⟩ := hx.ew
        obtain ⟨s4, v14, v24, bs4, e15, hS4⟩ : ∃ s v1 v2 bs, a'.tmps[15]?.getD undef = .tuple #[.pointer (some ⟨s, 0, none⟩), .int .i64 0] ∧ Sag w.heap.size y.on s v1 v2 xs lr bs := hd 4 15 rfl rfl
        refine .inl ⟨rfl, ?_⟩
        clear hs hd hx
        go_simp
        exact ⟨Ext.refl _ _, rfl⟩
      · intro a' w' hx hs hd
        obtain ⟨y, rfl⟩ := hx.ew
        obtain ⟨s5, v15, v25, bs5, e20, hS5⟩ : ∃ s v1 v2 bs, a'.tmps[20]?.getD undef = .pointer (some ⟨s, 0, none⟩) ∧ Sag w.heap.size y.on s v1 v2 xs lr bs := hd 5 20 rfl rfl
        refine .inl ⟨rfl, ?_⟩
        clear hs hd hx
        go_simp
        exact ⟨Ext.refl _ _, s5, v15, v25, bs5, rfl, hS5⟩
      · intro a' w' hx hs hd
        obtain ⟨y, rfl⟩ := hx.ew
        have e21 : a'.tmps[21]?.getD undef = _ := hd 6 21 rfl rfl
        refine .inl ⟨rfl, ?_⟩
        clear hs hd hx
        go_simp
        exact ⟨Ext.refl _ _, rfl⟩
    case' q1 =>
      intro vs w' hx hRR
      obtain ⟨x2, rfl⟩ := hx.ew
      have q0 : vs 0 = _ := hRR 0 (by decide)
      have q1 : vs 1 = _ := hRR 1 (by decide)
      obtain ⟨ra, rc, q2, hR⟩ : ∃ ra rc, vs 2 = .slice ra lr.length rc ∧ Reqs x2.on ra rc lr := hRR 2 (by decide)
      obtain ⟨s3, v13, v23, bs3, q3, hS3⟩ : ∃ s v1 v2 bs, vs 3 = .tuple #[.pointer (some ⟨s, 0, none⟩), .int .i64 0] ∧ Sag w.heap.size x2.on s v1 v2 xs lr bs := hRR 3 (by decide)
      obtain ⟨s4, v14, v24, bs4, q4, hS4⟩ : ∃ s v1 v2 bs, vs 4 = .tuple #[.pointer (some ⟨s, 0, none⟩), .int .i64 0] ∧ Sag w.heap.size x2.on s v1 v2 xs lr bs := hRR 4 (by decide)
      obtain ⟨s5, v15, v25, bs5, q5, hS5⟩ : ∃ s v1 v2 bs, vs 5 = .pointer (some ⟨s, 0, none⟩) ∧ Sag w.heap.size x2.on s v1 v2 xs lr bs := hRR 5 (by decide)
      have q6 : vs 6 = _ := hRR 6 (by decide)
      obtain ⟨s7, v17, v27, bs7, q7, hS7⟩ : ∃ s v1 v2 bs, vs 7 = .pointer (some ⟨s, 0, none⟩) ∧ Sag w.heap.size x2.on s v1 v2 xs lr bs := hRR 7 (by decide)
      have q8 : vs 8 = _ := hRR 8 (by decide)
      clear hRR hx
      simp only [putAll, List.take_succ_cons, List.take_zero, List.drop_succ_cons, List.drop_zero, Act.put, List.setIfInBounds_toArray, List.set_cons_zero, List.set_cons_succ, Nat.reduceAdd, Nat.zero_add]
      simp only [q0, q1, q2, q3, q4, q5, q6, q7, q8]
      clear q0 q1 q2 q3 q4 q5 q6 q7 q8 vs
    have HS := Go.Lib.hid hS7
    have XX : Ext Non w x2.on := by (repeat (first | with_reducible exact Ext.refl _ _ | assumption | with_reducible refine Ext.upN ?_ | with_reducible refine Ext.alloc ?_ _ | with_reducible refine Ext.upA (by assumption) ?_ | with_reducible refine Ext.upW ?_ | with_reducible refine Ext.drew ?_ | with_reducible refine Ext.drewN ?_ _ | with_reducible refine Ext.upF ?_ | with_reducible refine Ext.upFF (by first | omega | simp) ?_ | with_reducible refine Ext.setCellsF _ _ _ (by first | omega | simp) ?_ | with_reducible refine Ext.setCellF _ _ _ (by first | omega | simp) ?_ | with_reducible refine Ext.upFN (by first | omega | simp) ?_ | with_reducible refine Ext.up1F (by first | omega | simp) ?_ | with_reducible refine Ext.up1N (by first | omega | simp) ?_ | with_reducible refine Ext.setCell ?_ (.inr (by first | omega | simp)) _ | refine Ext.alloc ?_ _ | refine Ext.setCellF _ _ _ (by first | omega | simp) ?_ | refine Ext.setCell ?_ (.inr (by first | omega | simp)) _))
    have HA1 := Go.Lib.hid (HA.out.extN XX)
    clear hR hS3 hS4 hS5 hS7 B1 X1 hb1 B0 HA
    generalize x2.on = w1 at *
    go_wp2_with fail
    have BL := Go.Lib.hid (Bx.newAt w1 (lastRow (fun _ => 0)) 3 _ rfl)
    obtain ⟨x3, hx3⟩ := (by (repeat (first | with_reducible exact Ext.refl _ _ | assumption | with_reducible refine Ext.upN ?_ | with_reducible refine Ext.alloc ?_ _ | with_reducible refine Ext.upA (by assumption) ?_ | with_reducible refine Ext.upW ?_ | with_reducible refine Ext.drew ?_ | with_reducible refine Ext.drewN ?_ _ | with_reducible refine Ext.upF ?_ | with_reducible refine Ext.upFF (by first | omega | simp) ?_ | with_reducible refine Ext.setCellsF _ _ _ (by first | omega | simp) ?_ | with_reducible refine Ext.setCellF _ _ _ (by first | omega | simp) ?_ | with_reducible refine Ext.upFN (by first | omega | simp) ?_ | with_reducible refine Ext.up1F (by first | omega | simp) ?_ | with_reducible refine Ext.up1N (by first | omega | simp) ?_ | with_reducible refine Ext.setCell ?_ (.inr (by first | omega | simp)) _ | refine Ext.alloc ?_ _ | refine Ext.setCellF _ _ _ (by first | omega | simp) ?_ | refine Ext.setCell ?_ (.inr (by first | omega | simp)) _)) : Ext Non w1 (w1.alloc (.cells (lastRow (fun _ => 0)).toArray 3))).ew
    rw [hx3] at BL ⊢
    clear hx3
    generalize hkw : w1.heap.size = kw at *
    have HKW := Go.Lib.hid hkw
    clear hkw
    go_loopg [8, 9, 10, 11, 12] l.length (fun g iv v9 v10 v11 v12 wr => ∃ (i : Nat) (ws : Nat → Int) (z : EW Non w1), i ≤ l.length ∧ g = l.length - i ∧ iv = .int .i64 i ∧ wr = z.on ∧ Hid (Bx wr kw (lastRow ws) 3) ∧ Hid (∀ c : Nat, 1 ≤ c → c ≤ 8 → ws c = lastS (gAt xs lr i) c))
    case atStart => exact ⟨0, fun _ => 0, x3, Nat.zero_le _, rfl, rfl, rfl, BL, Go.Lib.hid (fun c h1 h8 => by show (0 : Int) = lastS (newL xs) c; unfold lastS; rw [if_pos (by omega)]; rfl)⟩
    case round =>
      clear BL
      obtain ⟨i, ws, z, hi, hg, rfl, rfl, BL, HW⟩ := hrel
      have HG := Go.Lib.hid hg; clear hg
      by_cases hlt : i < l.length
      · obtain ⟨ab, ao, rfl, hab, hc, hro⟩ := HA1.out.at_ i hlt
        have HON := Go.Lib.hid (once_at HLR.out HM.out hlen HAO.out hlt)
        have HJ : Hid (∀ j (hj : j < l.length), ∃ c s k key b id, l[j] = ⟨c, s, k, key, b, id⟩ ∧ ReqOk (⟨c, s, k, key, b, id⟩ : Ak).req ∧ w1.cell? ⟨ab, ao + j * 6, none⟩ = some (.int .i64 c) ∧ w1.cell? ⟨ab, ao + j * 6 + 1, none⟩ = some (.int .i64 s) ∧ w1.cell? ⟨ab, ao + j * 6 + 2, none⟩ = some (.int .i64 k) ∧ w1.cell? ⟨ab, ao + j * 6 + 3, none⟩ = some (.string key) ∧ w1.cell? ⟨ab, ao + j * 6 + 4, none⟩ = some (.int .u64 b) ∧ w1.cell? ⟨ab, ao + j * 6 + 5, none⟩ = some (.int .i64 id)) := Go.Lib.hid (fun j hj => by
          obtain ⟨b2, o2, e2, _, hc2, hro2⟩ := HA1.out.at_ j hj
          injection e2 with e2; injection e2 with e2 e3
          subst e2; subst e3
          generalize l[j] = o at *
          obtain ⟨c, s, k, key, b, id⟩ := o
          exact ⟨c, s, k, key, b, id, rfl, hro2, hc2 0 _ rfl, hc2 1 _ rfl, hc2 2 _ rfl, hc2 3 _ rfl, hc2 4 _ rfl, hc2 5 _ rfl⟩)
        have HRO := Go.Lib.hid hro
        have hl244 : l.length ≤ 244 := by have := HLL.out; omega
        clear hc hro
        obtain ⟨c, s, k, key, b, id, eo, -, q0, q1, q2, q3, q4, q5⟩ := HJ.out i hlt
        rw [eo] at HON HRO
        clear eo
        have HON2 : Hid ((rightB ⟨c, s, ⟨k, key, b.toNat, id⟩⟩ = false → outI ⟨c, s, ⟨k, key, b.toNat, id⟩⟩ (stepsL (newL xs) lr) = none) ∧
          (rightB ⟨c, s, ⟨k, key, b.toNat, id⟩⟩ = true → lastS (gAt xs lr i) c < s → outI ⟨c, s, ⟨k, key, b.toNat, id⟩⟩ (stepsL (newL xs) lr) = some i) ∧
          (rightB ⟨c, s, ⟨k, key, b.toNat, id⟩⟩ = true → ¬ lastS (gAt xs lr i) c < s → outI ⟨c, s, ⟨k, key, b.toNat, id⟩⟩ (stepsL (newL xs) lr) = none ∨ ∃ j, ∃ hj : j < i, outI ⟨c, s, ⟨k, key, b.toNat, id⟩⟩ (stepsL (newL xs) lr) = some j ∧ sameT (l[j]'(by omega)).req ⟨c, s, ⟨k, key, b.toNat, id⟩⟩ = true) ∧
          (∀ c', lastS (gAt xs lr (i + 1)) c' = if rightB ⟨c, s, ⟨k, key, b.toNat, id⟩⟩ = true ∧ c' = c ∧ lastS (gAt xs lr i) c' < s then s else lastS (gAt xs lr i) c')) := HON
        have HRO2 : Hid (ReqOk ⟨c, s, ⟨k, key, b.toNat, id⟩⟩) := HRO
        clear HON HRO
        go_wp2_with fail
        refine Calls.ew (law11_Request c s k key b id _) ?_
        rintro e x5 rfl
        have RQ := Go.Lib.hid (fun w => law11_Request c s k key b id w)
        generalize b.toNat = bt at *
        go_upto_region 11 with (refine wpList_store_box rfl 37 _ _ rfl x5.on.heap.size _ [.int .i64 c, .int .i64 s, .int .i64 k, .string key, .float .f64 bt, .int .i64 id] _ rfl rfl (Bx.newAt _ _ _ _ rfl) rfl info_req6 (by simp [Value.oneCell']) (fun W hB => ?_); have BQ := Go.Lib.hid hB; clear hB)
        have XW : Ext Non x5.on W.on := by (repeat (first | with_reducible exact Ext.refl _ _ | assumption | with_reducible refine Ext.upN ?_ | with_reducible refine Ext.alloc ?_ _ | with_reducible refine Ext.upA (by assumption) ?_ | with_reducible refine Ext.upW ?_ | with_reducible refine Ext.drew ?_ | with_reducible refine Ext.drewN ?_ _ | with_reducible refine Ext.upF ?_ | with_reducible refine Ext.upFF (by first | omega | simp) ?_ | with_reducible refine Ext.setCellsF _ _ _ (by first | omega | simp) ?_ | with_reducible refine Ext.setCellF _ _ _ (by first | omega | simp) ?_ | with_reducible refine Ext.upFN (by first | omega | simp) ?_ | with_reducible refine Ext.up1F (by first | omega | simp) ?_ | with_reducible refine Ext.up1N (by first | omega | simp) ?_ | with_reducible refine Ext.setCell ?_ (.inr (by first | omega | simp)) _ | refine Ext.alloc ?_ _ | refine Ext.setCellF _ _ _ (by first | omega | simp) ?_ | refine Ext.setCell ?_ (.inr (by first | omega | simp)) _))
        have XZW : Ext Non z.on W.on := x5.ext.trans XW
        have BL6 := Go.Lib.hid (BL.out.extN XZW)
        have hkz : kw < x5.on.heap.size := by have h1 := BL.out.lt; have h2 := x5.ext.size; omega
        obtain ⟨x6, hx6⟩ := (z.ext.trans XZW).ew
        rw [hx6] at BL6 BQ ⊢
        clear hx6 XZW XW W BL
        try simp only [Act.put]
        generalize x5.on.heap.size = kq at *
        clear x5 z
        have y0 : x6.on.cell? ⟨kq, 0, none⟩ = some (.int .i64 c) := BQ.out.cell rfl
        have y1 : x6.on.cell? ⟨kq, 1, none⟩ = some (.int .i64 s) := BQ.out.cell rfl
        have y2 : x6.on.cell? ⟨kq, 2, none⟩ = some (.int .i64 k) := BQ.out.cell rfl
        have y3 : x6.on.cell? ⟨kq, 3, none⟩ = some (.string key) := BQ.out.cell rfl
        have y4 : x6.on.cell? ⟨kq, 4, none⟩ = some (.float .f64 bt) := BQ.out.cell rfl
        have y5 : x6.on.cell? ⟨kq, 5, none⟩ = some (.int .i64 id) := BQ.out.cell rfl
        go_wp2_with fail
        refine (saga_Outcome _ s7 v17 v27 xs lr bs7 (by have := HLL.out; omega) HOK.out c s k key bt id HRO2.out _ (HS.out.extN (by (repeat (first | with_reducible exact Ext.refl _ _ | assumption | with_reducible refine Ext.upN ?_ | with_reducible refine Ext.alloc ?_ _ | with_reducible refine Ext.upA (by assumption) ?_ | with_reducible refine Ext.upW ?_ | with_reducible refine Ext.drew ?_ | with_reducible refine Ext.drewN ?_ _ | with_reducible refine Ext.upF ?_ | with_reducible refine Ext.upFF (by first | omega | simp) ?_ | with_reducible refine Ext.setCellsF _ _ _ (by first | omega | simp) ?_ | with_reducible refine Ext.setCellF _ _ _ (by first | omega | simp) ?_ | with_reducible refine Ext.upFN (by first | omega | simp) ?_ | with_reducible refine Ext.up1F (by first | omega | simp) ?_ | with_reducible refine Ext.up1N (by first | omega | simp) ?_ | with_reducible refine Ext.setCell ?_ (.inr (by first | omega | simp)) _ | refine Ext.alloc ?_ _ | refine Ext.setCellF _ _ _ (by first | omega | simp) ?_ | refine Ext.setCell ?_ (.inr (by first | omega | simp)) _))))).mono ?_
        rintro e _ ⟨rfl, hx⟩
        obtain ⟨x7, rfl⟩ := hx.ew
        clear hx
        have hslen : (stepsL (newL xs) lr).length = lr.length := stepsL_len _ _
        generalize stepsL (newL xs) lr = sp at *
        cases hr : rightB ⟨c, s, ⟨k, key, bt, id⟩⟩
        · have HRr := Go.Lib.hid hr
          have ho := HON2.out.1 hr
          have HW' : Hid (∀ c : Nat, 1 ≤ c → c ≤ 8 → ws c = lastS (gAt xs lr (i + 1)) c) := Go.Lib.hid (fun c' h1 h8 => by
            rw [HON2.out.2.2.2 c', if_neg (by rw [HRr.out]; simp)]; exact HW.out c' h1 h8)
          rw [ho]
          clear hr ho
          have ev : outV sp none = .tuple #[.int .i64 0, .agg #[.int .i64 0, .float .f64 0], .bool false] := rfl
          rw [ev]
          clear ev
          go_wp2_with fail
          refine Calls.ew (ref_Right c s k key bt id _) ?_
          rintro e x8 rfl
          rw [HRr.out]
          go_wp2_with fail
          go_roundg (l.length - (i + 1))
          case measure => have := HG.out; omega
          case rel => exact ⟨i + 1, ws, ⟨_, by (repeat (first | with_reducible exact Ext.refl _ _ | assumption | with_reducible refine Ext.upN ?_ | with_reducible refine Ext.alloc ?_ _ | with_reducible refine Ext.upA (by assumption) ?_ | with_reducible refine Ext.upW ?_ | with_reducible refine Ext.drew ?_ | with_reducible refine Ext.drewN ?_ _ | with_reducible refine Ext.upF ?_ | with_reducible refine Ext.upFF (by first | omega | simp) ?_ | with_reducible refine Ext.setCellsF _ _ _ (by first | omega | simp) ?_ | with_reducible refine Ext.setCellF _ _ _ (by first | omega | simp) ?_ | with_reducible refine Ext.upFN (by first | omega | simp) ?_ | with_reducible refine Ext.up1F (by first | omega | simp) ?_ | with_reducible refine Ext.up1N (by first | omega | simp) ?_ | with_reducible refine Ext.setCell ?_ (.inr (by first | omega | simp)) _ | refine Ext.alloc ?_ _ | refine Ext.setCellF _ _ _ (by first | omega | simp) ?_ | refine Ext.setCell ?_ (.inr (by first | omega | simp)) _))⟩, hlt, rfl, by go_num, rfl, Go.Lib.hid (BL6.out.extN (by (repeat (first | with_reducible exact Ext.refl _ _ | assumption | with_reducible refine Ext.upN ?_ | with_reducible refine Ext.alloc ?_ _ | with_reducible refine Ext.upA (by assumption) ?_ | with_reducible refine Ext.upW ?_ | with_reducible refine Ext.drew ?_ | with_reducible refine Ext.drewN ?_ _ | with_reducible refine Ext.upF ?_ | with_reducible refine Ext.upFF (by first | omega | simp) ?_ | with_reducible refine Ext.setCellsF _ _ _ (by first | omega | simp) ?_ | with_reducible refine Ext.setCellF _ _ _ (by first | omega | simp) ?_ | with_reducible refine Ext.upFN (by first | omega | simp) ?_ | with_reducible refine Ext.up1F (by first | omega | simp) ?_ | with_reducible refine Ext.up1N (by first | omega | simp) ?_ | with_reducible refine Ext.setCell ?_ (.inr (by first | omega | simp)) _ | refine Ext.alloc ?_ _ | refine Ext.setCellF _ _ _ (by first | omega | simp) ?_ | refine Ext.setCell ?_ (.inr (by first | omega | simp)) _)))), HW'⟩
        · have HRr := Go.Lib.hid hr
          obtain ⟨rc1, rc8, _⟩ := rightB_facts hr
          have rc1 : 1 ≤ c := rc1
          have rc8 : c ≤ 8 := rc8
          clear hr
          obtain ⟨cn, rfl⟩ : ∃ cn : Nat, c = cn := ⟨c.toNat, by omega⟩
          have hcn1 : 1 ≤ cn := by omega
          have hcn8 : cn ≤ 8 := by omega
          have hcn9 : cn < 9 := by omega
          clear rc1 rc8
          have hws := HW.out cn hcn1 hcn8
          have HWS := Go.Lib.hid hws
          have qs : x6.on.cell? ⟨kw, cn, none⟩ = some (.int .i64 (ws cn)) := BL6.out.cell (last_get ws hcn9)
          have w1i : IntKind.i64.wrap ((i : Int) + 1) = (i : Int) + 1 := IntWalk.i64_in _ (by omega)
          have cb1 : (0 : Int) ≤ (cn : Int) ∧ (cn : Int) < 9 := by omega
          obtain ⟨cb1, cb2⟩ := cb1
          by_cases hlt2 : ws cn < s
          · have ho := HON2.out.2.1 HRr.out (by rw [← hws]; exact hlt2)
            have HSM : Hid (sameT ⟨(cn : Int), s, ⟨k, key, bt, id⟩⟩ ⟨(cn : Int), s, ⟨k, key, bt, id⟩⟩ = true) := Go.Lib.hid (sameT_self (by unfold askedB; rw [HRr.out]; rfl))
            have HW' : Hid (∀ c : Nat, 1 ≤ c → c ≤ 8 → (if c = cn then s else ws c) = lastS (gAt xs lr (i + 1)) c) := Go.Lib.hid (fun c' h1 h8 => by
              rw [HON2.out.2.2.2 c']
              by_cases e : c' = cn
              · subst e
                rw [if_pos rfl, if_pos ⟨HRr.out, rfl, by rw [← HWS.out]; exact hlt2⟩]
              · rw [if_neg e, if_neg (fun t => e (by have := t.2.1; omega))]; exact HW.out c' h1 h8)
            rw [ho]
            clear ho hws
            have ev : outV sp (some i) = .tuple #[.int .i64 ((i : Int) + 1), .agg #[.int .i64 (sp.getD i zeroSp).code, .float .f64 (sp.getD i zeroSp).real], .bool true] := rfl
            rw [ev]
            clear ev
            generalize (sp.getD i zeroSp).code = cd
            generalize (sp.getD i zeroSp).real = rl
            have d1 : decide ((i : Int) + 1 < 1) = false := decide_eq_false (by omega)
            have d2 : decide ((i : Int) + 1 < (i : Int) + 1) = false := decide_eq_false (by omega)
            have d3 : decide (ws cn < s) = true := decide_eq_true hlt2
            have w2i : IntKind.i64.wrap (i : Int) = (i : Int) := IntWalk.i64_in _ (by omega)
            have bi : (0 : Int) ≤ (i : Int) ∧ (i : Int) < (l.length : Int) := by omega
            obtain ⟨bi1, bi2⟩ := bi
            go_wp2_with fail
            refine Calls.ew (ref_Right (cn : Int) s k key bt id _) ?_
            rintro e x8 rfl
            rw [HRr.out]
            go_upto_region 15 with fail
            (refine wp_region_ext_lit (by kernel_rfl) (by kernel_rfl) ?_; (repeat (go_big_quiet_step ((first | (go_at_call 12; exact Calls.ext_of (RQ.out _)) | (go_at_call 15; exact Calls.ext_ofv (ref11_Same (cn : Int) s k key bt id (cn : Int) s k key bt id HRO2.out HRO2.out _) (congrArg Value.bool HSM.out)))))); refine wpQuiet_nil ?_; intro _ hw'; obtain ⟨xa, hw''⟩ := hw'; subst hw'')
            go_upto_region 17 with fail
            (refine wp_region_ext_lit (by kernel_rfl) (by kernel_rfl) ?_; (repeat (go_big_quiet_step ((fail)))); refine wpQuiet_nil ?_; intro _ hw'; obtain ⟨xb, hw''⟩ := hw'; subst hw'')
            go_upto_region 19 with fail
            (refine wp_region_ext_lit (by kernel_rfl) (by kernel_rfl) ?_; (repeat (go_big_quiet_step ((fail)))); refine wpQuiet_nil ?_; intro _ hw'; obtain ⟨xc, hw''⟩ := hw'; subst hw'')
            have XC : Ext Non x6.on xc.on := by (repeat (first | with_reducible exact Ext.refl _ _ | assumption | with_reducible refine Ext.upN ?_ | with_reducible refine Ext.alloc ?_ _ | with_reducible refine Ext.upA (by assumption) ?_ | with_reducible refine Ext.upW ?_ | with_reducible refine Ext.drew ?_ | with_reducible refine Ext.drewN ?_ _ | with_reducible refine Ext.upF ?_ | with_reducible refine Ext.upFF (by first | omega | simp) ?_ | with_reducible refine Ext.setCellsF _ _ _ (by first | omega | simp) ?_ | with_reducible refine Ext.setCellF _ _ _ (by first | omega | simp) ?_ | with_reducible refine Ext.upFN (by first | omega | simp) ?_ | with_reducible refine Ext.up1F (by first | omega | simp) ?_ | with_reducible refine Ext.up1N (by first | omega | simp) ?_ | with_reducible refine Ext.setCell ?_ (.inr (by first | omega | simp)) _ | refine Ext.alloc ?_ _ | refine Ext.setCellF _ _ _ (by first | omega | simp) ?_ | refine Ext.setCell ?_ (.inr (by first | omega | simp)) _))
            have BLc := Go.Lib.hid (BL6.out.extN XC)
            have BQc := Go.Lib.hid (BQ.out.extN XC)
            obtain ⟨xd, hxd⟩ := (x6.ext.trans XC).ew
            rw [hxd] at BLc BQc ⊢
            clear hxd XC xc xb xa
            clear y0 y1 y2 y3 y4 y5 qs
            have z0 : xd.on.cell? ⟨kq, 0, none⟩ = some (.int .i64 (cn : Int)) := BQc.out.cell rfl
            have z1 : xd.on.cell? ⟨kq, 1, none⟩ = some (.int .i64 s) := BQc.out.cell rfl
            have qs : xd.on.cell? ⟨kw, cn, none⟩ = some (.int .i64 (ws cn)) := BLc.out.cell (last_get ws hcn9)
            have fz : xd.on.frozen? ⟨kw, cn, none⟩ = false := froz_of_heap BLc.out.h
            have XS : Ext (One kw) xd.on (xd.on.setCell ⟨kw, cn, none⟩ (.int .i64 s)) := (Ext.refl _ _).set1 _
            have XWr := Go.Lib.hid (xd.ext.own XS (fun q e => by have : q = kw := e; have := HKW.out; omega))
            have BLn : Hid (Bx (xd.on.setCell ⟨kw, cn, none⟩ (.int .i64 s)) kw (lastRow (fun n => if n = cn then s else ws n)) 3) := Go.Lib.hid (by rw [← last_set ws s hcn9]; exact BLc.out.set _)
            clear XS
            go_wp2_with fail
            go_roundg (l.length - (i + 1))
            case measure => have := HG.out; omega
            case rel => exact ⟨i + 1, _, ⟨_, XWr.out⟩, hlt, rfl, by go_num, rfl, BLn, HW'⟩
          · have HW' : Hid (∀ c : Nat, 1 ≤ c → c ≤ 8 → ws c = lastS (gAt xs lr (i + 1)) c) := Go.Lib.hid (fun c' h1 h8 => by
              rw [HON2.out.2.2.2 c', if_neg (fun t => by
                have e : c' = cn := by have := t.2.1; omega
                subst e
                rw [← HWS.out] at t
                exact hlt2 t.2.2)]
              exact HW.out c' h1 h8)
            have d3 : decide (ws cn < s) = false := decide_eq_false hlt2
            rcases HON2.out.2.2.1 HRr.out (by rw [← hws]; omega) with ho | ⟨j, hj, ho, hsm⟩
            · rw [ho]
              clear ho hws
              have ev : outV sp none = .tuple #[.int .i64 0, .agg #[.int .i64 0, .float .f64 0], .bool false] := rfl
              rw [ev]
              clear ev
              go_wp2_with fail
              refine Calls.ew (ref_Right (cn : Int) s k key bt id _) ?_
              rintro e x8 rfl
              rw [HRr.out]
              go_upto_region 15 with fail
              (refine wp_region_ext_lit (by kernel_rfl) (by kernel_rfl) ?_; (repeat (go_big_quiet_step ((fail)))); refine wpQuiet_nil ?_; intro _ hw'; obtain ⟨xa, hw''⟩ := hw'; subst hw'')
              go_upto_region 17 with fail
              (refine wp_region_ext_lit (by kernel_rfl) (by kernel_rfl) ?_; (repeat (go_big_quiet_step ((fail)))); refine wpQuiet_nil ?_; intro _ hw'; obtain ⟨xb, hw''⟩ := hw'; subst hw'')
              go_upto_region 19 with fail
              (refine wp_region_ext_lit (by kernel_rfl) (by kernel_rfl) ?_; (repeat (go_big_quiet_step ((fail)))); refine wpQuiet_nil ?_; intro _ hw'; obtain ⟨xc, hw''⟩ := hw'; subst hw'')
              have BLc := Go.Lib.hid (BL6.out.extN (by (repeat (first | with_reducible exact Ext.refl _ _ | assumption | with_reducible refine Ext.upN ?_ | with_reducible refine Ext.alloc ?_ _ | with_reducible refine Ext.upA (by assumption) ?_ | with_reducible refine Ext.upW ?_ | with_reducible refine Ext.drew ?_ | with_reducible refine Ext.drewN ?_ _ | with_reducible refine Ext.upF ?_ | with_reducible refine Ext.upFF (by first | omega | simp) ?_ | with_reducible refine Ext.setCellsF _ _ _ (by first | omega | simp) ?_ | with_reducible refine Ext.setCellF _ _ _ (by first | omega | simp) ?_ | with_reducible refine Ext.upFN (by first | omega | simp) ?_ | with_reducible refine Ext.up1F (by first | omega | simp) ?_ | with_reducible refine Ext.up1N (by first | omega | simp) ?_ | with_reducible refine Ext.setCell ?_ (.inr (by first | omega | simp)) _ | refine Ext.alloc ?_ _ | refine Ext.setCellF _ _ _ (by first | omega | simp) ?_ | refine Ext.setCell ?_ (.inr (by first | omega | simp)) _)) : Ext Non x6.on xc.on))
              go_wp2_with fail
              go_roundg (l.length - (i + 1))
              case measure => have := HG.out; omega
              case rel => exact ⟨i + 1, ws, ⟨_, by (repeat (first | with_reducible exact Ext.refl _ _ | assumption | with_reducible refine Ext.upN ?_ | with_reducible refine Ext.alloc ?_ _ | with_reducible refine Ext.upA (by assumption) ?_ | with_reducible refine Ext.upW ?_ | with_reducible refine Ext.drew ?_ | with_reducible refine Ext.drewN ?_ _ | with_reducible refine Ext.upF ?_ | with_reducible refine Ext.upFF (by first | omega | simp) ?_ | with_reducible refine Ext.setCellsF _ _ _ (by first | omega | simp) ?_ | with_reducible refine Ext.setCellF _ _ _ (by first | omega | simp) ?_ | with_reducible refine Ext.upFN (by first | omega | simp) ?_ | with_reducible refine Ext.up1F (by first | omega | simp) ?_ | with_reducible refine Ext.up1N (by first | omega | simp) ?_ | with_reducible refine Ext.setCell ?_ (.inr (by first | omega | simp)) _ | refine Ext.alloc ?_ _ | refine Ext.setCellF _ _ _ (by first | omega | simp) ?_ | refine Ext.setCell ?_ (.inr (by first | omega | simp)) _))⟩, hlt, rfl, by go_num, rfl, BLc, HW'⟩
            · have hjl : j < l.length := by omega
              obtain ⟨jc, js, jk, jkey, jb, jid, ej, hjro, p0, p1, p2, p3, p4, p5⟩ := HJ.out j hjl
              rw [ej] at hsm
              have RJ := Go.Lib.hid (fun w => law11_Request jc js jk jkey jb jid w)
              have hsm' : sameT ⟨jc, js, ⟨jk, jkey, jb.toNat, jid⟩⟩ ⟨(cn : Int), s, ⟨k, key, bt, id⟩⟩ = true := hsm
              have hjro' : ReqOk ⟨jc, js, ⟨jk, jkey, jb.toNat, jid⟩⟩ := hjro
              have HSM := Go.Lib.hid hsm'; have HJR := Go.Lib.hid hjro'
              clear hsm hsm' hjro hjro' ej
              generalize jb.toNat = jbt at *
              rw [ho]
              clear ho hws
              have ev : outV sp (some j) = .tuple #[.int .i64 ((j : Int) + 1), .agg #[.int .i64 (sp.getD j zeroSp).code, .float .f64 (sp.getD j zeroSp).real], .bool true] := rfl
              rw [ev]
              clear ev
              generalize (sp.getD j zeroSp).code = cd
              generalize (sp.getD j zeroSp).real = rl
              have d1 : decide ((j : Int) + 1 < 1) = false := decide_eq_false (by omega)
              have d2 : decide ((i : Int) + 1 < (j : Int) + 1) = false := decide_eq_false (by omega)
              have d4 : decide ((0 : Int) < (j : Int) + 1) = true := decide_eq_true (by omega)
              have d5 : decide ((j : Int) + 1 ≤ (i : Int)) = true := decide_eq_true (by omega)
              have d2b : decide ((i : Int) < (j : Int)) = false := decide_eq_false (by omega)
              have d2c : decide (i < j) = false := decide_eq_false (by omega)
              have d5b : decide ((j : Int) < (i : Int)) = true := decide_eq_true (by omega)
              have d5c : decide (j < i) = true := decide_eq_true (by omega)
              have w2i : IntKind.i64.wrap (j : Int) = (j : Int) := IntWalk.i64_in _ (by omega)
              have bi : (0 : Int) ≤ (j : Int) ∧ (j : Int) < (l.length : Int) := by omega
              obtain ⟨bi1, bi2⟩ := bi
              go_wp2_with fail
              refine Calls.ew (ref_Right (cn : Int) s k key bt id _) ?_
              rintro e x8 rfl
              rw [HRr.out]
              go_upto_region 15 with fail
              (refine wp_region_ext_lit (by kernel_rfl) (by kernel_rfl) ?_; (repeat (go_big_quiet_step ((first | (go_at_call 12; exact Calls.ext_of (RJ.out _)) | (go_at_call 15; exact Calls.ext_ofv (ref11_Same jc js jk jkey jbt jid (cn : Int) s k key bt id HJR.out HRO2.out _) (congrArg Value.bool HSM.out)))))); refine wpQuiet_nil ?_; intro _ hw'; obtain ⟨xa, hw''⟩ := hw'; subst hw'')
              go_upto_region 17 with fail
              (refine wp_region_ext_lit (by kernel_rfl) (by kernel_rfl) ?_; (repeat (go_big_quiet_step ((fail)))); refine wpQuiet_nil ?_; intro _ hw'; obtain ⟨xb, hw''⟩ := hw'; subst hw'')
              go_upto_region 19 with fail
              (refine wp_region_ext_lit (by kernel_rfl) (by kernel_rfl) ?_; (repeat (go_big_quiet_step ((fail)))); refine wpQuiet_nil ?_; intro _ hw'; obtain ⟨xc, hw''⟩ := hw'; subst hw'')
              have BLc := Go.Lib.hid (BL6.out.extN (by (repeat (first | with_reducible exact Ext.refl _ _ | assumption | with_reducible refine Ext.upN ?_ | with_reducible refine Ext.alloc ?_ _ | with_reducible refine Ext.upA (by assumption) ?_ | with_reducible refine Ext.upW ?_ | with_reducible refine Ext.drew ?_ | with_reducible refine Ext.drewN ?_ _ | with_reducible refine Ext.upF ?_ | with_reducible refine Ext.upFF (by first | omega | simp) ?_ | with_reducible refine Ext.setCellsF _ _ _ (by first | omega | simp) ?_ | with_reducible refine Ext.setCellF _ _ _ (by first | omega | simp) ?_ | with_reducible refine Ext.upFN (by first | omega | simp) ?_ | with_reducible refine Ext.up1F (by first | omega | simp) ?_ | with_reducible refine Ext.up1N (by first | omega | simp) ?_ | with_reducible refine Ext.setCell ?_ (.inr (by first | omega | simp)) _ | refine Ext.alloc ?_ _ | refine Ext.setCellF _ _ _ (by first | omega | simp) ?_ | refine Ext.setCell ?_ (.inr (by first | omega | simp)) _)) : Ext Non x6.on xc.on))
              go_wp2_with fail
              go_roundg (l.length - (i + 1))
              case measure => have := HG.out; omega
              case rel => exact ⟨i + 1, ws, ⟨_, by (repeat (first | with_reducible exact Ext.refl _ _ | assumption | with_reducible refine Ext.upN ?_ | with_reducible refine Ext.alloc ?_ _ | with_reducible refine Ext.upA (by assumption) ?_ | with_reducible refine Ext.upW ?_ | with_reducible refine Ext.drew ?_ | with_reducible refine Ext.drewN ?_ _ | with_reducible refine Ext.upF ?_ | with_reducible refine Ext.upFF (by first | omega | simp) ?_ | with_reducible refine Ext.setCellsF _ _ _ (by first | omega | simp) ?_ | with_reducible refine Ext.setCellF _ _ _ (by first | omega | simp) ?_ | with_reducible refine Ext.upFN (by first | omega | simp) ?_ | with_reducible refine Ext.up1F (by first | omega | simp) ?_ | with_reducible refine Ext.up1N (by first | omega | simp) ?_ | with_reducible refine Ext.setCell ?_ (.inr (by first | omega | simp)) _ | refine Ext.alloc ?_ _ | refine Ext.setCellF _ _ _ (by first | omega | simp) ?_ | refine Ext.setCell ?_ (.inr (by first | omega | simp)) _))⟩, hlt, rfl, by go_num, rfl, BLc, HW'⟩
      · go_wp2
        go_ret
        exact ⟨rfl, XX.trans (by (repeat (first | with_reducible exact Ext.refl _ _ | assumption | with_reducible refine Ext.upN ?_ | with_reducible refine Ext.alloc ?_ _ | with_reducible refine Ext.upA (by assumption) ?_ | with_reducible refine Ext.upW ?_ | with_reducible refine Ext.drew ?_ | with_reducible refine Ext.drewN ?_ _ | with_reducible refine Ext.upF ?_ | with_reducible refine Ext.upFF (by first | omega | simp) ?_ | with_reducible refine Ext.setCellsF _ _ _ (by first | omega | simp) ?_ | with_reducible refine Ext.setCellF _ _ _ (by first | omega | simp) ?_ | with_reducible refine Ext.upFN (by first | omega | simp) ?_ | with_reducible refine Ext.up1F (by first | omega | simp) ?_ | with_reducible refine Ext.up1N (by first | omega | simp) ?_ | with_reducible refine Ext.setCell ?_ (.inr (by first | omega | simp)) _ | refine Ext.alloc ?_ _ | refine Ext.setCellF _ _ _ (by first | omega | simp) ?_ | refine Ext.setCell ?_ (.inr (by first | omega | simp)) _)))⟩
  · have hbn : (newE ep xs lr != 0) = true := by simpa using hne
    have HNE := Go.Lib.hid hne
    clear hne
    go_enter Try.func3, Try.ntmps3
    go_wp2_with fail
    have B0 := Go.Lib.hid (Bx.newAt w [.int .i64 ep, .slice a xs.length cap] 24 _ rfl)
    refine Calls.ew (law22_lives _) ?_
    rintro e x1 rfl
    go_upto_region 3 with fail
    apply wp_region_rel (relR [Mo.is _, Mo.is _, moLog lr, Mo.is _, Mo.is _, Mo.is _, Mo.is _, Mo.is _, Mo.is _]) (by kernel_rfl) (by kernel_rfl) (by kernel_rfl) (relR_mono _) (StepD.all ?st2) ?q2
    case st2 =>
      refine ⟨?_, ?_, ?_, ?_, ?_, ?_, ?_, ?_, ?_, trivial⟩
      · intro a' w' hx hs hd
        obtain ⟨y, rfl⟩ := hx.ew
        have e2 : a'.tmps[2]?.getD undef = _ := hs 2 rfl
        simp only [List.getElem?_toArray, List.getElem?_cons_succ, List.getElem?_cons_zero, Option.getD_some, Array.getElem?_eq_some_iff] at e2
        refine .inl ⟨rfl, ?_⟩
        clear hs hd hx
        go_simp
        exact ⟨Ext.refl _ _, rfl⟩
      · intro a' w' hx hs hd
        obtain ⟨y, rfl⟩ := hx.ew
        have e1 : a'.tmps[1]?.getD undef = _ := hs 1 rfl
        simp only [List.getElem?_toArray, List.getElem?_cons_succ, List.getElem?_cons_zero, Option.getD_some, Array.getElem?_eq_some_iff] at e1
        refine .inl ⟨rfl, ?_⟩
        clear hs hd hx
        go_simp
        exact ⟨Ext.refl _ _, rfl⟩
      · intro a' w' hx hs hd
        obtain ⟨y, rfl⟩ := hx.ew
        have e17 : a'.tmps[17]?.getD undef = _ := hd 1 17 rfl rfl
        refine .inl ⟨rfl, ?_⟩
        clear hs hd hx
        go_simp
        exact (HLG.out _ (by (repeat (first | with_reducible exact Ext.refl _ _ | assumption | with_reducible refine Ext.upN ?_ | with_reducible refine Ext.alloc ?_ _ | with_reducible refine Ext.upA (by assumption) ?_ | with_reducible refine Ext.upW ?_ | with_reducible refine Ext.drew ?_ | with_reducible refine Ext.drewN ?_ _ | with_reducible refine Ext.upF ?_ | with_reducible refine Ext.upFF (by first | omega | simp) ?_ | with_reducible refine Ext.setCellsF _ _ _ (by first | omega | simp) ?_ | with_reducible refine Ext.setCellF _ _ _ (by first | omega | simp) ?_ | with_reducible refine Ext.upFN (by first | omega | simp) ?_ | with_reducible refine Ext.up1F (by first | omega | simp) ?_ | with_reducible refine Ext.up1N (by first | omega | simp) ?_ | with_reducible refine Ext.setCell ?_ (.inr (by first | omega | simp)) _ | refine Ext.alloc ?_ _ | refine Ext.setCellF _ _ _ (by first | omega | simp) ?_ | refine Ext.setCell ?_ (.inr (by first | omega | simp)) _)))).mono (fun e w'' ⟨ra, rc, he, hR, hx⟩ => ⟨_, he, hx, ra, rc, rfl, hR⟩)
      · intro a' w' hx hs hd
        obtain ⟨y, rfl⟩ := hx.ew
        have e16 : a'.tmps[16]?.getD undef = _ := hd 0 16 rfl rfl
        obtain ⟨ra, rc, e18, hR⟩ : ∃ ra rc, a'.tmps[18]?.getD undef = .slice ra lr.length rc ∧ Reqs y.on ra rc lr := hd 2 18 rfl rfl
        refine .inl ⟨rfl, ?_⟩
        clear hs hd hx
        go_simp
        exact (saga_New_no ep a cap xs ra rc lr HOK.out HNE.out _ (HI.out.extN (by (repeat (first | with_reducible exact Ext.refl _ _ | assumption | with_reducible refine Ext.upN ?_ | with_reducible refine Ext.alloc ?_ _ | with_reducible refine Ext.upA (by assumption) ?_ | with_reducible refine Ext.upW ?_ | with_reducible refine Ext.drew ?_ | with_reducible refine Ext.drewN ?_ _ | with_reducible refine Ext.upF ?_ | with_reducible refine Ext.upFF (by first | omega | simp) ?_ | with_reducible refine Ext.setCellsF _ _ _ (by first | omega | simp) ?_ | with_reducible refine Ext.setCellF _ _ _ (by first | omega | simp) ?_ | with_reducible refine Ext.upFN (by first | omega | simp) ?_ | with_reducible refine Ext.up1F (by first | omega | simp) ?_ | with_reducible refine Ext.up1N (by first | omega | simp) ?_ | with_reducible refine Ext.setCell ?_ (.inr (by first | omega | simp)) _ | refine Ext.alloc ?_ _ | refine Ext.setCellF _ _ _ (by first | omega | simp) ?_ | refine Ext.setCell ?_ (.inr (by first | omega | simp)) _)))) hR).mono (fun e w'' ⟨he, hx⟩ => ⟨_, he, hx, rfl⟩)
      · intro a' w' hx hs hd
        obtain ⟨y, rfl⟩ := hx.ew
        have e19 : a'.tmps[19]?.getD undef = _ := hd 3 19 rfl rfl
        refine .inl ⟨rfl, ?_⟩
        clear hs hd hx
        go_simp
        exact ⟨Ext.refl _ _, rfl⟩
      · intro a' w' hx hs hd
        obtain ⟨y, rfl⟩ := hx.ew
        have e15 : a'.tmps[15]?.getD undef = _ := hd 4 15 rfl rfl
        refine .inl ⟨rfl, ?_⟩
        clear hs hd hx
        go_simp
        exact ⟨Ext.refl _ _, rfl⟩
      · intro a' w' hx hs hd
        obtain ⟨y, rfl⟩ := hx.ew
        have e15 : a'.tmps[15]?.getD undef = _ := hd 4 15 rfl rfl
        refine .inl ⟨rfl, ?_⟩
        clear hs hd hx
        go_simp
        exact ⟨Ext.refl _ _, rfl⟩
      · intro a' w' hx hs hd
        obtain ⟨y, rfl⟩ := hx.ew
        have e20 : a'.tmps[20]?.getD undef = _ := hd 5 20 rfl rfl
        refine .inl ⟨rfl, ?_⟩
        clear hs hd hx
        go_simp
        exact ⟨Ext.refl _ _, rfl⟩
      · intro a' w' hx hs hd
        obtain ⟨y, rfl⟩ := hx.ew
        have e21 : a'.tmps[21]?.getD undef = _ := hd 6 21 rfl rfl
        refine .inl ⟨rfl, ?_⟩
        clear hs hd hx
        go_simp
        exact ⟨Ext.refl _ _, rfl⟩
    case' q2 =>
      intro vs w' hx hRR
      obtain ⟨x2, rfl⟩ := hx.ew
      have q0 : vs 0 = _ := hRR 0 (by decide)
      have q1 : vs 1 = _ := hRR 1 (by decide)
      obtain ⟨ra, rc, q2, hR⟩ : ∃ ra rc, vs 2 = .slice ra lr.length rc ∧ Reqs x2.on ra rc lr := hRR 2 (by decide)
      have q3 : vs 3 = _ := hRR 3 (by decide)
      have q4 : vs 4 = _ := hRR 4 (by decide)
      have q5 : vs 5 = _ := hRR 5 (by decide)
      have q6 : vs 6 = _ := hRR 6 (by decide)
      have q7 : vs 7 = _ := hRR 7 (by decide)
      have q8 : vs 8 = _ := hRR 8 (by decide)
      clear hRR hx
      simp only [putAll, List.take_succ_cons, List.take_zero, List.drop_succ_cons, List.drop_zero, Act.put, List.setIfInBounds_toArray, List.set_cons_zero, List.set_cons_succ, Nat.reduceAdd, Nat.zero_add]
      simp only [q0, q1, q2, q3, q4, q5, q6, q7, q8]
      clear q0 q1 q2 q3 q4 q5 q6 q7 q8 vs
    clear hR
    generalize newE ep xs lr = er at *
    go_wp2
    go_ret
    exact ⟨rfl, by (repeat (first | with_reducible exact Ext.refl _ _ | assumption | with_reducible refine Ext.upN ?_ | with_reducible refine Ext.alloc ?_ _ | with_reducible refine Ext.upA (by assumption) ?_ | with_reducible refine Ext.upW ?_ | with_reducible refine Ext.drew ?_ | with_reducible refine Ext.drewN ?_ _ | with_reducible refine Ext.upF ?_ | with_reducible refine Ext.upFF (by first | omega | simp) ?_ | with_reducible refine Ext.setCellsF _ _ _ (by first | omega | simp) ?_ | with_reducible refine Ext.setCellF _ _ _ (by first | omega | simp) ?_ | with_reducible refine Ext.upFN (by first | omega | simp) ?_ | with_reducible refine Ext.up1F (by first | omega | simp) ?_ | with_reducible refine Ext.up1N (by first | omega | simp) ?_ | with_reducible refine Ext.setCell ?_ (.inr (by first | omega | simp)) _ | refine Ext.alloc ?_ _ | refine Ext.setCellF _ _ _ (by first | omega | simp) ?_ | refine Ext.setCell ?_ (.inr (by first | omega | simp)) _))⟩
set_option maxRecDepth 100000 in
open Go.ChangeShapes Go.WideShapes in
theorem law_SagaOnce {H : Type} {enc : TypeId × Value → H} (W : World) {base : Nat} (v0 : Value) (d0 : DataW H) (p0 : List MemPlace) (v1 : Value) (d1 : DataW H) (p1 : List MemPlace)
    (h0 : DataW.Trod enc Try.prog W 0 (fun _ => true) true 24 v0 d0 p0) (ok0 : Value.okWide Try.prog W .any base 24 v0)
    (h1 : DataW.Trod enc Try.prog W 0 (fun _ => true) true 25 v1 d1 p1) (ok1 : Value.okWide Try.prog W .any base 25 v1)
    {ts : List TypeId} (hts : ts[1]? = some 25) (hz : (DataW.weightsEach Try.prog ts [d0, d1]).all (· ≤ reachBytes) = true) :
    Calls Try.prog 3 #[v0, v1] W fun e w' => e = .returned (.bool true) ∧ Below W.heap.size W w' := by
  obtain ⟨ep, a, cap, xs, rfl, hep, hi, _⟩ := arg_conf ok0 h0
  obtain ⟨pa, pcap, l, rfl, hs, hd⟩ := arg_asks ok1 h1
  exact (walk_SagaOnce ep a cap xs pa pcap l (asks_lim hz hts rfl hd) W hi hs).mono fun _ _ ⟨a, b⟩ => ⟨a, b.toBelow⟩
end Go.Proofs.Ytekbonciafbjiaa
