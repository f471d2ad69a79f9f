/- The law SagaMembers: the walk. -/
import Derived.Test.YtekbonciafbjiaaSagaNew22
namespace Go.Proofs.Ytekbonciafbjiaa
open Go.RowKit Go.Lib F64
set_option linter.unusedSimpArgs false
set_option linter.unusedVariables false
attribute [local go_sem] run_store_float
attribute [local go_sem low] EW.cellN EW.frozN alloc_cell_or alloc_froz_or EW.cellF EW.frozF EW.cell1 EW.froz1
attribute [local go_sem] relAt relUpon
theorem info_conf2 : (Try.prog.info? 24).map (·.size) = some 2 := by kernel_rfl
/-- The last epoch that was. -/
def tN (len n : Nat) : Nat := min (n - 1) (len / 4)
set_option maxHeartbeats 4000000 in
set_option maxRecDepth 100000 in
theorem walk_SagaMembers (ep : Int) (a : Option Addr) (cap : Nat) (xs : List Int) (pa : Option Addr) (pcap : Nat) (l : List Ak) (hlim : l.length * 56 ≤ 140737488351232) (w : World) (hi : Ints w a cap xs) (hs : Aks w pa pcap l) :
    Calls Try.prog 4 #[.agg #[.int .i64 ep, .slice a xs.length cap], .slice pa l.length pcap] w fun e w' => e = .returned (.bool true) ∧ Ext Non w w' := by
  have HI := Go.Lib.hid hi; have HA := Go.Lib.hid hs
  obtain ⟨lr, hlr⟩ : ∃ lr, lr = l.map Ak.req := ⟨_, rfl⟩
  have hll : lr.length = l.length := by rw [hlr, List.length_map]
  have HOK := Go.Lib.hid (aks_ok hs hlr)
  have HLG := Go.Lib.hid (fun w' (x : Ext Non w w') => log_reqs l hlim lr hlr pa pcap w' (hs.extN x))
  have HLL := Go.Lib.hid hll
  have hsm := hs.small; have hsl := hs.le
  clear hi hs hlr hll
  by_cases hne : newE ep xs lr = 0
  · obtain ⟨hm, rfl, hask, hlen⟩ := newE_zero hne
    have HM := Go.Lib.hid hm; have HQ := Go.Lib.hid hask
    have HAO := Go.Lib.hid (askOk_of hask HOK.out)
    clear hne hm hask
    go_enter Try.func4, Try.ntmps4
    go_wp2_with fail
    have B0 := Go.Lib.hid (Bx.newAt w [.int .i64 0, .slice a xs.length cap] 24 _ rfl)
    refine Calls.ew (law22_lives _) ?_
    rintro e x1 rfl
    have X1 : Ext Non w x1.on := by (repeat (first | with_reducible exact Ext.refl _ _ | assumption | with_reducible refine Ext.upN ?_ | with_reducible refine Ext.alloc ?_ _ | with_reducible refine Ext.upA (by assumption) ?_ | with_reducible refine Ext.upW ?_ | with_reducible refine Ext.drew ?_ | with_reducible refine Ext.drewN ?_ _ | with_reducible refine Ext.upF ?_ | with_reducible refine Ext.upFF (by first | omega | simp) ?_ | with_reducible refine Ext.setCellsF _ _ _ (by first | omega | simp) ?_ | with_reducible refine Ext.setCellF _ _ _ (by first | omega | simp) ?_ | with_reducible refine Ext.upFN (by first | omega | simp) ?_ | with_reducible refine Ext.up1F (by first | omega | simp) ?_ | with_reducible refine Ext.up1N (by first | omega | simp) ?_ | with_reducible refine Ext.setCell ?_ (.inr (by first | omega | simp)) _ | refine Ext.alloc ?_ _ | refine Ext.setCellF _ _ _ (by first | omega | simp) ?_ | refine Ext.setCell ?_ (.inr (by first | omega | simp)) _))
    have B1 := Go.Lib.hid (B0.out.extN x1.ext)
    have hb1 : w.heap.size < x1.on.heap.size := B1.out.lt
    go_upto_region 3 with fail
    apply wp_region_rel (relR [Mo.is _, Mo.is _, moLog lr, moNew w.heap.size xs lr, moNew w.heap.size xs lr, moSag w.heap.size xs lr, Mo.is _, moSag w.heap.size xs lr, Mo.is _]) (by kernel_rfl) (by kernel_rfl) (by kernel_rfl) (relR_mono _) (StepD.all ?st1) ?q1
    case st1 =>
      refine ⟨?_, ?_, ?_, ?_, ?_, ?_, ?_, ?_, ?_, trivial⟩
      · intro a' w' hx hs hd
        obtain ⟨y, rfl⟩ := hx.ew
        have e2 : a'.tmps[2]?.getD undef = _ := hs 2 rfl
        simp only [List.getElem?_toArray, List.getElem?_cons_succ, List.getElem?_cons_zero, Option.getD_some, Array.getElem?_eq_some_iff] at e2
        refine .inl ⟨rfl, ?_⟩
        clear hs hd hx
        go_simp
        exact ⟨Ext.refl _ _, rfl⟩
      · intro a' w' hx hs hd
        obtain ⟨y, rfl⟩ := hx.ew
        have e1 : a'.tmps[1]?.getD undef = _ := hs 1 rfl
        simp only [List.getElem?_toArray, List.getElem?_cons_succ, List.getElem?_cons_zero, Option.getD_some, Array.getElem?_eq_some_iff] at e1
        refine .inl ⟨rfl, ?_⟩
        clear hs hd hx
        go_simp
        exact ⟨Ext.refl _ _, rfl⟩
      · intro a' w' hx hs hd
        obtain ⟨y, rfl⟩ := hx.ew
        have e20 : a'.tmps[20]?.getD undef = _ := hd 1 20 rfl rfl
        refine .inl ⟨rfl, ?_⟩
        clear hs hd hx
        go_simp
        exact (HLG.out _ (by (repeat (first | with_reducible exact Ext.refl _ _ | assumption | with_reducible refine Ext.upN ?_ | with_reducible refine Ext.alloc ?_ _ | with_reducible refine Ext.upA (by assumption) ?_ | with_reducible refine Ext.upW ?_ | with_reducible refine Ext.drew ?_ | with_reducible refine Ext.drewN ?_ _ | with_reducible refine Ext.upF ?_ | with_reducible refine Ext.upFF (by first | omega | simp) ?_ | with_reducible refine Ext.setCellsF _ _ _ (by first | omega | simp) ?_ | with_reducible refine Ext.setCellF _ _ _ (by first | omega | simp) ?_ | with_reducible refine Ext.upFN (by first | omega | simp) ?_ | with_reducible refine Ext.up1F (by first | omega | simp) ?_ | with_reducible refine Ext.up1N (by first | omega | simp) ?_ | with_reducible refine Ext.setCell ?_ (.inr (by first | omega | simp)) _ | refine Ext.alloc ?_ _ | refine Ext.setCellF _ _ _ (by first | omega | simp) ?_ | refine Ext.setCell ?_ (.inr (by first | omega | simp)) _)))).mono (fun e w'' ⟨ra, rc, he, hR, hx⟩ => ⟨_, he, hx, ra, rc, rfl, hR⟩)
      · intro a' w' hx hs hd
        obtain ⟨y, rfl⟩ := hx.ew
        have e19 : a'.tmps[19]?.getD undef = _ := hd 0 19 rfl rfl
        obtain ⟨ra, rc, e21, hR⟩ : ∃ ra rc, a'.tmps[21]?.getD undef = .slice ra lr.length rc ∧ Reqs y.on ra rc lr := hd 2 21 rfl rfl
        refine .inl ⟨rfl, ?_⟩
        clear hs hd hx
        go_simp
        exact (saga_New a cap xs HM.out ra rc lr HOK.out HQ.out hlen _ (HI.out.extN (by (repeat (first | with_reducible exact Ext.refl _ _ | assumption | with_reducible refine Ext.upN ?_ | with_reducible refine Ext.alloc ?_ _ | with_reducible refine Ext.upA (by assumption) ?_ | with_reducible refine Ext.upW ?_ | with_reducible refine Ext.drew ?_ | with_reducible refine Ext.drewN ?_ _ | with_reducible refine Ext.upF ?_ | with_reducible refine Ext.upFF (by first | omega | simp) ?_ | with_reducible refine Ext.setCellsF _ _ _ (by first | omega | simp) ?_ | with_reducible refine Ext.setCellF _ _ _ (by first | omega | simp) ?_ | with_reducible refine Ext.upFN (by first | omega | simp) ?_ | with_reducible refine Ext.up1F (by first | omega | simp) ?_ | with_reducible refine Ext.up1N (by first | omega | simp) ?_ | with_reducible refine Ext.setCell ?_ (.inr (by first | omega | simp)) _ | refine Ext.alloc ?_ _ | refine Ext.setCellF _ _ _ (by first | omega | simp) ?_ | refine Ext.setCell ?_ (.inr (by first | omega | simp)) _)))) hR).mono (fun e w'' ⟨s, v1, v2, bs, he, hS, hx⟩ => ⟨_, he, hx, s, v1, v2, bs, rfl, hS.low (by have h1 := y.ext.size; omega)⟩)
      · intro a' w' hx hs hd
        obtain ⟨y, rfl⟩ := hx.ew
        obtain ⟨s3, v13, v23, bs3, e22, hS3⟩ : ∃ s v1 v2 bs, a'.tmps[22]?.getD undef = .tuple #[.pointer (some ⟨s, 0, none⟩), .int .i64 0] ∧ Sag w.heap.size y.on s v1 v2 xs lr bs := hd 3 22 rfl rfl
        refine .inl ⟨rfl, ?_⟩
        clear hs hd hx
        go_simp
        exact ⟨Ext.refl _ _, s3, v13, v23, bs3, rfl, hS3⟩
      · intro a' w' hx hs hd
        obtain ⟨y, rfl⟩ := hx.ew
        obtain ⟨s4, v14, v24, bs4, e18, hS4⟩ : ∃ s v1 v2 bs, a'.tmps[18]?.getD undef = .tuple #[.pointer (some ⟨s, 0, none⟩), .int .i64 0] ∧ Sag w.heap.size y.on s v1 v2 xs lr bs := hd 4 18 rfl rfl
        refine .inl ⟨rfl, ?_⟩
        clear hs hd hx
        go_simp
        exact ⟨Ext.refl _ _, s4, v14, v24, bs4, rfl, hS4⟩
      · intro a' w' hx hs hd
        obtain ⟨y, rfl⟩ := hx.ew
        obtain ⟨s4, v14, v24, bs4, e18, hS4⟩ : ∃ s v1 v2 bs, a'.tmps[18]?.getD undef = .tuple #[.pointer (some ⟨s, 0, none⟩), .int .i64 0] ∧ Sag w.heap.size y.on s v1 v2 xs lr bs := hd 4 18 rfl rfl
        refine .inl ⟨rfl, ?_⟩
        clear hs hd hx
        go_simp
        exact ⟨Ext.refl _ _, rfl⟩
      · intro a' w' hx hs hd
        obtain ⟨y, rfl⟩ := hx.ew
        obtain ⟨s5, v15, v25, bs5, e23, hS5⟩ : ∃ s v1 v2 bs, a'.tmps[23]?.getD undef = .pointer (some ⟨s, 0, none⟩) ∧ Sag w.heap.size y.on s v1 v2 xs lr bs := hd 5 23 rfl rfl
        refine .inl ⟨rfl, ?_⟩
        clear hs hd hx
        go_simp
        exact ⟨Ext.refl _ _, s5, v15, v25, bs5, rfl, hS5⟩
      · intro a' w' hx hs hd
        obtain ⟨y, rfl⟩ := hx.ew
        have e24 : a'.tmps[24]?.getD undef = _ := hd 6 24 rfl rfl
        refine .inl ⟨rfl, ?_⟩
        clear hs hd hx
        go_simp
        exact ⟨Ext.refl _ _, rfl⟩
    case' q1 =>
      intro vs w' hx hRR
      obtain ⟨x2, rfl⟩ := hx.ew
      have q0 : vs 0 = _ := hRR 0 (by decide)
      have q1 : vs 1 = _ := hRR 1 (by decide)
      obtain ⟨ra, rc, q2, hR⟩ : ∃ ra rc, vs 2 = .slice ra lr.length rc ∧ Reqs x2.on ra rc lr := hRR 2 (by decide)
      obtain ⟨s3, v13, v23, bs3, q3, hS3⟩ : ∃ s v1 v2 bs, vs 3 = .tuple #[.pointer (some ⟨s, 0, none⟩), .int .i64 0] ∧ Sag w.heap.size x2.on s v1 v2 xs lr bs := hRR 3 (by decide)
      obtain ⟨s4, v14, v24, bs4, q4, hS4⟩ : ∃ s v1 v2 bs, vs 4 = .tuple #[.pointer (some ⟨s, 0, none⟩), .int .i64 0] ∧ Sag w.heap.size x2.on s v1 v2 xs lr bs := hRR 4 (by decide)
      obtain ⟨s5, v15, v25, bs5, q5, hS5⟩ : ∃ s v1 v2 bs, vs 5 = .pointer (some ⟨s, 0, none⟩) ∧ Sag w.heap.size x2.on s v1 v2 xs lr bs := hRR 5 (by decide)
      have q6 : vs 6 = _ := hRR 6 (by decide)
      obtain ⟨s7, v17, v27, bs7, q7, hS7⟩ : ∃ s v1 v2 bs, vs 7 = .pointer (some ⟨s, 0, none⟩) ∧ Sag w.heap.size x2.on s v1 v2 xs lr bs := hRR 7 (by decide)
      have q8 : vs 8 = _ := hRR 8 (by decide)
      clear hRR hx
      simp only [putAll, List.take_succ_cons, List.take_zero, List.drop_succ_cons, List.drop_zero, Act.put, List.setIfInBounds_toArray, List.set_cons_zero, List.set_cons_succ, Nat.reduceAdd, Nat.zero_add]
      simp only [q0, q1, q2, q3, q4, q5, q6, q7, q8]
      clear q0 q1 q2 q3 q4 q5 q6 q7 q8 vs
    have HS := Go.Lib.hid hS7
    have BC := Go.Lib.hid (B1.out.extN x2.ext)
    have XX : Ext Non w x2.on := by (repeat (first | with_reducible exact Ext.refl _ _ | assumption | with_reducible refine Ext.upN ?_ | with_reducible refine Ext.alloc ?_ _ | with_reducible refine Ext.upA (by assumption) ?_ | with_reducible refine Ext.upW ?_ | with_reducible refine Ext.drew ?_ | with_reducible refine Ext.drewN ?_ _ | with_reducible refine Ext.upF ?_ | with_reducible refine Ext.upFF (by first | omega | simp) ?_ | with_reducible refine Ext.setCellsF _ _ _ (by first | omega | simp) ?_ | with_reducible refine Ext.setCellF _ _ _ (by first | omega | simp) ?_ | with_reducible refine Ext.upFN (by first | omega | simp) ?_ | with_reducible refine Ext.up1F (by first | omega | simp) ?_ | with_reducible refine Ext.up1N (by first | omega | simp) ?_ | with_reducible refine Ext.setCell ?_ (.inr (by first | omega | simp)) _ | refine Ext.alloc ?_ _ | refine Ext.setCellF _ _ _ (by first | omega | simp) ?_ | refine Ext.setCell ?_ (.inr (by first | omega | simp)) _))
    clear hR hS3 hS4 hS5 hS7 B1 X1 hb1 B0
    generalize x2.on = w1 at *
    have c0 : w1.cell? ⟨w.heap.size, 0, none⟩ = some (.int .i64 0) := BC.out.cell rfl
    have c1 : w1.cell? ⟨w.heap.size, 1, none⟩ = some (.slice a xs.length cap) := BC.out.cell rfl
    go_upto_region 7 with (refine wpList_store_box rfl 24 _ _ rfl w1.heap.size _ [.int .i64 0, .slice a xs.length cap] _ rfl rfl (Bx.newAt _ _ _ _ rfl) rfl info_conf2 (by simp [Value.oneCell']) (fun W hB => ?_); have BW := Go.Lib.hid hB; clear hB)
    obtain ⟨x3, hx3⟩ := (by (repeat (first | with_reducible exact Ext.refl _ _ | assumption | with_reducible refine Ext.upN ?_ | with_reducible refine Ext.alloc ?_ _ | with_reducible refine Ext.upA (by assumption) ?_ | with_reducible refine Ext.upW ?_ | with_reducible refine Ext.drew ?_ | with_reducible refine Ext.drewN ?_ _ | with_reducible refine Ext.upF ?_ | with_reducible refine Ext.upFF (by first | omega | simp) ?_ | with_reducible refine Ext.setCellsF _ _ _ (by first | omega | simp) ?_ | with_reducible refine Ext.setCellF _ _ _ (by first | omega | simp) ?_ | with_reducible refine Ext.upFN (by first | omega | simp) ?_ | with_reducible refine Ext.up1F (by first | omega | simp) ?_ | with_reducible refine Ext.up1N (by first | omega | simp) ?_ | with_reducible refine Ext.setCell ?_ (.inr (by first | omega | simp)) _ | refine Ext.alloc ?_ _ | refine Ext.setCellF _ _ _ (by first | omega | simp) ?_ | refine Ext.setCell ?_ (.inr (by first | omega | simp)) _)) : Ext Non w1 W.on).ew
    rw [hx3] at BW ⊢
    clear hx3 W
    try simp only [Act.put]
    generalize hkw : w1.heap.size = kw at *
    have HKW := Go.Lib.hid hkw
    clear hkw
    go_wp2_with fail
    have BW0 : Hid (Bx x3.on kw [.int .i64 0, .slice a (memN xs lr (tN lr.length 1)).length cap] 24) := BW
    go_loopg [8, 9, 10, 11] 60 (fun g nv v9 v10 v11 wr => ∃ (n : Nat) (we : Int) (wa : Option Addr) (wc : Nat) (z : EW Non w1), 1 ≤ n ∧ n ≤ 61 ∧ g = 61 - n ∧ nv = .int .i64 n ∧ wr = z.on ∧ Hid (Bx wr kw [.int .i64 we, .slice wa (memN xs lr (tN lr.length n)).length wc] 24))
    case atStart => exact ⟨1, 0, a, cap, x3, by omega, by omega, rfl, rfl, rfl, BW0⟩
    case round =>
      clear BW BW0
      obtain ⟨n, we, wa, wc, z, hn1, hn61, hg, rfl, rfl, BW⟩ := hrel
      have HG := Go.Lib.hid hg; clear hg
      by_cases hn : n ≤ 60
      · have hd : decide ((n : Int) ≤ 60) = true := decide_eq_true (by omega)
        have wm : IntKind.i64.wrap (4 * (n : Int)) = 4 * (n : Int) := IntWalk.i64_in _ (by omega)
        have wn : IntKind.i64.wrap ((n : Int) + 1) = (n : Int) + 1 := IntWalk.i64_in _ (by omega)
        by_cases h4 : 4 * n ≤ lr.length
        · have hd4 : decide (4 * (n : Int) ≤ (l.length : Int)) = true := decide_eq_true (by have := HLL.out; omega)
          have ht : tN lr.length n = n - 1 := by unfold tN; omega
          have ht' : tN lr.length (n + 1) = n := by unfold tN; omega
          have HT' := Go.Lib.hid ht'
          have hnear : near (memN xs lr n).length (memN xs lr (n - 1)).length 4 := by
            have := mem_near xs lr (n := n - 1) (by omega)
            rwa [show n - 1 + 1 = n by omega] at this
          have hcf := (conf_at xs lr HM.out hlen HAO.out (n := n) (by omega) hn h4).2.2.2
          have HCF := Go.Lib.hid hcf
          have hl10 : (memN xs lr n).length ≤ 10 := by unfold confB at hcf; simp only [Bool.and_eq_true] at hcf; exact (members_facts hcf.2).2.2.2
          rw [ht] at BW
          obtain ⟨hn4a, hn4b⟩ := hnear
          go_wp2_with fail
          refine (saga_Conf_yes _ s7 v17 v27 xs lr bs7 HM.out hlen HAO.out n hn h4 _ (HS.out.extN (by (repeat (first | with_reducible exact Ext.refl _ _ | assumption | with_reducible refine Ext.upN ?_ | with_reducible refine Ext.alloc ?_ _ | with_reducible refine Ext.upA (by assumption) ?_ | with_reducible refine Ext.upW ?_ | with_reducible refine Ext.drew ?_ | with_reducible refine Ext.drewN ?_ _ | with_reducible refine Ext.upF ?_ | with_reducible refine Ext.upFF (by first | omega | simp) ?_ | with_reducible refine Ext.setCellsF _ _ _ (by first | omega | simp) ?_ | with_reducible refine Ext.setCellF _ _ _ (by first | omega | simp) ?_ | with_reducible refine Ext.upFN (by first | omega | simp) ?_ | with_reducible refine Ext.up1F (by first | omega | simp) ?_ | with_reducible refine Ext.up1N (by first | omega | simp) ?_ | with_reducible refine Ext.setCell ?_ (.inr (by first | omega | simp)) _ | refine Ext.alloc ?_ _ | refine Ext.setCellF _ _ _ (by first | omega | simp) ?_ | refine Ext.setCell ?_ (.inr (by first | omega | simp)) _))))).mono ?_
          rintro e _ ⟨ca, cc, rfl, hI, hx⟩
          obtain ⟨x5, rfl⟩ := hx.ew
          have HIc := Go.Lib.hid hI
          clear hI hx hcf ht ht'
          go_upto_region 11 with (refine wpList_store_box rfl 24 _ _ rfl x5.on.heap.size _ [.int .i64 n, .slice ca (memN xs lr n).length cc] _ rfl rfl (Bx.newAt _ _ _ _ rfl) rfl info_conf2 (by simp [Value.oneCell']) (fun W hB => ?_); have BK := Go.Lib.hid hB; clear hB)
          have XW : Ext Non x5.on W.on := by (repeat (first | with_reducible exact Ext.refl _ _ | assumption | with_reducible refine Ext.upN ?_ | with_reducible refine Ext.alloc ?_ _ | with_reducible refine Ext.upA (by assumption) ?_ | with_reducible refine Ext.upW ?_ | with_reducible refine Ext.drew ?_ | with_reducible refine Ext.drewN ?_ _ | with_reducible refine Ext.upF ?_ | with_reducible refine Ext.upFF (by first | omega | simp) ?_ | with_reducible refine Ext.setCellsF _ _ _ (by first | omega | simp) ?_ | with_reducible refine Ext.setCellF _ _ _ (by first | omega | simp) ?_ | with_reducible refine Ext.upFN (by first | omega | simp) ?_ | with_reducible refine Ext.up1F (by first | omega | simp) ?_ | with_reducible refine Ext.up1N (by first | omega | simp) ?_ | with_reducible refine Ext.setCell ?_ (.inr (by first | omega | simp)) _ | refine Ext.alloc ?_ _ | refine Ext.setCellF _ _ _ (by first | omega | simp) ?_ | refine Ext.setCell ?_ (.inr (by first | omega | simp)) _))
          have XZW : Ext Non z.on W.on := x5.ext.trans XW
          have HI6 := Go.Lib.hid (HIc.out.extN XW)
          have BW6 := Go.Lib.hid (BW.out.extN XZW)
          have hkwz : kw < z.on.heap.size := BW.out.lt
          have hk5 : kw < x5.on.heap.size := by have := x5.ext.size; omega
          obtain ⟨x6, hx6⟩ := (z.ext.trans XZW).ew
          rw [hx6] at HI6 BW6 BK ⊢
          clear hx6 XZW XW W BW HIc hkwz
          try simp only [Act.put]
          generalize x5.on.heap.size = kc at *
          clear x5 z
          have y0 : x6.on.cell? ⟨kc, 0, none⟩ = some (.int .i64 n) := BK.out.cell rfl
          have y1 : x6.on.cell? ⟨kc, 1, none⟩ = some (.slice ca (memN xs lr n).length cc) := BK.out.cell rfl
          have u0 : x6.on.cell? ⟨kw, 0, none⟩ = some (.int .i64 we) := BW6.out.cell rfl
          have u1 : x6.on.cell? ⟨kw, 1, none⟩ = some (.slice wa (memN xs lr (n - 1)).length wc) := BW6.out.cell rfl
          have wd : IntKind.i64.wrap (((memN xs lr n).length : Int) - ((memN xs lr (n - 1)).length : Int)) = ((memN xs lr n).length : Int) - ((memN xs lr (n - 1)).length : Int) := IntWalk.i64_in _ (by omega)
          have dg : decide (4 < ((memN xs lr n).length : Int) - ((memN xs lr (n - 1)).length : Int)) = false := decide_eq_false (by omega)
          have dl : decide (((memN xs lr n).length : Int) - ((memN xs lr (n - 1)).length : Int) < -4) = false := decide_eq_false (by omega)
          go_wp2_with fail
          refine Calls.ew (council_Right (n : Int) ca cc (memN xs lr n) _ (HI6.out.extN (by (repeat (first | with_reducible exact Ext.refl _ _ | assumption | with_reducible refine Ext.upN ?_ | with_reducible refine Ext.alloc ?_ _ | with_reducible refine Ext.upA (by assumption) ?_ | with_reducible refine Ext.upW ?_ | with_reducible refine Ext.drew ?_ | with_reducible refine Ext.drewN ?_ _ | with_reducible refine Ext.upF ?_ | with_reducible refine Ext.upFF (by first | omega | simp) ?_ | with_reducible refine Ext.setCellsF _ _ _ (by first | omega | simp) ?_ | with_reducible refine Ext.setCellF _ _ _ (by first | omega | simp) ?_ | with_reducible refine Ext.upFN (by first | omega | simp) ?_ | with_reducible refine Ext.up1F (by first | omega | simp) ?_ | with_reducible refine Ext.up1N (by first | omega | simp) ?_ | with_reducible refine Ext.setCell ?_ (.inr (by first | omega | simp)) _ | refine Ext.alloc ?_ _ | refine Ext.setCellF _ _ _ (by first | omega | simp) ?_ | refine Ext.setCell ?_ (.inr (by first | omega | simp)) _))))) ?_
          rintro e x7 rfl
          rw [HCF.out]
          go_upto_region 9 with (refine wpList_store_box rfl 24 _ _ rfl kw _ [.int .i64 n, .slice ca (memN xs lr n).length cc] _ rfl rfl (BW6.out.extN x7.ext) rfl info_conf2 (by simp [Value.oneCell']) (fun W hB => ?_); have BV := Go.Lib.hid hB; clear hB)
          have XV : Ext Non w1 W.on := (x6.ext.trans x7.ext).own W.ext (fun j e => by have : j = kw := e; have := HKW.out; omega)
          have BV' : Hid (Bx W.on kw [.int .i64 n, .slice ca (memN xs lr (tN lr.length (n + 1))).length cc] 24) := Go.Lib.hid (by rw [HT'.out]; exact BV.out)
          clear y0 y1 u0 u1 wd dg dl
          go_wp2_with fail
          go_roundg (61 - (n + 1))
          case measure => have := HG.out; omega
          case rel => exact ⟨n + 1, n, ca, cc, ⟨_, XV⟩, by omega, by omega, rfl, by go_num, rfl, BV'⟩
        · have hd4 : decide (4 * (n : Int) ≤ (l.length : Int)) = false := decide_eq_false (by have := HLL.out; omega)
          have ht : tN lr.length (n + 1) = tN lr.length n := by unfold tN; omega
          have HT := Go.Lib.hid ht
          clear ht
          go_wp2_with fail
          refine (saga_Conf_no _ s7 v17 v27 xs lr bs7 n (by unfold I64; omega) (.inr (.inr (by omega))) _ (HS.out.extN (by (repeat (first | with_reducible exact Ext.refl _ _ | assumption | with_reducible refine Ext.upN ?_ | with_reducible refine Ext.alloc ?_ _ | with_reducible refine Ext.upA (by assumption) ?_ | with_reducible refine Ext.upW ?_ | with_reducible refine Ext.drew ?_ | with_reducible refine Ext.drewN ?_ _ | with_reducible refine Ext.upF ?_ | with_reducible refine Ext.upFF (by first | omega | simp) ?_ | with_reducible refine Ext.setCellsF _ _ _ (by first | omega | simp) ?_ | with_reducible refine Ext.setCellF _ _ _ (by first | omega | simp) ?_ | with_reducible refine Ext.upFN (by first | omega | simp) ?_ | with_reducible refine Ext.up1F (by first | omega | simp) ?_ | with_reducible refine Ext.up1N (by first | omega | simp) ?_ | with_reducible refine Ext.setCell ?_ (.inr (by first | omega | simp)) _ | refine Ext.alloc ?_ _ | refine Ext.setCellF _ _ _ (by first | omega | simp) ?_ | refine Ext.setCell ?_ (.inr (by first | omega | simp)) _))))).mono ?_
          rintro e _ ⟨rfl, hx⟩
          obtain ⟨x5, rfl⟩ := hx.ew
          have BW5 : Hid (Bx x5.on kw [.int .i64 we, .slice wa (memN xs lr (tN lr.length (n + 1))).length wc] 24) := Go.Lib.hid (by rw [HT.out]; exact BW.out.extN x5.ext)
          clear hx
          go_wp2_with fail
          go_roundg (61 - (n + 1))
          case measure => have := HG.out; omega
          case rel => exact ⟨n + 1, we, wa, wc, ⟨_, by (repeat (first | with_reducible exact Ext.refl _ _ | assumption | with_reducible refine Ext.upN ?_ | with_reducible refine Ext.alloc ?_ _ | with_reducible refine Ext.upA (by assumption) ?_ | with_reducible refine Ext.upW ?_ | with_reducible refine Ext.drew ?_ | with_reducible refine Ext.drewN ?_ _ | with_reducible refine Ext.upF ?_ | with_reducible refine Ext.upFF (by first | omega | simp) ?_ | with_reducible refine Ext.setCellsF _ _ _ (by first | omega | simp) ?_ | with_reducible refine Ext.setCellF _ _ _ (by first | omega | simp) ?_ | with_reducible refine Ext.upFN (by first | omega | simp) ?_ | with_reducible refine Ext.up1F (by first | omega | simp) ?_ | with_reducible refine Ext.up1N (by first | omega | simp) ?_ | with_reducible refine Ext.setCell ?_ (.inr (by first | omega | simp)) _ | refine Ext.alloc ?_ _ | refine Ext.setCellF _ _ _ (by first | omega | simp) ?_ | refine Ext.setCell ?_ (.inr (by first | omega | simp)) _))⟩, by omega, by omega, rfl, by go_num, rfl, Go.Lib.hid (BW5.out.extN (by (repeat (first | with_reducible exact Ext.refl _ _ | assumption | with_reducible refine Ext.upN ?_ | with_reducible refine Ext.alloc ?_ _ | with_reducible refine Ext.upA (by assumption) ?_ | with_reducible refine Ext.upW ?_ | with_reducible refine Ext.drew ?_ | with_reducible refine Ext.drewN ?_ _ | with_reducible refine Ext.upF ?_ | with_reducible refine Ext.upFF (by first | omega | simp) ?_ | with_reducible refine Ext.setCellsF _ _ _ (by first | omega | simp) ?_ | with_reducible refine Ext.setCellF _ _ _ (by first | omega | simp) ?_ | with_reducible refine Ext.upFN (by first | omega | simp) ?_ | with_reducible refine Ext.up1F (by first | omega | simp) ?_ | with_reducible refine Ext.up1N (by first | omega | simp) ?_ | with_reducible refine Ext.setCell ?_ (.inr (by first | omega | simp)) _ | refine Ext.alloc ?_ _ | refine Ext.setCellF _ _ _ (by first | omega | simp) ?_ | refine Ext.setCell ?_ (.inr (by first | omega | simp)) _))))⟩
      · have hd : decide ((n : Int) ≤ 60) = false := decide_eq_false (by omega)
        go_wp2_with fail
        refine (saga_Conf_no _ s7 v17 v27 xs lr bs7 (-1) (by unfold I64; omega) (.inl (by omega)) _ (HS.out.extN (by (repeat (first | with_reducible exact Ext.refl _ _ | assumption | with_reducible refine Ext.upN ?_ | with_reducible refine Ext.alloc ?_ _ | with_reducible refine Ext.upA (by assumption) ?_ | with_reducible refine Ext.upW ?_ | with_reducible refine Ext.drew ?_ | with_reducible refine Ext.drewN ?_ _ | with_reducible refine Ext.upF ?_ | with_reducible refine Ext.upFF (by first | omega | simp) ?_ | with_reducible refine Ext.setCellsF _ _ _ (by first | omega | simp) ?_ | with_reducible refine Ext.setCellF _ _ _ (by first | omega | simp) ?_ | with_reducible refine Ext.upFN (by first | omega | simp) ?_ | with_reducible refine Ext.up1F (by first | omega | simp) ?_ | with_reducible refine Ext.up1N (by first | omega | simp) ?_ | with_reducible refine Ext.setCell ?_ (.inr (by first | omega | simp)) _ | refine Ext.alloc ?_ _ | refine Ext.setCellF _ _ _ (by first | omega | simp) ?_ | refine Ext.setCell ?_ (.inr (by first | omega | simp)) _))))).mono ?_
        rintro e _ ⟨rfl, hx⟩
        obtain ⟨x5, rfl⟩ := hx.ew
        clear hx
        go_wp2_with fail
        refine (saga_Conf_no _ s7 v17 v27 xs lr bs7 61 (by unfold I64; omega) (.inr (.inl (by omega))) _ (HS.out.extN (by (repeat (first | with_reducible exact Ext.refl _ _ | assumption | with_reducible refine Ext.upN ?_ | with_reducible refine Ext.alloc ?_ _ | with_reducible refine Ext.upA (by assumption) ?_ | with_reducible refine Ext.upW ?_ | with_reducible refine Ext.drew ?_ | with_reducible refine Ext.drewN ?_ _ | with_reducible refine Ext.upF ?_ | with_reducible refine Ext.upFF (by first | omega | simp) ?_ | with_reducible refine Ext.setCellsF _ _ _ (by first | omega | simp) ?_ | with_reducible refine Ext.setCellF _ _ _ (by first | omega | simp) ?_ | with_reducible refine Ext.upFN (by first | omega | simp) ?_ | with_reducible refine Ext.up1F (by first | omega | simp) ?_ | with_reducible refine Ext.up1N (by first | omega | simp) ?_ | with_reducible refine Ext.setCell ?_ (.inr (by first | omega | simp)) _ | refine Ext.alloc ?_ _ | refine Ext.setCellF _ _ _ (by first | omega | simp) ?_ | refine Ext.setCell ?_ (.inr (by first | omega | simp)) _))))).mono ?_
        rintro e _ ⟨rfl, hx⟩
        obtain ⟨x6, rfl⟩ := hx.ew
        clear hx
        go_wp2
        go_ret
        exact ⟨rfl, XX.trans (by (repeat (first | with_reducible exact Ext.refl _ _ | assumption | with_reducible refine Ext.upN ?_ | with_reducible refine Ext.alloc ?_ _ | with_reducible refine Ext.upA (by assumption) ?_ | with_reducible refine Ext.upW ?_ | with_reducible refine Ext.drew ?_ | with_reducible refine Ext.drewN ?_ _ | with_reducible refine Ext.upF ?_ | with_reducible refine Ext.upFF (by first | omega | simp) ?_ | with_reducible refine Ext.setCellsF _ _ _ (by first | omega | simp) ?_ | with_reducible refine Ext.setCellF _ _ _ (by first | omega | simp) ?_ | with_reducible refine Ext.upFN (by first | omega | simp) ?_ | with_reducible refine Ext.up1F (by first | omega | simp) ?_ | with_reducible refine Ext.up1N (by first | omega | simp) ?_ | with_reducible refine Ext.setCell ?_ (.inr (by first | omega | simp)) _ | refine Ext.alloc ?_ _ | refine Ext.setCellF _ _ _ (by first | omega | simp) ?_ | refine Ext.setCell ?_ (.inr (by first | omega | simp)) _)))⟩
  · have hbn : (newE ep xs lr != 0) = true := by simpa using hne
    have HNE := Go.Lib.hid hne
    clear hne
    go_enter Try.func4, Try.ntmps4
    go_wp2_with fail
    have B0 := Go.Lib.hid (Bx.newAt w [.int .i64 ep, .slice a xs.length cap] 24 _ rfl)
    refine Calls.ew (law22_lives _) ?_
    rintro e x1 rfl
    go_upto_region 3 with fail
    apply wp_region_rel (relR [Mo.is _, Mo.is _, moLog lr, Mo.is _, Mo.is _, Mo.is _, Mo.is _, Mo.is _, Mo.is _]) (by kernel_rfl) (by kernel_rfl) (by kernel_rfl) (relR_mono _) (StepD.all ?st2) ?q2
    case st2 =>
      refine ⟨?_, ?_, ?_, ?_, ?_, ?_, ?_, ?_, ?_, trivial⟩
      · intro a' w' hx hs hd
        obtain ⟨y, rfl⟩ := hx.ew
        have e2 : a'.tmps[2]?.getD undef = _ := hs 2 rfl
        simp only [List.getElem?_toArray, List.getElem?_cons_succ, List.getElem?_cons_zero, Option.getD_some, Array.getElem?_eq_some_iff] at e2
        refine .inl ⟨rfl, ?_⟩
        clear hs hd hx
        go_simp
        exact ⟨Ext.refl _ _, rfl⟩
      · intro a' w' hx hs hd
        obtain ⟨y, rfl⟩ := hx.ew
        have e1 : a'.tmps[1]?.getD undef = _ := hs 1 rfl
        simp only [List.getElem?_toArray, List.getElem?_cons_succ, List.getElem?_cons_zero, Option.getD_some, Array.getElem?_eq_some_iff] at e1
        refine .inl ⟨rfl, ?_⟩
        clear hs hd hx
        go_simp
        exact ⟨Ext.refl _ _, rfl⟩
      · intro a' w' hx hs hd
        obtain ⟨y, rfl⟩ := hx.ew
        have e20 : a'.tmps[20]?.getD undef = _ := hd 1 20 rfl rfl
        refine .inl ⟨rfl, ?_⟩
        clear hs hd hx
        go_simp
        exact (HLG.out _ (by (repeat (first | with_reducible exact Ext.refl _ _ | assumption | with_reducible refine Ext.upN ?_ | with_reducible refine Ext.alloc ?_ _ | with_reducible refine Ext.upA (by assumption) ?_ | with_reducible refine Ext.upW ?_ | with_reducible refine Ext.drew ?_ | with_reducible refine Ext.drewN ?_ _ | with_reducible refine Ext.upF ?_ | with_reducible refine Ext.upFF (by first | omega | simp) ?_ | with_reducible refine Ext.setCellsF _ _ _ (by first | omega | simp) ?_ | with_reducible refine Ext.setCellF _ _ _ (by first | omega | simp) ?_ | with_reducible refine Ext.upFN (by first | omega | simp) ?_ | with_reducible refine Ext.up1F (by first | omega | simp) ?_ | with_reducible refine Ext.up1N (by first | omega | simp) ?_ | with_reducible refine Ext.setCell ?_ (.inr (by first | omega | simp)) _ | refine Ext.alloc ?_ _ | refine Ext.setCellF _ _ _ (by first | omega | simp) ?_ | refine Ext.setCell ?_ (.inr (by first | omega | simp)) _)))).mono (fun e w'' ⟨ra, rc, he, hR, hx⟩ => ⟨_, he, hx, ra, rc, rfl, hR⟩)
      · intro a' w' hx hs hd
        obtain ⟨y, rfl⟩ := hx.ew
        have e19 : a'.tmps[19]?.getD undef = _ := hd 0 19 rfl rfl
        obtain ⟨ra, rc, e21, hR⟩ : ∃ ra rc, a'.tmps[21]?.getD undef = .slice ra lr.length rc ∧ Reqs y.on ra rc lr := hd 2 21 rfl rfl
        refine .inl ⟨rfl, ?_⟩
        clear hs hd hx
        go_simp
        exact (saga_New_no ep a cap xs ra rc lr HOK.out HNE.out _ (HI.out.extN (by (repeat (first | with_reducible exact Ext.refl _ _ | assumption | with_reducible refine Ext.upN ?_ | with_reducible refine Ext.alloc ?_ _ | with_reducible refine Ext.upA (by assumption) ?_ | with_reducible refine Ext.upW ?_ | with_reducible refine Ext.drew ?_ | with_reducible refine Ext.drewN ?_ _ | with_reducible refine Ext.upF ?_ | with_reducible refine Ext.upFF (by first | omega | simp) ?_ | with_reducible refine Ext.setCellsF _ _ _ (by first | omega | simp) ?_ | with_reducible refine Ext.setCellF _ _ _ (by first | omega | simp) ?_ | with_reducible refine Ext.upFN (by first | omega | simp) ?_ | with_reducible refine Ext.up1F (by first | omega | simp) ?_ | with_reducible refine Ext.up1N (by first | omega | simp) ?_ | with_reducible refine Ext.setCell ?_ (.inr (by first | omega | simp)) _ | refine Ext.alloc ?_ _ | refine Ext.setCellF _ _ _ (by first | omega | simp) ?_ | refine Ext.setCell ?_ (.inr (by first | omega | simp)) _)))) hR).mono (fun e w'' ⟨he, hx⟩ => ⟨_, he, hx, rfl⟩)
      · intro a' w' hx hs hd
        obtain ⟨y, rfl⟩ := hx.ew
        have e22 : a'.tmps[22]?.getD undef = _ := hd 3 22 rfl rfl
        refine .inl ⟨rfl, ?_⟩
        clear hs hd hx
        go_simp
        exact ⟨Ext.refl _ _, rfl⟩
      · intro a' w' hx hs hd
        obtain ⟨y, rfl⟩ := hx.ew
        have e18 : a'.tmps[18]?.getD undef = _ := hd 4 18 rfl rfl
        refine .inl ⟨rfl, ?_⟩
        clear hs hd hx
        go_simp
        exact ⟨Ext.refl _ _, rfl⟩
      · intro a' w' hx hs hd
        obtain ⟨y, rfl⟩ := hx.ew
        have e18 : a'.tmps[18]?.getD undef = _ := hd 4 18 rfl rfl
        refine .inl ⟨rfl, ?_⟩
        clear hs hd hx
        go_simp
        exact ⟨Ext.refl _ _, rfl⟩
      · intro a' w' hx hs hd
        obtain ⟨y, rfl⟩ := hx.ew
        have e23 : a'.tmps[23]?.getD undef = _ := hd 5 23 rfl rfl
        refine .inl ⟨rfl, ?_⟩
        clear hs hd hx
        go_simp
        exact ⟨Ext.refl _ _, rfl⟩
      · intro a' w' hx hs hd
        obtain ⟨y, rfl⟩ := hx.ew
        have e24 : a'.tmps[24]?.getD undef = _ := hd 6 24 rfl rfl
        refine .inl ⟨rfl, ?_⟩
        clear hs hd hx
        go_simp
        exact ⟨Ext.refl _ _, rfl⟩
    case' q2 =>
      intro vs w' hx hRR
      obtain ⟨x2, rfl⟩ := hx.ew
      have q0 : vs 0 = _ := hRR 0 (by decide)
      have q1 : vs 1 = _ := hRR 1 (by decide)
      obtain ⟨ra, rc, q2, hR⟩ : ∃ ra rc, vs 2 = .slice ra lr.length rc ∧ Reqs x2.on ra rc lr := hRR 2 (by decide)
      have q3 : vs 3 = _ := hRR 3 (by decide)
      have q4 : vs 4 = _ := hRR 4 (by decide)
      have q5 : vs 5 = _ := hRR 5 (by decide)
      have q6 : vs 6 = _ := hRR 6 (by decide)
      have q7 : vs 7 = _ := hRR 7 (by decide)
      have q8 : vs 8 = _ := hRR 8 (by decide)
      clear hRR hx
      simp only [putAll, List.take_succ_cons, List.take_zero, List.drop_succ_cons, List.drop_zero, Act.put, List.setIfInBounds_toArray, List.set_cons_zero, List.set_cons_succ, Nat.reduceAdd, Nat.zero_add]
      simp only [q0, q1, q2, q3, q4, q5, q6, q7, q8]
      clear q0 q1 q2 q3 q4 q5 q6 q7 q8 vs
    clear hR
    generalize newE ep xs lr = er at *
    go_wp2
    go_ret
    exact ⟨rfl, by (repeat (first | with_reducible exact Ext.refl _ _ | assumption | with_reducible refine Ext.upN ?_ | with_reducible refine Ext.alloc ?_ _ | with_reducible refine Ext.upA (by assumption) ?_ | with_reducible refine Ext.upW ?_ | with_reducible refine Ext.drew ?_ | with_reducible refine Ext.drewN ?_ _ | with_reducible refine Ext.upF ?_ | with_reducible refine Ext.upFF (by first | omega | simp) ?_ | with_reducible refine Ext.setCellsF _ _ _ (by first | omega | simp) ?_ | with_reducible refine Ext.setCellF _ _ _ (by first | omega | simp) ?_ | with_reducible refine Ext.upFN (by first | omega | simp) ?_ | with_reducible refine Ext.up1F (by first | omega | simp) ?_ | with_reducible refine Ext.up1N (by first | omega | simp) ?_ | with_reducible refine Ext.setCell ?_ (.inr (by first | omega | simp)) _ | refine Ext.alloc ?_ _ | refine Ext.setCellF _ _ _ (by first | omega | simp) ?_ | refine Ext.setCell ?_ (.inr (by first | omega | simp)) _))⟩
set_option maxRecDepth 100000 in
open Go.ChangeShapes Go.WideShapes in
theorem law_SagaMembers {H : Type} {enc : TypeId × Value → H} (W : World) {base : Nat} (v0 : Value) (d0 : DataW H) (p0 : List MemPlace) (v1 : Value) (d1 : DataW H) (p1 : List MemPlace)
    (h0 : DataW.Trod enc Try.prog W 0 (fun _ => true) true 24 v0 d0 p0) (ok0 : Value.okWide Try.prog W .any base 24 v0)
    (h1 : DataW.Trod enc Try.prog W 0 (fun _ => true) true 25 v1 d1 p1) (ok1 : Value.okWide Try.prog W .any base 25 v1)
    {ts : List TypeId} (hts : ts[1]? = some 25) (hz : (DataW.weightsEach Try.prog ts [d0, d1]).all (· ≤ reachBytes) = true) :
    Calls Try.prog 4 #[v0, v1] W fun e w' => e = .returned (.bool true) ∧ Below W.heap.size W w' := by
  obtain ⟨ep, a, cap, xs, rfl, hep, hi, _⟩ := arg_conf ok0 h0
  obtain ⟨pa, pcap, l, rfl, hs, hd⟩ := arg_asks ok1 h1
  exact (walk_SagaMembers ep a cap xs pa pcap l (asks_lim hz hts rfl hd) W hi hs).mono fun _ _ ⟨a, b⟩ => ⟨a, b.toBelow⟩
end Go.Proofs.Ytekbonciafbjiaa
