/- The law SagaBegins: the walk. -/
import Derived.Test.YtekbonciafbjiaaSagaNew22
import Derived.Test.YtekbonciafbjiaaSagaNil22
import Derived.Test.YtekbonciafbjiaaJoinH
namespace Go.Proofs.Ytekbonciafbjiaa
open Go.RowKit Go.Lib F64
set_option linter.unusedSimpArgs false
set_option linter.unusedVariables false
attribute [local go_sem] run_store_float
attribute [local go_sem low] EW.cellN EW.frozN alloc_cell_or alloc_froz_or EW.cellF EW.frozF EW.cell1 EW.froz1
attribute [local go_sem] relAt relUpon
theorem begin_n (k : Int) (R : Nat) (h : R ≤ 1048576) : ∃ n : Nat, n ≤ R ∧ wrap64 ((IntKind.u64.wrap k).tmod ((R : Int) + 1)) = (n : Int) := by
  have hU : 0 ≤ IntKind.u64.wrap k := by
    show 0 ≤ k % 18446744073709551616
    exact Int.emod_nonneg _ (by decide)
  generalize IntKind.u64.wrap k = U at *
  have h1 : 0 ≤ U.tmod ((R : Int) + 1) := Int.tmod_nonneg _ hU
  have h2 : U.tmod ((R : Int) + 1) < (R : Int) + 1 := Int.tmod_lt_of_pos _ (by omega)
  generalize U.tmod ((R : Int) + 1) = m at *
  refine ⟨m.toNat, by omega, ?_⟩
  have e : wrap64 m = m := IntWalk.wrap64_in m (by omega)
  rw [e]; omega
theorem cut_asks (pa : Option Addr) (L pcap n : Nat) (h : n ≤ pcap) (W : World) : (Instr.slice 25 (.slice pa L pcap) none (some (.int .i64 (n : Int))) none).run Try.prog W = .ok (.slice pa n pcap) W := by
  have e2 : (Try.prog.info? 40).map (·.size) = some 6 := by kernel_rfl
  have e3 : Try.prog.elem 25 = 40 := by kernel_rfl
  rw [run_slice_h (P := Try.prog) W 25 pa L pcap (by kernel_rfl) .i64 (n : Int) (by omega) (by omega), e3]
  cases hp : Try.prog.info? 40 with
  | none => rw [hp] at e2; cases e2
  | some i =>
    rw [hp] at e2
    simp only [Option.map_some, Option.some.injEq] at e2
    simp [sizeOf, typeInfo, hp, e2, sliced]
    try cases pa <;> simp [Addr.add]
theorem aks_take {w : World} {a : Option Addr} {cap : Nat} {l : List Ak} (h : Aks w a cap l) (n : Nat) : Aks w a cap (l.take n) :=
  ⟨by have := h.le; rw [List.length_take]; omega, h.small, fun j hj => by
    have hj2 : j < l.length := by rw [List.length_take] at hj; omega
    obtain ⟨b, o, e, hb, hc, ho⟩ := h.at_ j hj2
    have e2 : (l.take n)[j] = l[j] := List.getElem_take
    exact ⟨b, o, e, hb, fun i v hv => hc i v (by rw [← e2]; exact hv), by rw [e2]; exact ho⟩⟩
theorem outV_any (sp : List Sp) (o : Option Nat) : ∃ (m cd : Int) (rl : Nat) (b : Bool), outV sp o = .tuple #[.int .i64 m, .agg #[.int .i64 cd, .float .f64 rl], .bool b] := by
  cases o with
  | none => exact ⟨_, _, _, _, rfl⟩
  | some i => exact ⟨_, _, _, _, rfl⟩
/-- What the beginning's Outcome says, the whole one's says. -/
theorem outV_take (q : Req) (sp : List Sp) (k : Nat) : ∃ (m1 cd1 : Int) (rl1 : Nat) (b1 : Bool) (m2 cd2 : Int) (rl2 : Nat) (b2 : Bool),
    outV (sp.take k) (outI q (sp.take k)) = .tuple #[.int .i64 m1, .agg #[.int .i64 cd1, .float .f64 rl1], .bool b1] ∧ outV sp (outI q sp) = .tuple #[.int .i64 m2, .agg #[.int .i64 cd2, .float .f64 rl2], .bool b2] ∧ (b1 = true → b2 = true ∧ m1 = m2 ∧ cd1 = cd2 ∧ rl1 = rl2) := by
  cases h : outI q (sp.take k) with
  | none =>
    obtain ⟨m2, cd2, rl2, b2, e⟩ := outV_any sp (outI q sp)
    exact ⟨_, _, _, false, m2, cd2, rl2, b2, rfl, e, fun h => (nomatch h)⟩
  | some i =>
    obtain ⟨h1, h2⟩ := outI_take q sp k i h
    rw [h1]
    have hd : (sp.take k).getD i zeroSp = sp.getD i zeroSp := by
      rw [List.getD_eq_getElem?_getD, List.getD_eq_getElem?_getD, List.getElem?_take, if_pos h2]
    exact ⟨_, _, _, true, _, _, _, true, rfl, rfl, fun _ => ⟨rfl, rfl, by rw [hd], by rw [hd]⟩⟩
set_option maxHeartbeats 4000000 in
set_option maxRecDepth 100000 in
theorem walk_SagaBegins (ep : Int) (a : Option Addr) (cap : Nat) (xs : List Int) (pa : Option Addr) (pcap : Nat) (l : List Ak) (hlim : l.length * 56 ≤ 140737488351232) (n eq : Int) (hq1 : I64 eq) (tu : Bool) (c s k : Int) (key : ByteArray) (b id : Int) (hro : ReqOk ⟨c, s, ⟨k, key, b.toNat, id⟩⟩) (ba : Option Addr) (bc : Nat) (bad : List Int) (w : World) (hi : Ints w a cap xs) (hs : Aks w pa pcap l) (hb : Ints w ba bc bad) :
    Calls Try.prog 7 #[.agg #[.int .i64 ep, .slice a xs.length cap], .slice pa l.length pcap, .agg #[.int .i64 n, .int .i64 eq, .bool tu, .int .i64 c, .int .i64 s, .int .i64 k, .string key, .int .u64 b, .int .i64 id, .slice ba bad.length bc]] w fun e w' => e = .returned (.bool true) ∧ Ext Non w w' := by
  have HI := Go.Lib.hid hi; have HA := Go.Lib.hid hs; have HBD := Go.Lib.hid hb; have HRO := Go.Lib.hid hro
  obtain ⟨lr, hlr⟩ : ∃ lr, lr = l.map Ak.req := ⟨_, rfl⟩
  have hll : lr.length = l.length := by rw [hlr, List.length_map]
  have HOK := Go.Lib.hid (aks_ok hs hlr)
  have HLG := Go.Lib.hid (fun w' (x : Ext Non w w') => log_reqs l hlim lr hlr pa pcap w' (hs.extN x))
  have HLL := Go.Lib.hid hll
  have HLR := Go.Lib.hid hlr
  have hsm := hs.small; have hsl := hs.le
  clear hi hs hlr hll hb hro
  by_cases hne : newE ep xs lr = 0
  · obtain ⟨hm, rfl, hask, hlen⟩ := newE_zero hne
    have HM := Go.Lib.hid hm; have HQ := Go.Lib.hid hask
    have HAO := Go.Lib.hid (askOk_of hask HOK.out)
    clear hne hm hask
    go_enter Try.func7, Try.ntmps7
    go_wp2_with fail
    have B0 := Go.Lib.hid ((Bx.newAt w [.int .i64 0, .slice a xs.length cap] 24 _ rfl).alloc (.cells #[.int .i64 n, .int .i64 eq, .bool tu, .int .i64 c, .int .i64 s, .int .i64 k, .string key, .int .u64 b, .int .i64 id, .slice ba bad.length bc] 65))
    have BQ := Go.Lib.hid (Bx.newAt (w.alloc (.cells [Value.int .i64 0, .slice a xs.length cap].toArray 24)) [.int .i64 n, .int .i64 eq, .bool tu, .int .i64 c, .int .i64 s, .int .i64 k, .string key, .int .u64 b, .int .i64 id, .slice ba bad.length bc] 65 (w.heap.size + 1) (by simp))
    refine Calls.ew (law22_lives _) ?_
    rintro e x1 rfl
    have X1 : Ext Non w x1.on := by (repeat (first | with_reducible exact Ext.refl _ _ | assumption | with_reducible refine Ext.upN ?_ | with_reducible refine Ext.alloc ?_ _ | with_reducible refine Ext.upA (by assumption) ?_ | with_reducible refine Ext.upW ?_ | with_reducible refine Ext.drew ?_ | with_reducible refine Ext.drewN ?_ _ | with_reducible refine Ext.upF ?_ | with_reducible refine Ext.upFF (by first | omega | simp) ?_ | with_reducible refine Ext.setCellsF _ _ _ (by first | omega | simp) ?_ | with_reducible refine Ext.setCellF _ _ _ (by first | omega | simp) ?_ | with_reducible refine Ext.upFN (by first | omega | simp) ?_ | with_reducible refine Ext.up1F (by first | omega | simp) ?_ | with_reducible refine Ext.up1N (by first | omega | simp) ?_ | with_reducible refine Ext.setCell ?_ (.inr (by first | omega | simp)) _ | refine Ext.alloc ?_ _ | refine Ext.setCellF _ _ _ (by first | omega | simp) ?_ | refine Ext.setCell ?_ (.inr (by first | omega | simp)) _))
    have B1 := Go.Lib.hid (B0.out.extN x1.ext)
    have BQ1 := Go.Lib.hid (BQ.out.extN x1.ext)
    have hb1 : w.heap.size < x1.on.heap.size := B1.out.lt
    go_upto_region 3 with fail
    apply wp_region_rel (relR [Mo.is _, Mo.is _, moLog lr, moNew w.heap.size xs lr, moNew w.heap.size xs lr, moSag w.heap.size xs lr, Mo.is _, moSag w.heap.size xs lr, Mo.is _]) (by kernel_rfl) (by kernel_rfl) (by kernel_rfl) (relR_mono _) (StepD.all ?st1) ?q1
    case st1 =>
      refine ⟨?_, ?_, ?_, ?_, ?_, ?_, ?_, ?_, ?_, trivial⟩
      · intro a' w' hx hs hd
        obtain ⟨y, rfl⟩ := hx.ew
        have e3 : a'.tmps[3]?.getD undef = _ := hs 3 rfl
        simp only [List.getElem?_toArray, List.getElem?_cons_succ, List.getElem?_cons_zero, Option.getD_some, Array.getElem?_eq_some_iff] at e3
        refine .inl ⟨rfl, ?_⟩
        clear hs hd hx
        go_simp
        exact ⟨Ext.refl _ _, rfl⟩
      · intro a' w' hx hs hd
        obtain ⟨y, rfl⟩ := hx.ew
        have e1 : a'.tmps[1]?.getD undef = _ := hs 1 rfl
        simp only [List.getElem?_toArray, List.getElem?_cons_succ, List.getElem?_cons_zero, Option.getD_some, Array.getElem?_eq_some_iff] at e1
        refine .inl ⟨rfl, ?_⟩
        clear hs hd hx
        go_simp
        exact ⟨Ext.refl _ _, rfl⟩
      · intro a' w' hx hs hd
        obtain ⟨y, rfl⟩ := hx.ew
        have e30 : a'.tmps[30]?.getD undef = _ := hd 1 30 rfl rfl
        refine .inl ⟨rfl, ?_⟩
        clear hs hd hx
        go_simp
        exact (HLG.out _ (by (repeat (first | with_reducible exact Ext.refl _ _ | assumption | with_reducible refine Ext.upN ?_ | with_reducible refine Ext.alloc ?_ _ | with_reducible refine Ext.upA (by assumption) ?_ | with_reducible refine Ext.upW ?_ | with_reducible refine Ext.drew ?_ | with_reducible refine Ext.drewN ?_ _ | with_reducible refine Ext.upF ?_ | with_reducible refine Ext.upFF (by first | omega | simp) ?_ | with_reducible refine Ext.setCellsF _ _ _ (by first | omega | simp) ?_ | with_reducible refine Ext.setCellF _ _ _ (by first | omega | simp) ?_ | with_reducible refine Ext.upFN (by first | omega | simp) ?_ | with_reducible refine Ext.up1F (by first | omega | simp) ?_ | with_reducible refine Ext.up1N (by first | omega | simp) ?_ | with_reducible refine Ext.setCell ?_ (.inr (by first | omega | simp)) _ | refine Ext.alloc ?_ _ | refine Ext.setCellF _ _ _ (by first | omega | simp) ?_ | refine Ext.setCell ?_ (.inr (by first | omega | simp)) _)))).mono (fun e w'' ⟨ra, rc, he, hR, hx⟩ => ⟨_, he, hx, ra, rc, rfl, hR⟩)
      · intro a' w' hx hs hd
        obtain ⟨y, rfl⟩ := hx.ew
        have e29 : a'.tmps[29]?.getD undef = _ := hd 0 29 rfl rfl
        obtain ⟨ra, rc, e31, hR⟩ : ∃ ra rc, a'.tmps[31]?.getD undef = .slice ra lr.length rc ∧ Reqs y.on ra rc lr := hd 2 31 rfl rfl
        refine .inl ⟨rfl, ?_⟩
        clear hs hd hx
        go_simp
        exact (saga_New a cap xs HM.out ra rc lr HOK.out HQ.out hlen _ (HI.out.extN (by (repeat (first | with_reducible exact Ext.refl _ _ | assumption | with_reducible refine Ext.upN ?_ | with_reducible refine Ext.alloc ?_ _ | with_reducible refine Ext.upA (by assumption) ?_ | with_reducible refine Ext.upW ?_ | with_reducible refine Ext.drew ?_ | with_reducible refine Ext.drewN ?_ _ | with_reducible refine Ext.upF ?_ | with_reducible refine Ext.upFF (by first | omega | simp) ?_ | with_reducible refine Ext.setCellsF _ _ _ (by first | omega | simp) ?_ | with_reducible refine Ext.setCellF _ _ _ (by first | omega | simp) ?_ | with_reducible refine Ext.upFN (by first | omega | simp) ?_ | with_reducible refine Ext.up1F (by first | omega | simp) ?_ | with_reducible refine Ext.up1N (by first | omega | simp) ?_ | with_reducible refine Ext.setCell ?_ (.inr (by first | omega | simp)) _ | refine Ext.alloc ?_ _ | refine Ext.setCellF _ _ _ (by first | omega | simp) ?_ | refine Ext.setCell ?_ (.inr (by first | omega | simp)) _)))) hR).mono (fun e w'' ⟨s, v1, v2, bs, he, hS, hx⟩ => ⟨_, he, hx, s, v1, v2, bs, rfl, hS.low (by have h1 := y.ext.size; omega)⟩)
      · intro a' w' hx hs hd
        obtain ⟨y, rfl⟩ := hx.ew
        obtain ⟨s3, v13, v23, bs3, e32, hS3⟩ : ∃ s v1 v2 bs, a'.tmps[32]?.getD undef = .tuple #[.pointer (some ⟨s, 0, none⟩), .int .i64 0] ∧ Sag w.heap.size y.on s v1 v2 xs lr bs := hd 3 32 rfl rfl
        refine .inl ⟨rfl, ?_⟩
        clear hs hd hx
        go_simp
        exact ⟨Ext.refl _ _, s3, v13, v23, bs3, rfl, hS3⟩
      · intro a' w' hx hs hd
        obtain ⟨y, rfl⟩ := hx.ew
        obtain ⟨s4, v14, v24, bs4, e28, hS4⟩ : ∃ s v1 v2 bs, a'.tmps[28]?.getD undef = .tuple #[.pointer (some ⟨s, 0, none⟩), .int .i64 0] ∧ Sag w.heap.size y.on s v1 v2 xs lr bs := hd 4 28 rfl rfl
        refine .inl ⟨rfl, ?_⟩
        clear hs hd hx
        go_simp
        exact ⟨Ext.refl _ _, s4, v14, v24, bs4, rfl, hS4⟩
      · intro a' w' hx hs hd
        obtain ⟨y, rfl⟩ := hx.ew
        obtain ⟨s4, v14, v24, bs4, e28, hS4⟩ : ∃ s v1 v2 bs, a'.tmps[28]?.getD undef = .tuple #[.pointer (some ⟨s, 0, none⟩), .int .i64 0] ∧ Sag w.heap.size y.on s v1 v2 xs lr bs := hd 4 28 rfl rfl
        refine .inl ⟨rfl, ?_⟩
        clear hs hd hx
        go_simp
        exact ⟨Ext.refl _ _, rfl⟩
      · intro a' w' hx hs hd
        obtain ⟨y, rfl⟩ := hx.ew
        obtain ⟨s5, v15, v25, bs5, e33, hS5⟩ : ∃ s v1 v2 bs, a'.tmps[33]?.getD undef = .pointer (some ⟨s, 0, none⟩) ∧ Sag w.heap.size y.on s v1 v2 xs lr bs := hd 5 33 rfl rfl
        refine .inl ⟨rfl, ?_⟩
        clear hs hd hx
        go_simp
        exact ⟨Ext.refl _ _, s5, v15, v25, bs5, rfl, hS5⟩
      · intro a' w' hx hs hd
        obtain ⟨y, rfl⟩ := hx.ew
        have e34 : a'.tmps[34]?.getD undef = _ := hd 6 34 rfl rfl
        refine .inl ⟨rfl, ?_⟩
        clear hs hd hx
        go_simp
        exact ⟨Ext.refl _ _, rfl⟩
    case' q1 =>
      intro vs w' hx hRR
      obtain ⟨x2, rfl⟩ := hx.ew
      have q0 : vs 0 = _ := hRR 0 (by decide)
      have q1 : vs 1 = _ := hRR 1 (by decide)
      obtain ⟨ra, rc, q2, hR⟩ : ∃ ra rc, vs 2 = .slice ra lr.length rc ∧ Reqs x2.on ra rc lr := hRR 2 (by decide)
      obtain ⟨s3, v13, v23, bs3, q3, hS3⟩ : ∃ s v1 v2 bs, vs 3 = .tuple #[.pointer (some ⟨s, 0, none⟩), .int .i64 0] ∧ Sag w.heap.size x2.on s v1 v2 xs lr bs := hRR 3 (by decide)
      obtain ⟨s4, v14, v24, bs4, q4, hS4⟩ : ∃ s v1 v2 bs, vs 4 = .tuple #[.pointer (some ⟨s, 0, none⟩), .int .i64 0] ∧ Sag w.heap.size x2.on s v1 v2 xs lr bs := hRR 4 (by decide)
      obtain ⟨s5, v15, v25, bs5, q5, hS5⟩ : ∃ s v1 v2 bs, vs 5 = .pointer (some ⟨s, 0, none⟩) ∧ Sag w.heap.size x2.on s v1 v2 xs lr bs := hRR 5 (by decide)
      have q6 : vs 6 = _ := hRR 6 (by decide)
      obtain ⟨s7, v17, v27, bs7, q7, hS7⟩ : ∃ s v1 v2 bs, vs 7 = .pointer (some ⟨s, 0, none⟩) ∧ Sag w.heap.size x2.on s v1 v2 xs lr bs := hRR 7 (by decide)
      have q8 : vs 8 = _ := hRR 8 (by decide)
      clear hRR hx
      simp only [putAll, List.take_succ_cons, List.take_zero, List.drop_succ_cons, List.drop_zero, Act.put, List.setIfInBounds_toArray, List.set_cons_zero, List.set_cons_succ, Nat.reduceAdd, Nat.zero_add]
      simp only [q0, q1, q2, q3, q4, q5, q6, q7, q8]
      clear q0 q1 q2 q3 q4 q5 q6 q7 q8 vs
    have HS := Go.Lib.hid hS7
    have XX := Go.Lib.hid (by (repeat (first | with_reducible exact Ext.refl _ _ | assumption | with_reducible refine Ext.upN ?_ | with_reducible refine Ext.alloc ?_ _ | with_reducible refine Ext.upA (by assumption) ?_ | with_reducible refine Ext.upW ?_ | with_reducible refine Ext.drew ?_ | with_reducible refine Ext.drewN ?_ _ | with_reducible refine Ext.upF ?_ | with_reducible refine Ext.upFF (by first | omega | simp) ?_ | with_reducible refine Ext.setCellsF _ _ _ (by first | omega | simp) ?_ | with_reducible refine Ext.setCellF _ _ _ (by first | omega | simp) ?_ | with_reducible refine Ext.upFN (by first | omega | simp) ?_ | with_reducible refine Ext.up1F (by first | omega | simp) ?_ | with_reducible refine Ext.up1N (by first | omega | simp) ?_ | with_reducible refine Ext.setCell ?_ (.inr (by first | omega | simp)) _ | refine Ext.alloc ?_ _ | refine Ext.setCellF _ _ _ (by first | omega | simp) ?_ | refine Ext.setCell ?_ (.inr (by first | omega | simp)) _)) : Ext Non w x2.on)
    have BC := Go.Lib.hid (B1.out.extN x2.ext)
    have BQ2 := Go.Lib.hid (BQ1.out.extN x2.ext)
    have HA1 := Go.Lib.hid (HA.out.extN XX.out)
    have HI1 := Go.Lib.hid (HI.out.extN XX.out)
    have HB1 := Go.Lib.hid (HBD.out.extN XX.out)
    have hbw : w.heap.size + 1 < x2.on.heap.size := BQ2.out.lt
    clear hR hS3 hS4 hS5 hS7 B1 X1 hb1 B0 HA HI HBD BQ BQ1 HLG
    generalize x2.on = w1 at *
    generalize w.heap.size + 1 = kq at *
    generalize w.heap.size = kb at *
    have b0 : w1.cell? ⟨kb, 0, none⟩ = some (.int .i64 0) := BC.out.cell rfl
    have b1 : w1.cell? ⟨kb, 1, none⟩ = some (.slice a xs.length cap) := BC.out.cell rfl
    have q0 : w1.cell? ⟨kq, 0, none⟩ = some (.int .i64 n) := BQ2.out.cell rfl
    have q1 : w1.cell? ⟨kq, 1, none⟩ = some (.int .i64 eq) := BQ2.out.cell rfl
    have q2 : w1.cell? ⟨kq, 2, none⟩ = some (.bool tu) := BQ2.out.cell rfl
    have q3 : w1.cell? ⟨kq, 3, none⟩ = some (.int .i64 c) := BQ2.out.cell rfl
    have q4 : w1.cell? ⟨kq, 4, none⟩ = some (.int .i64 s) := BQ2.out.cell rfl
    have q5 : w1.cell? ⟨kq, 5, none⟩ = some (.int .i64 k) := BQ2.out.cell rfl
    have q6 : w1.cell? ⟨kq, 6, none⟩ = some (.string key) := BQ2.out.cell rfl
    have q7 : w1.cell? ⟨kq, 7, none⟩ = some (.int .u64 b) := BQ2.out.cell rfl
    have q8 : w1.cell? ⟨kq, 8, none⟩ = some (.int .i64 id) := BQ2.out.cell rfl
    have q9 : w1.cell? ⟨kq, 9, none⟩ = some (.slice ba bad.length bc) := BQ2.out.cell rfl
    have hw1 : IntKind.i64.wrap ((l.length : Int) + 1) = ((l.length + 1 : Nat) : Int) := (IntWalk.i64_in _ (by have := HLL.out; omega)).trans (by omega)
    obtain ⟨kn, hkn1, hkn2⟩ := begin_n n l.length (by have := HLL.out; omega)
    go_upto_region 7 with fail
    rw [hkn2]
    clear hkn2 hw1
    have hcut := cut_asks pa l.length pcap kn (by omega)
    obtain ⟨lk, hlk⟩ : ∃ lk, lk = lr.take kn := ⟨_, rfl⟩
    have hlkl : lk.length = kn := by rw [hlk, List.length_take]; have := HLL.out; omega
    have HLK := Go.Lib.hid hlk
    have HLKL := Go.Lib.hid hlkl
    have HLG2 : Hid (∀ w', Ext Non w1 w' → Calls Try.prog 11 #[.slice pa kn pcap] w' fun e w'' => ∃ ra rc, e = .returned (.slice ra lk.length rc) ∧ Reqs w'' ra rc lk ∧ Ext Non w' w'') := Go.Lib.hid (fun w' x => by
      have h := log_reqs (l.take kn) (by rw [List.length_take]; omega) lk (by rw [hlk, HLR.out, List.map_take]) pa pcap w' ((aks_take HA1.out kn).extN x)
      rw [List.length_take, Nat.min_eq_left hkn1] at h
      exact h)
    have HOKk : Hid (∀ r ∈ lk, ReqOk r) := Go.Lib.hid (fun r hr => HOK.out r (by rw [hlk] at hr; exact List.mem_of_mem_take hr))
    have HQk : Hid (∀ r ∈ lk, askedB r = true) := Go.Lib.hid (fun r hr => HQ.out r (by rw [hlk] at hr; exact List.mem_of_mem_take hr))
    have HAOk : Hid (∀ q ∈ lk, AskOk q) := Go.Lib.hid (fun r hr => HAO.out r (by rw [hlk] at hr; exact List.mem_of_mem_take hr))
    have hlenk : lk.length ≤ 244 := by rw [hlkl]; have := HLL.out; omega
    clear hlk hlkl
    apply wp_region_rel (relR [Mo.is _, Mo.is _, Mo.is _, Mo.is _, moLog lk, moNew 0 xs lk, moNew 0 xs lk, moSag 0 xs lk, Mo.is _, moSag 0 xs lk, Mo.is _]) (by kernel_rfl) (by kernel_rfl) (by kernel_rfl) (relR_mono _) (StepD.all ?st2) ?q2
    case st2 =>
      refine ⟨?_, ?_, ?_, ?_, ?_, ?_, ?_, ?_, ?_, ?_, ?_, trivial⟩
      · intro a' w' hx hs hd
        obtain ⟨y, rfl⟩ := hx.ew
        have e3 : a'.tmps[3]?.getD undef = _ := hs 3 rfl
        simp only [List.getElem?_toArray, List.getElem?_cons_succ, List.getElem?_cons_zero, Option.getD_some, Array.getElem?_eq_some_iff] at e3
        refine .inl ⟨rfl, ?_⟩
        clear hs hd hx
        go_simp
        exact ⟨Ext.refl _ _, rfl⟩
      · intro a' w' hx hs hd
        obtain ⟨y, rfl⟩ := hx.ew
        have e1 : a'.tmps[1]?.getD undef = _ := hs 1 rfl
        simp only [List.getElem?_toArray, List.getElem?_cons_succ, List.getElem?_cons_zero, Option.getD_some, Array.getElem?_eq_some_iff] at e1
        refine .inl ⟨rfl, ?_⟩
        clear hs hd hx
        go_simp
        exact ⟨Ext.refl _ _, rfl⟩
      · intro a' w' hx hs hd
        obtain ⟨y, rfl⟩ := hx.ew
        have e9 : a'.tmps[9]?.getD undef = _ := hs 9 rfl
        simp only [List.getElem?_toArray, List.getElem?_cons_succ, List.getElem?_cons_zero, Option.getD_some, Array.getElem?_eq_some_iff] at e9
        refine .inl ⟨rfl, ?_⟩
        clear hs hd hx
        go_simp
        exact ⟨Ext.refl _ _, rfl⟩
      · intro a' w' hx hs hd
        obtain ⟨y, rfl⟩ := hx.ew
        have e50 : a'.tmps[50]?.getD undef = _ := hd 1 50 rfl rfl
        have e51 : a'.tmps[51]?.getD undef = _ := hd 2 51 rfl rfl
        refine .inl ⟨rfl, ?_⟩
        clear hs hd hx
        go_simp
        exact ⟨Ext.refl _ _, rfl⟩
      · intro a' w' hx hs hd
        obtain ⟨y, rfl⟩ := hx.ew
        have e52 : a'.tmps[52]?.getD undef = _ := hd 3 52 rfl rfl
        refine .inl ⟨rfl, ?_⟩
        clear hs hd hx
        go_simp
        exact (HLG2.out _ (by (repeat (first | with_reducible exact Ext.refl _ _ | assumption | with_reducible refine Ext.upN ?_ | with_reducible refine Ext.alloc ?_ _ | with_reducible refine Ext.upA (by assumption) ?_ | with_reducible refine Ext.upW ?_ | with_reducible refine Ext.drew ?_ | with_reducible refine Ext.drewN ?_ _ | with_reducible refine Ext.upF ?_ | with_reducible refine Ext.upFF (by first | omega | simp) ?_ | with_reducible refine Ext.setCellsF _ _ _ (by first | omega | simp) ?_ | with_reducible refine Ext.setCellF _ _ _ (by first | omega | simp) ?_ | with_reducible refine Ext.upFN (by first | omega | simp) ?_ | with_reducible refine Ext.up1F (by first | omega | simp) ?_ | with_reducible refine Ext.up1N (by first | omega | simp) ?_ | with_reducible refine Ext.setCell ?_ (.inr (by first | omega | simp)) _ | refine Ext.alloc ?_ _ | refine Ext.setCellF _ _ _ (by first | omega | simp) ?_ | refine Ext.setCell ?_ (.inr (by first | omega | simp)) _)))).mono (fun e w'' ⟨ra, rc, he, hR, hx⟩ => ⟨_, he, hx, ra, rc, rfl, hR⟩)
      · intro a' w' hx hs hd
        obtain ⟨y, rfl⟩ := hx.ew
        have e49 : a'.tmps[49]?.getD undef = _ := hd 0 49 rfl rfl
        obtain ⟨ta, tc, e53, hR⟩ : ∃ ra rc, a'.tmps[53]?.getD undef = .slice ra lk.length rc ∧ Reqs y.on ra rc lk := hd 4 53 rfl rfl
        refine .inl ⟨rfl, ?_⟩
        clear hs hd hx
        go_simp
        exact (saga_New a cap xs HM.out ta tc lk HOKk.out HQk.out hlenk _ (HI1.out.extN (by (repeat (first | with_reducible exact Ext.refl _ _ | assumption | with_reducible refine Ext.upN ?_ | with_reducible refine Ext.alloc ?_ _ | with_reducible refine Ext.upA (by assumption) ?_ | with_reducible refine Ext.upW ?_ | with_reducible refine Ext.drew ?_ | with_reducible refine Ext.drewN ?_ _ | with_reducible refine Ext.upF ?_ | with_reducible refine Ext.upFF (by first | omega | simp) ?_ | with_reducible refine Ext.setCellsF _ _ _ (by first | omega | simp) ?_ | with_reducible refine Ext.setCellF _ _ _ (by first | omega | simp) ?_ | with_reducible refine Ext.upFN (by first | omega | simp) ?_ | with_reducible refine Ext.up1F (by first | omega | simp) ?_ | with_reducible refine Ext.up1N (by first | omega | simp) ?_ | with_reducible refine Ext.setCell ?_ (.inr (by first | omega | simp)) _ | refine Ext.alloc ?_ _ | refine Ext.setCellF _ _ _ (by first | omega | simp) ?_ | refine Ext.setCell ?_ (.inr (by first | omega | simp)) _)))) hR).mono (fun e w'' ⟨s, v1, v2, bs, he, hS, hx⟩ => ⟨_, he, hx, s, v1, v2, bs, rfl, hS.low (Nat.zero_le _)⟩)
      · intro a' w' hx hs hd
        obtain ⟨y, rfl⟩ := hx.ew
        obtain ⟨s3, v13, v23, bs3, e54, hS3⟩ : ∃ s v1 v2 bs, a'.tmps[54]?.getD undef = .tuple #[.pointer (some ⟨s, 0, none⟩), .int .i64 0] ∧ Sag 0 y.on s v1 v2 xs lk bs := hd 5 54 rfl rfl
        refine .inl ⟨rfl, ?_⟩
        clear hs hd hx
        go_simp
        exact ⟨Ext.refl _ _, s3, v13, v23, bs3, rfl, hS3⟩
      · intro a' w' hx hs hd
        obtain ⟨y, rfl⟩ := hx.ew
        obtain ⟨s4, v14, v24, bs4, e48, hS4⟩ : ∃ s v1 v2 bs, a'.tmps[48]?.getD undef = .tuple #[.pointer (some ⟨s, 0, none⟩), .int .i64 0] ∧ Sag 0 y.on s v1 v2 xs lk bs := hd 6 48 rfl rfl
        refine .inl ⟨rfl, ?_⟩
        clear hs hd hx
        go_simp
        exact ⟨Ext.refl _ _, s4, v14, v24, bs4, rfl, hS4⟩
      · intro a' w' hx hs hd
        obtain ⟨y, rfl⟩ := hx.ew
        obtain ⟨s4, v14, v24, bs4, e48, hS4⟩ : ∃ s v1 v2 bs, a'.tmps[48]?.getD undef = .tuple #[.pointer (some ⟨s, 0, none⟩), .int .i64 0] ∧ Sag 0 y.on s v1 v2 xs lk bs := hd 6 48 rfl rfl
        refine .inl ⟨rfl, ?_⟩
        clear hs hd hx
        go_simp
        exact ⟨Ext.refl _ _, rfl⟩
      · intro a' w' hx hs hd
        obtain ⟨y, rfl⟩ := hx.ew
        obtain ⟨s5, v15, v25, bs5, e55, hS5⟩ : ∃ s v1 v2 bs, a'.tmps[55]?.getD undef = .pointer (some ⟨s, 0, none⟩) ∧ Sag 0 y.on s v1 v2 xs lk bs := hd 7 55 rfl rfl
        refine .inl ⟨rfl, ?_⟩
        clear hs hd hx
        go_simp
        exact ⟨Ext.refl _ _, s5, v15, v25, bs5, rfl, hS5⟩
      · intro a' w' hx hs hd
        obtain ⟨y, rfl⟩ := hx.ew
        have e56 : a'.tmps[56]?.getD undef = _ := hd 8 56 rfl rfl
        refine .inl ⟨rfl, ?_⟩
        clear hs hd hx
        go_simp
        exact ⟨Ext.refl _ _, rfl⟩
    case' q2 =>
      intro vs w' hx hRR
      obtain ⟨x3, rfl⟩ := hx.ew
      have q0 : vs 0 = _ := hRR 0 (by decide)
      have q1 : vs 1 = _ := hRR 1 (by decide)
      have q2 : vs 2 = _ := hRR 2 (by decide)
      have q3 : vs 3 = _ := hRR 3 (by decide)
      obtain ⟨ta, tc, q4, hR⟩ : ∃ ra rc, vs 4 = .slice ra lk.length rc ∧ Reqs x3.on ra rc lk := hRR 4 (by decide)
      obtain ⟨s3, v13, v23, bs3, q5, hS3⟩ : ∃ s v1 v2 bs, vs 5 = .tuple #[.pointer (some ⟨s, 0, none⟩), .int .i64 0] ∧ Sag 0 x3.on s v1 v2 xs lk bs := hRR 5 (by decide)
      obtain ⟨s4, v14, v24, bs4, q6, hS4⟩ : ∃ s v1 v2 bs, vs 6 = .tuple #[.pointer (some ⟨s, 0, none⟩), .int .i64 0] ∧ Sag 0 x3.on s v1 v2 xs lk bs := hRR 6 (by decide)
      obtain ⟨s5, v15, v25, bs5, q7, hS5⟩ : ∃ s v1 v2 bs, vs 7 = .pointer (some ⟨s, 0, none⟩) ∧ Sag 0 x3.on s v1 v2 xs lk bs := hRR 7 (by decide)
      have q8 : vs 8 = _ := hRR 8 (by decide)
      obtain ⟨t7, u17, u27, ds7, q9, hT7⟩ : ∃ s v1 v2 bs, vs 9 = .pointer (some ⟨s, 0, none⟩) ∧ Sag 0 x3.on s v1 v2 xs lk bs := hRR 9 (by decide)
      have q10 : vs 10 = _ := hRR 10 (by decide)
      clear hRR hx
      simp only [putAll, List.take_succ_cons, List.take_zero, List.drop_succ_cons, List.drop_zero, Act.put, List.setIfInBounds_toArray, List.set_cons_zero, List.set_cons_succ, Nat.reduceAdd, Nat.zero_add]
      simp only [q0, q1, q2, q3, q4, q5, q6, q7, q8, q9, q10]
      clear q0 q1 q2 q3 q4 q5 q6 q7 q8 q9 q10 vs
    have HT := Go.Lib.hid hT7
    clear hR hS3 hS4 hS5 hT7 hcut HLG2
    -- region 8
    go_wp2_with fail
    refine Calls.ew (saga_Len 0 t7 u17 u27 xs lk ds7 _ (HT.out.extN (by (repeat (first | with_reducible exact Ext.refl _ _ | assumption | with_reducible refine Ext.upN ?_ | with_reducible refine Ext.alloc ?_ _ | with_reducible refine Ext.upA (by assumption) ?_ | with_reducible refine Ext.upW ?_ | with_reducible refine Ext.drew ?_ | with_reducible refine Ext.drewN ?_ _ | with_reducible refine Ext.upF ?_ | with_reducible refine Ext.upFF (by first | omega | simp) ?_ | with_reducible refine Ext.setCellsF _ _ _ (by first | omega | simp) ?_ | with_reducible refine Ext.setCellF _ _ _ (by first | omega | simp) ?_ | with_reducible refine Ext.upFN (by first | omega | simp) ?_ | with_reducible refine Ext.up1F (by first | omega | simp) ?_ | with_reducible refine Ext.up1N (by first | omega | simp) ?_ | with_reducible refine Ext.setCell ?_ (.inr (by first | omega | simp)) _ | refine Ext.alloc ?_ _ | refine Ext.setCellF _ _ _ (by first | omega | simp) ?_ | refine Ext.setCell ?_ (.inr (by first | omega | simp)) _))))) ?_
    rintro e x4 rfl
    rw [HLKL.out]
    go_wp2_with fail
    refine Calls.ew (saga_State 0 t7 u17 u27 xs lk ds7 HM.out (by omega) (fun q hq => (HAOk.out q hq).2) kn (by have := HLKL.out; omega) tu _ (HT.out.extN (by (repeat (first | with_reducible exact Ext.refl _ _ | assumption | with_reducible refine Ext.upN ?_ | with_reducible refine Ext.alloc ?_ _ | with_reducible refine Ext.upA (by assumption) ?_ | with_reducible refine Ext.upW ?_ | with_reducible refine Ext.drew ?_ | with_reducible refine Ext.drewN ?_ _ | with_reducible refine Ext.upF ?_ | with_reducible refine Ext.upFF (by first | omega | simp) ?_ | with_reducible refine Ext.setCellsF _ _ _ (by first | omega | simp) ?_ | with_reducible refine Ext.setCellF _ _ _ (by first | omega | simp) ?_ | with_reducible refine Ext.upFN (by first | omega | simp) ?_ | with_reducible refine Ext.up1F (by first | omega | simp) ?_ | with_reducible refine Ext.up1N (by first | omega | simp) ?_ | with_reducible refine Ext.setCell ?_ (.inr (by first | omega | simp)) _ | refine Ext.alloc ?_ _ | refine Ext.setCellF _ _ _ (by first | omega | simp) ?_ | refine Ext.setCell ?_ (.inr (by first | omega | simp)) _))))) ?_
    rintro e x5 rfl
    rw [show gAt xs lk kn = gAt xs lr kn by rw [HLK.out]; exact gAt_take xs lr (Nat.le_refl _)]
    have HKN : Hid (kn ≤ lr.length) := Go.Lib.hid (by have := HLL.out; omega)
    obtain ⟨ss, hss⟩ : ∃ ss, ss = stS (gAt xs lr kn) tu := ⟨_, rfl⟩
    obtain ⟨sb, hsb⟩ : ∃ sb, sb = stB (gAt xs lr kn) tu := ⟨_, rfl⟩
    rw [← hss, ← hsb]
    have HSS := Go.Lib.hid hss; have HSB := Go.Lib.hid hsb
    clear hss hsb
    go_wp2_with fail
    refine Calls.ew (saga_State kb s7 v17 v27 xs lr bs7 HM.out (by omega) (fun q hq => (HAO.out q hq).2) kn HKN.out tu _ (HS.out.extN (by (repeat (first | with_reducible exact Ext.refl _ _ | assumption | with_reducible refine Ext.upN ?_ | with_reducible refine Ext.alloc ?_ _ | with_reducible refine Ext.upA (by assumption) ?_ | with_reducible refine Ext.upW ?_ | with_reducible refine Ext.drew ?_ | with_reducible refine Ext.drewN ?_ _ | with_reducible refine Ext.upF ?_ | with_reducible refine Ext.upFF (by first | omega | simp) ?_ | with_reducible refine Ext.setCellsF _ _ _ (by first | omega | simp) ?_ | with_reducible refine Ext.setCellF _ _ _ (by first | omega | simp) ?_ | with_reducible refine Ext.upFN (by first | omega | simp) ?_ | with_reducible refine Ext.up1F (by first | omega | simp) ?_ | with_reducible refine Ext.up1N (by first | omega | simp) ?_ | with_reducible refine Ext.setCell ?_ (.inr (by first | omega | simp)) _ | refine Ext.alloc ?_ _ | refine Ext.setCellF _ _ _ (by first | omega | simp) ?_ | refine Ext.setCell ?_ (.inr (by first | omega | simp)) _))))) ?_
    rintro e x6 rfl
    rw [← HSS.out, ← HSB.out]
    clear HSS HSB
    go_wp2_with fail
    refine (saga_ConfA 0 t7 u17 u27 xs lk ds7 HM.out hlenk HAOk.out eq hq1 _ (HT.out.extN (by (repeat (first | with_reducible exact Ext.refl _ _ | assumption | with_reducible refine Ext.upN ?_ | with_reducible refine Ext.alloc ?_ _ | with_reducible refine Ext.upA (by assumption) ?_ | with_reducible refine Ext.upW ?_ | with_reducible refine Ext.drew ?_ | with_reducible refine Ext.drewN ?_ _ | with_reducible refine Ext.upF ?_ | with_reducible refine Ext.upFF (by first | omega | simp) ?_ | with_reducible refine Ext.setCellsF _ _ _ (by first | omega | simp) ?_ | with_reducible refine Ext.setCellF _ _ _ (by first | omega | simp) ?_ | with_reducible refine Ext.upFN (by first | omega | simp) ?_ | with_reducible refine Ext.up1F (by first | omega | simp) ?_ | with_reducible refine Ext.up1N (by first | omega | simp) ?_ | with_reducible refine Ext.setCell ?_ (.inr (by first | omega | simp)) _ | refine Ext.alloc ?_ _ | refine Ext.setCellF _ _ _ (by first | omega | simp) ?_ | refine Ext.setCell ?_ (.inr (by first | omega | simp)) _))))).mono ?_
    rintro e _ ⟨ca1, cc1, ys1, rfl, hI, hx, hys1⟩
    obtain ⟨x7, rfl⟩ := hx.ew
    have HI1c := Go.Lib.hid hI; have HY1 := Go.Lib.hid hys1
    clear hI hx hys1
    obtain ⟨ce1, hce1⟩ : ∃ ce1, ce1 = cfE lk.length eq := ⟨_, rfl⟩
    obtain ⟨i1, hi1⟩ : ∃ i1, i1 = cfB lk.length eq := ⟨_, rfl⟩
    rw [← hce1, ← hi1]
    rw [← hi1] at HY1
    have HCE1 := Go.Lib.hid hce1; have HI1e := Go.Lib.hid hi1
    clear hce1 hi1
    go_upto_region 13 with (refine wpList_store_box rfl 24 _ _ rfl x7.on.heap.size _ [.int .i64 ce1, .slice ca1 ys1.length cc1] _ rfl rfl (Bx.newAt _ _ _ _ rfl) rfl info_confS (by simp [Value.oneCell']) (fun W hB => ?_); have BK1 := Go.Lib.hid hB; clear hB)
    have XW : Ext Non x7.on W.on := by (repeat (first | with_reducible exact Ext.refl _ _ | assumption | with_reducible refine Ext.upN ?_ | with_reducible refine Ext.alloc ?_ _ | with_reducible refine Ext.upA (by assumption) ?_ | with_reducible refine Ext.upW ?_ | with_reducible refine Ext.drew ?_ | with_reducible refine Ext.drewN ?_ _ | with_reducible refine Ext.upF ?_ | with_reducible refine Ext.upFF (by first | omega | simp) ?_ | with_reducible refine Ext.setCellsF _ _ _ (by first | omega | simp) ?_ | with_reducible refine Ext.setCellF _ _ _ (by first | omega | simp) ?_ | with_reducible refine Ext.upFN (by first | omega | simp) ?_ | with_reducible refine Ext.up1F (by first | omega | simp) ?_ | with_reducible refine Ext.up1N (by first | omega | simp) ?_ | with_reducible refine Ext.setCell ?_ (.inr (by first | omega | simp)) _ | refine Ext.alloc ?_ _ | refine Ext.setCellF _ _ _ (by first | omega | simp) ?_ | refine Ext.setCell ?_ (.inr (by first | omega | simp)) _))
    have HT1 := Go.Lib.hid (HT.out.extN ((by (repeat (first | with_reducible exact Ext.refl _ _ | assumption | with_reducible refine Ext.upN ?_ | with_reducible refine Ext.alloc ?_ _ | with_reducible refine Ext.upA (by assumption) ?_ | with_reducible refine Ext.upW ?_ | with_reducible refine Ext.drew ?_ | with_reducible refine Ext.drewN ?_ _ | with_reducible refine Ext.upF ?_ | with_reducible refine Ext.upFF (by first | omega | simp) ?_ | with_reducible refine Ext.setCellsF _ _ _ (by first | omega | simp) ?_ | with_reducible refine Ext.setCellF _ _ _ (by first | omega | simp) ?_ | with_reducible refine Ext.upFN (by first | omega | simp) ?_ | with_reducible refine Ext.up1F (by first | omega | simp) ?_ | with_reducible refine Ext.up1N (by first | omega | simp) ?_ | with_reducible refine Ext.setCell ?_ (.inr (by first | omega | simp)) _ | refine Ext.alloc ?_ _ | refine Ext.setCellF _ _ _ (by first | omega | simp) ?_ | refine Ext.setCell ?_ (.inr (by first | omega | simp)) _)) : Ext Non x3.on x7.on).trans XW))
    have HI1d := Go.Lib.hid (HI1c.out.extN XW)
    have XW1 : Ext Non w1 W.on := (by (repeat (first | with_reducible exact Ext.refl _ _ | assumption | with_reducible refine Ext.upN ?_ | with_reducible refine Ext.alloc ?_ _ | with_reducible refine Ext.upA (by assumption) ?_ | with_reducible refine Ext.upW ?_ | with_reducible refine Ext.drew ?_ | with_reducible refine Ext.drewN ?_ _ | with_reducible refine Ext.upF ?_ | with_reducible refine Ext.upFF (by first | omega | simp) ?_ | with_reducible refine Ext.setCellsF _ _ _ (by first | omega | simp) ?_ | with_reducible refine Ext.setCellF _ _ _ (by first | omega | simp) ?_ | with_reducible refine Ext.upFN (by first | omega | simp) ?_ | with_reducible refine Ext.up1F (by first | omega | simp) ?_ | with_reducible refine Ext.up1N (by first | omega | simp) ?_ | with_reducible refine Ext.setCell ?_ (.inr (by first | omega | simp)) _ | refine Ext.alloc ?_ _ | refine Ext.setCellF _ _ _ (by first | omega | simp) ?_ | refine Ext.setCell ?_ (.inr (by first | omega | simp)) _)) : Ext Non w1 x7.on).trans XW
    obtain ⟨y1, hy1⟩ := XW1.ew
    rw [hy1] at HI1d HT1 BK1 ⊢
    clear HI1c HT hy1 XW1 XW W
    try simp only [Act.put]
    generalize x7.on.heap.size = kc1 at *
    clear x7 x6 x5 x4 x3
    -- the other one's configuration
    go_wp2_with fail
    refine (saga_ConfA kb s7 v17 v27 xs lr bs7 HM.out hlen HAO.out eq hq1 _ (HS.out.extN (by (repeat (first | with_reducible exact Ext.refl _ _ | assumption | with_reducible refine Ext.upN ?_ | with_reducible refine Ext.alloc ?_ _ | with_reducible refine Ext.upA (by assumption) ?_ | with_reducible refine Ext.upW ?_ | with_reducible refine Ext.drew ?_ | with_reducible refine Ext.drewN ?_ _ | with_reducible refine Ext.upF ?_ | with_reducible refine Ext.upFF (by first | omega | simp) ?_ | with_reducible refine Ext.setCellsF _ _ _ (by first | omega | simp) ?_ | with_reducible refine Ext.setCellF _ _ _ (by first | omega | simp) ?_ | with_reducible refine Ext.upFN (by first | omega | simp) ?_ | with_reducible refine Ext.up1F (by first | omega | simp) ?_ | with_reducible refine Ext.up1N (by first | omega | simp) ?_ | with_reducible refine Ext.setCell ?_ (.inr (by first | omega | simp)) _ | refine Ext.alloc ?_ _ | refine Ext.setCellF _ _ _ (by first | omega | simp) ?_ | refine Ext.setCell ?_ (.inr (by first | omega | simp)) _))))).mono ?_
    rintro e _ ⟨ca2, cc2, ys2, rfl, hI, hx, hys2⟩
    obtain ⟨x8, rfl⟩ := hx.ew
    have HI2c := Go.Lib.hid hI; have HY2 := Go.Lib.hid hys2
    clear hI hx hys2
    obtain ⟨ce2, hce2⟩ : ∃ ce2, ce2 = cfE lr.length eq := ⟨_, rfl⟩
    obtain ⟨i2, hi2⟩ : ∃ i2, i2 = cfB lr.length eq := ⟨_, rfl⟩
    rw [← hce2, ← hi2]
    rw [← hi2] at HY2
    have HCI : Hid (i1 = true → i2 = true ∧ (decide (ce1 = ce2) && decide (ys1 = ys2)) = true) := Go.Lib.hid (fun h => by
      have h1 : cfB lk.length eq = true := by rw [← HI1e.out]; exact h
      obtain ⟨c1, c2, c3⟩ := cfB_iff.1 h1
      have hk := HLKL.out; have hk2 := HKN.out
      have h2 : cfB lr.length eq = true := cfB_iff.2 ⟨c1, c2, by omega⟩
      have e1 : ce1 = ce2 := by rw [HCE1.out, hce2]; unfold cfE; rw [if_pos h1, if_pos h2]
      have e2 : ys1 = ys2 := by
        rw [HY1.out h, HY2.out (by rw [hi2]; exact h2), HLK.out]
        exact memN_take xs lr (by omega)
      exact ⟨by rw [hi2]; exact h2, by rw [decide_eq_true e1, decide_eq_true e2]; rfl⟩)
    clear hce2 hi2
    go_upto_region 14 with (refine wpList_store_box rfl 24 _ _ rfl x8.on.heap.size _ [.int .i64 ce2, .slice ca2 ys2.length cc2] _ rfl rfl (Bx.newAt _ _ _ _ rfl) rfl info_confS (by simp [Value.oneCell']) (fun W hB => ?_); have BK2 := Go.Lib.hid hB; clear hB)
    have XW : Ext Non x8.on W.on := by (repeat (first | with_reducible exact Ext.refl _ _ | assumption | with_reducible refine Ext.upN ?_ | with_reducible refine Ext.alloc ?_ _ | with_reducible refine Ext.upA (by assumption) ?_ | with_reducible refine Ext.upW ?_ | with_reducible refine Ext.drew ?_ | with_reducible refine Ext.drewN ?_ _ | with_reducible refine Ext.upF ?_ | with_reducible refine Ext.upFF (by first | omega | simp) ?_ | with_reducible refine Ext.setCellsF _ _ _ (by first | omega | simp) ?_ | with_reducible refine Ext.setCellF _ _ _ (by first | omega | simp) ?_ | with_reducible refine Ext.upFN (by first | omega | simp) ?_ | with_reducible refine Ext.up1F (by first | omega | simp) ?_ | with_reducible refine Ext.up1N (by first | omega | simp) ?_ | with_reducible refine Ext.setCell ?_ (.inr (by first | omega | simp)) _ | refine Ext.alloc ?_ _ | refine Ext.setCellF _ _ _ (by first | omega | simp) ?_ | refine Ext.setCell ?_ (.inr (by first | omega | simp)) _))
    have HT2 := Go.Lib.hid (HT1.out.extN ((by (repeat (first | with_reducible exact Ext.refl _ _ | assumption | with_reducible refine Ext.upN ?_ | with_reducible refine Ext.alloc ?_ _ | with_reducible refine Ext.upA (by assumption) ?_ | with_reducible refine Ext.upW ?_ | with_reducible refine Ext.drew ?_ | with_reducible refine Ext.drewN ?_ _ | with_reducible refine Ext.upF ?_ | with_reducible refine Ext.upFF (by first | omega | simp) ?_ | with_reducible refine Ext.setCellsF _ _ _ (by first | omega | simp) ?_ | with_reducible refine Ext.setCellF _ _ _ (by first | omega | simp) ?_ | with_reducible refine Ext.upFN (by first | omega | simp) ?_ | with_reducible refine Ext.up1F (by first | omega | simp) ?_ | with_reducible refine Ext.up1N (by first | omega | simp) ?_ | with_reducible refine Ext.setCell ?_ (.inr (by first | omega | simp)) _ | refine Ext.alloc ?_ _ | refine Ext.setCellF _ _ _ (by first | omega | simp) ?_ | refine Ext.setCell ?_ (.inr (by first | omega | simp)) _)) : Ext Non y1.on x8.on).trans XW))
    have BK1b := Go.Lib.hid (BK1.out.extN ((by (repeat (first | with_reducible exact Ext.refl _ _ | assumption | with_reducible refine Ext.upN ?_ | with_reducible refine Ext.alloc ?_ _ | with_reducible refine Ext.upA (by assumption) ?_ | with_reducible refine Ext.upW ?_ | with_reducible refine Ext.drew ?_ | with_reducible refine Ext.drewN ?_ _ | with_reducible refine Ext.upF ?_ | with_reducible refine Ext.upFF (by first | omega | simp) ?_ | with_reducible refine Ext.setCellsF _ _ _ (by first | omega | simp) ?_ | with_reducible refine Ext.setCellF _ _ _ (by first | omega | simp) ?_ | with_reducible refine Ext.upFN (by first | omega | simp) ?_ | with_reducible refine Ext.up1F (by first | omega | simp) ?_ | with_reducible refine Ext.up1N (by first | omega | simp) ?_ | with_reducible refine Ext.setCell ?_ (.inr (by first | omega | simp)) _ | refine Ext.alloc ?_ _ | refine Ext.setCellF _ _ _ (by first | omega | simp) ?_ | refine Ext.setCell ?_ (.inr (by first | omega | simp)) _)) : Ext Non y1.on x8.on).trans XW))
    have HI1e2 := Go.Lib.hid (HI1d.out.extN ((by (repeat (first | with_reducible exact Ext.refl _ _ | assumption | with_reducible refine Ext.upN ?_ | with_reducible refine Ext.alloc ?_ _ | with_reducible refine Ext.upA (by assumption) ?_ | with_reducible refine Ext.upW ?_ | with_reducible refine Ext.drew ?_ | with_reducible refine Ext.drewN ?_ _ | with_reducible refine Ext.upF ?_ | with_reducible refine Ext.upFF (by first | omega | simp) ?_ | with_reducible refine Ext.setCellsF _ _ _ (by first | omega | simp) ?_ | with_reducible refine Ext.setCellF _ _ _ (by first | omega | simp) ?_ | with_reducible refine Ext.upFN (by first | omega | simp) ?_ | with_reducible refine Ext.up1F (by first | omega | simp) ?_ | with_reducible refine Ext.up1N (by first | omega | simp) ?_ | with_reducible refine Ext.setCell ?_ (.inr (by first | omega | simp)) _ | refine Ext.alloc ?_ _ | refine Ext.setCellF _ _ _ (by first | omega | simp) ?_ | refine Ext.setCell ?_ (.inr (by first | omega | simp)) _)) : Ext Non y1.on x8.on).trans XW))
    have HI2d := Go.Lib.hid (HI2c.out.extN XW)
    have XW1 : Ext Non w1 W.on := (by (repeat (first | with_reducible exact Ext.refl _ _ | assumption | with_reducible refine Ext.upN ?_ | with_reducible refine Ext.alloc ?_ _ | with_reducible refine Ext.upA (by assumption) ?_ | with_reducible refine Ext.upW ?_ | with_reducible refine Ext.drew ?_ | with_reducible refine Ext.drewN ?_ _ | with_reducible refine Ext.upF ?_ | with_reducible refine Ext.upFF (by first | omega | simp) ?_ | with_reducible refine Ext.setCellsF _ _ _ (by first | omega | simp) ?_ | with_reducible refine Ext.setCellF _ _ _ (by first | omega | simp) ?_ | with_reducible refine Ext.upFN (by first | omega | simp) ?_ | with_reducible refine Ext.up1F (by first | omega | simp) ?_ | with_reducible refine Ext.up1N (by first | omega | simp) ?_ | with_reducible refine Ext.setCell ?_ (.inr (by first | omega | simp)) _ | refine Ext.alloc ?_ _ | refine Ext.setCellF _ _ _ (by first | omega | simp) ?_ | refine Ext.setCell ?_ (.inr (by first | omega | simp)) _)) : Ext Non w1 x8.on).trans XW
    obtain ⟨y2, hy2⟩ := XW1.ew
    rw [hy2] at HT2 BK1b HI1e2 HI2d BK2 ⊢
    clear HI2c HI1d HT1 BK1 hy2 XW1 XW W
    try simp only [Act.put]
    generalize x8.on.heap.size = kc2 at *
    clear x8 y1
    -- where the request took effect
    go_wp2_with fail
    refine Calls.ew (law11_Request c s k key b id _) ?_
    rintro e x9 rfl
    have RQ := Go.Lib.hid (fun w => law11_Request c s k key b id w)
    generalize b.toNat = bt at *
    obtain ⟨m1, cd1, rl1, o1, m2, cd2, rl2, o2, ho1, ho2, himp⟩ := outV_take ⟨c, s, ⟨k, key, bt, id⟩⟩ (stepsL (newL xs) lr) kn
    have HSR : Hid (o1 = true → o2 = true ∧ m1 = m2 ∧ (decide (cd1 = cd2) && decide (canonN rl1 = canonN rl2)) = true) := Go.Lib.hid (fun h => by
      obtain ⟨h1, h2, h3, h4⟩ := himp h
      exact ⟨h1, h2, by rw [h3, h4]; simp⟩)
    rw [← stepsL_take, ← HLK.out] at ho1
    have HO1 := Go.Lib.hid ho1; have HO2 := Go.Lib.hid ho2
    clear ho1 ho2 himp
    go_wp2_with fail
    refine (saga_Outcome 0 t7 u17 u27 xs lk ds7 (by omega) HOKk.out c s k key bt id HRO.out _ (HT2.out.extN (by (repeat (first | with_reducible exact Ext.refl _ _ | assumption | with_reducible refine Ext.upN ?_ | with_reducible refine Ext.alloc ?_ _ | with_reducible refine Ext.upA (by assumption) ?_ | with_reducible refine Ext.upW ?_ | with_reducible refine Ext.drew ?_ | with_reducible refine Ext.drewN ?_ _ | with_reducible refine Ext.upF ?_ | with_reducible refine Ext.upFF (by first | omega | simp) ?_ | with_reducible refine Ext.setCellsF _ _ _ (by first | omega | simp) ?_ | with_reducible refine Ext.setCellF _ _ _ (by first | omega | simp) ?_ | with_reducible refine Ext.upFN (by first | omega | simp) ?_ | with_reducible refine Ext.up1F (by first | omega | simp) ?_ | with_reducible refine Ext.up1N (by first | omega | simp) ?_ | with_reducible refine Ext.setCell ?_ (.inr (by first | omega | simp)) _ | refine Ext.alloc ?_ _ | refine Ext.setCellF _ _ _ (by first | omega | simp) ?_ | refine Ext.setCell ?_ (.inr (by first | omega | simp)) _))))).mono ?_
    rintro e _ ⟨rfl, hx⟩
    obtain ⟨x10, rfl⟩ := hx.ew
    clear hx
    rw [HO1.out]
    go_upto_region 15 with (refine wpList_store_box rfl 43 _ _ rfl x10.on.heap.size _ [.int .i64 cd1, .float .f64 rl1] _ rfl rfl (Bx.newAt _ _ _ _ rfl) rfl info_res2 (by simp [Value.oneCell']) (fun W hB => ?_); have BR1 := Go.Lib.hid hB; clear hB)
    have XW : Ext Non x10.on W.on := by (repeat (first | with_reducible exact Ext.refl _ _ | assumption | with_reducible refine Ext.upN ?_ | with_reducible refine Ext.alloc ?_ _ | with_reducible refine Ext.upA (by assumption) ?_ | with_reducible refine Ext.upW ?_ | with_reducible refine Ext.drew ?_ | with_reducible refine Ext.drewN ?_ _ | with_reducible refine Ext.upF ?_ | with_reducible refine Ext.upFF (by first | omega | simp) ?_ | with_reducible refine Ext.setCellsF _ _ _ (by first | omega | simp) ?_ | with_reducible refine Ext.setCellF _ _ _ (by first | omega | simp) ?_ | with_reducible refine Ext.upFN (by first | omega | simp) ?_ | with_reducible refine Ext.up1F (by first | omega | simp) ?_ | with_reducible refine Ext.up1N (by first | omega | simp) ?_ | with_reducible refine Ext.setCell ?_ (.inr (by first | omega | simp)) _ | refine Ext.alloc ?_ _ | refine Ext.setCellF _ _ _ (by first | omega | simp) ?_ | refine Ext.setCell ?_ (.inr (by first | omega | simp)) _))
    have HT3 := Go.Lib.hid (HT2.out.extN ((by (repeat (first | with_reducible exact Ext.refl _ _ | assumption | with_reducible refine Ext.upN ?_ | with_reducible refine Ext.alloc ?_ _ | with_reducible refine Ext.upA (by assumption) ?_ | with_reducible refine Ext.upW ?_ | with_reducible refine Ext.drew ?_ | with_reducible refine Ext.drewN ?_ _ | with_reducible refine Ext.upF ?_ | with_reducible refine Ext.upFF (by first | omega | simp) ?_ | with_reducible refine Ext.setCellsF _ _ _ (by first | omega | simp) ?_ | with_reducible refine Ext.setCellF _ _ _ (by first | omega | simp) ?_ | with_reducible refine Ext.upFN (by first | omega | simp) ?_ | with_reducible refine Ext.up1F (by first | omega | simp) ?_ | with_reducible refine Ext.up1N (by first | omega | simp) ?_ | with_reducible refine Ext.setCell ?_ (.inr (by first | omega | simp)) _ | refine Ext.alloc ?_ _ | refine Ext.setCellF _ _ _ (by first | omega | simp) ?_ | refine Ext.setCell ?_ (.inr (by first | omega | simp)) _)) : Ext Non y2.on x10.on).trans XW))
    have BK1c := Go.Lib.hid (BK1b.out.extN ((by (repeat (first | with_reducible exact Ext.refl _ _ | assumption | with_reducible refine Ext.upN ?_ | with_reducible refine Ext.alloc ?_ _ | with_reducible refine Ext.upA (by assumption) ?_ | with_reducible refine Ext.upW ?_ | with_reducible refine Ext.drew ?_ | with_reducible refine Ext.drewN ?_ _ | with_reducible refine Ext.upF ?_ | with_reducible refine Ext.upFF (by first | omega | simp) ?_ | with_reducible refine Ext.setCellsF _ _ _ (by first | omega | simp) ?_ | with_reducible refine Ext.setCellF _ _ _ (by first | omega | simp) ?_ | with_reducible refine Ext.upFN (by first | omega | simp) ?_ | with_reducible refine Ext.up1F (by first | omega | simp) ?_ | with_reducible refine Ext.up1N (by first | omega | simp) ?_ | with_reducible refine Ext.setCell ?_ (.inr (by first | omega | simp)) _ | refine Ext.alloc ?_ _ | refine Ext.setCellF _ _ _ (by first | omega | simp) ?_ | refine Ext.setCell ?_ (.inr (by first | omega | simp)) _)) : Ext Non y2.on x10.on).trans XW))
    have BK2c := Go.Lib.hid (BK2.out.extN ((by (repeat (first | with_reducible exact Ext.refl _ _ | assumption | with_reducible refine Ext.upN ?_ | with_reducible refine Ext.alloc ?_ _ | with_reducible refine Ext.upA (by assumption) ?_ | with_reducible refine Ext.upW ?_ | with_reducible refine Ext.drew ?_ | with_reducible refine Ext.drewN ?_ _ | with_reducible refine Ext.upF ?_ | with_reducible refine Ext.upFF (by first | omega | simp) ?_ | with_reducible refine Ext.setCellsF _ _ _ (by first | omega | simp) ?_ | with_reducible refine Ext.setCellF _ _ _ (by first | omega | simp) ?_ | with_reducible refine Ext.upFN (by first | omega | simp) ?_ | with_reducible refine Ext.up1F (by first | omega | simp) ?_ | with_reducible refine Ext.up1N (by first | omega | simp) ?_ | with_reducible refine Ext.setCell ?_ (.inr (by first | omega | simp)) _ | refine Ext.alloc ?_ _ | refine Ext.setCellF _ _ _ (by first | omega | simp) ?_ | refine Ext.setCell ?_ (.inr (by first | omega | simp)) _)) : Ext Non y2.on x10.on).trans XW))
    have HI1f := Go.Lib.hid (HI1e2.out.extN ((by (repeat (first | with_reducible exact Ext.refl _ _ | assumption | with_reducible refine Ext.upN ?_ | with_reducible refine Ext.alloc ?_ _ | with_reducible refine Ext.upA (by assumption) ?_ | with_reducible refine Ext.upW ?_ | with_reducible refine Ext.drew ?_ | with_reducible refine Ext.drewN ?_ _ | with_reducible refine Ext.upF ?_ | with_reducible refine Ext.upFF (by first | omega | simp) ?_ | with_reducible refine Ext.setCellsF _ _ _ (by first | omega | simp) ?_ | with_reducible refine Ext.setCellF _ _ _ (by first | omega | simp) ?_ | with_reducible refine Ext.upFN (by first | omega | simp) ?_ | with_reducible refine Ext.up1F (by first | omega | simp) ?_ | with_reducible refine Ext.up1N (by first | omega | simp) ?_ | with_reducible refine Ext.setCell ?_ (.inr (by first | omega | simp)) _ | refine Ext.alloc ?_ _ | refine Ext.setCellF _ _ _ (by first | omega | simp) ?_ | refine Ext.setCell ?_ (.inr (by first | omega | simp)) _)) : Ext Non y2.on x10.on).trans XW))
    have HI2f := Go.Lib.hid (HI2d.out.extN ((by (repeat (first | with_reducible exact Ext.refl _ _ | assumption | with_reducible refine Ext.upN ?_ | with_reducible refine Ext.alloc ?_ _ | with_reducible refine Ext.upA (by assumption) ?_ | with_reducible refine Ext.upW ?_ | with_reducible refine Ext.drew ?_ | with_reducible refine Ext.drewN ?_ _ | with_reducible refine Ext.upF ?_ | with_reducible refine Ext.upFF (by first | omega | simp) ?_ | with_reducible refine Ext.setCellsF _ _ _ (by first | omega | simp) ?_ | with_reducible refine Ext.setCellF _ _ _ (by first | omega | simp) ?_ | with_reducible refine Ext.upFN (by first | omega | simp) ?_ | with_reducible refine Ext.up1F (by first | omega | simp) ?_ | with_reducible refine Ext.up1N (by first | omega | simp) ?_ | with_reducible refine Ext.setCell ?_ (.inr (by first | omega | simp)) _ | refine Ext.alloc ?_ _ | refine Ext.setCellF _ _ _ (by first | omega | simp) ?_ | refine Ext.setCell ?_ (.inr (by first | omega | simp)) _)) : Ext Non y2.on x10.on).trans XW))
    have XW1 : Ext Non w1 W.on := (by (repeat (first | with_reducible exact Ext.refl _ _ | assumption | with_reducible refine Ext.upN ?_ | with_reducible refine Ext.alloc ?_ _ | with_reducible refine Ext.upA (by assumption) ?_ | with_reducible refine Ext.upW ?_ | with_reducible refine Ext.drew ?_ | with_reducible refine Ext.drewN ?_ _ | with_reducible refine Ext.upF ?_ | with_reducible refine Ext.upFF (by first | omega | simp) ?_ | with_reducible refine Ext.setCellsF _ _ _ (by first | omega | simp) ?_ | with_reducible refine Ext.setCellF _ _ _ (by first | omega | simp) ?_ | with_reducible refine Ext.upFN (by first | omega | simp) ?_ | with_reducible refine Ext.up1F (by first | omega | simp) ?_ | with_reducible refine Ext.up1N (by first | omega | simp) ?_ | with_reducible refine Ext.setCell ?_ (.inr (by first | omega | simp)) _ | refine Ext.alloc ?_ _ | refine Ext.setCellF _ _ _ (by first | omega | simp) ?_ | refine Ext.setCell ?_ (.inr (by first | omega | simp)) _)) : Ext Non w1 x10.on).trans XW
    obtain ⟨y3, hy3⟩ := XW1.ew
    rw [hy3] at HT3 BK1c BK2c HI1f HI2f BR1 ⊢
    clear HI1e2 HI2d HT2 BK1b BK2 hy3 XW1 XW W
    try simp only [Act.put]
    generalize x10.on.heap.size = kr1 at *
    clear x10 x9 y2
    go_wp2_with fail
    refine Calls.ew (RQ.out _) ?_
    rintro e x11 rfl
    go_wp2_with fail
    refine (saga_Outcome kb s7 v17 v27 xs lr bs7 (by omega) HOK.out c s k key bt id HRO.out _ (HS.out.extN (by (repeat (first | with_reducible exact Ext.refl _ _ | assumption | with_reducible refine Ext.upN ?_ | with_reducible refine Ext.alloc ?_ _ | with_reducible refine Ext.upA (by assumption) ?_ | with_reducible refine Ext.upW ?_ | with_reducible refine Ext.drew ?_ | with_reducible refine Ext.drewN ?_ _ | with_reducible refine Ext.upF ?_ | with_reducible refine Ext.upFF (by first | omega | simp) ?_ | with_reducible refine Ext.setCellsF _ _ _ (by first | omega | simp) ?_ | with_reducible refine Ext.setCellF _ _ _ (by first | omega | simp) ?_ | with_reducible refine Ext.upFN (by first | omega | simp) ?_ | with_reducible refine Ext.up1F (by first | omega | simp) ?_ | with_reducible refine Ext.up1N (by first | omega | simp) ?_ | with_reducible refine Ext.setCell ?_ (.inr (by first | omega | simp)) _ | refine Ext.alloc ?_ _ | refine Ext.setCellF _ _ _ (by first | omega | simp) ?_ | refine Ext.setCell ?_ (.inr (by first | omega | simp)) _))))).mono ?_
    rintro e _ ⟨rfl, hx⟩
    obtain ⟨x12, rfl⟩ := hx.ew
    clear hx
    rw [HO2.out]
    go_upto_region 16 with (refine wpList_store_box rfl 43 _ _ rfl x12.on.heap.size _ [.int .i64 cd2, .float .f64 rl2] _ rfl rfl (Bx.newAt _ _ _ _ rfl) rfl info_res2 (by simp [Value.oneCell']) (fun W hB => ?_); have BR2 := Go.Lib.hid hB; clear hB)
    have XW : Ext Non x12.on W.on := by (repeat (first | with_reducible exact Ext.refl _ _ | assumption | with_reducible refine Ext.upN ?_ | with_reducible refine Ext.alloc ?_ _ | with_reducible refine Ext.upA (by assumption) ?_ | with_reducible refine Ext.upW ?_ | with_reducible refine Ext.drew ?_ | with_reducible refine Ext.drewN ?_ _ | with_reducible refine Ext.upF ?_ | with_reducible refine Ext.upFF (by first | omega | simp) ?_ | with_reducible refine Ext.setCellsF _ _ _ (by first | omega | simp) ?_ | with_reducible refine Ext.setCellF _ _ _ (by first | omega | simp) ?_ | with_reducible refine Ext.upFN (by first | omega | simp) ?_ | with_reducible refine Ext.up1F (by first | omega | simp) ?_ | with_reducible refine Ext.up1N (by first | omega | simp) ?_ | with_reducible refine Ext.setCell ?_ (.inr (by first | omega | simp)) _ | refine Ext.alloc ?_ _ | refine Ext.setCellF _ _ _ (by first | omega | simp) ?_ | refine Ext.setCell ?_ (.inr (by first | omega | simp)) _))
    have HT4 := Go.Lib.hid (HT3.out.extN ((by (repeat (first | with_reducible exact Ext.refl _ _ | assumption | with_reducible refine Ext.upN ?_ | with_reducible refine Ext.alloc ?_ _ | with_reducible refine Ext.upA (by assumption) ?_ | with_reducible refine Ext.upW ?_ | with_reducible refine Ext.drew ?_ | with_reducible refine Ext.drewN ?_ _ | with_reducible refine Ext.upF ?_ | with_reducible refine Ext.upFF (by first | omega | simp) ?_ | with_reducible refine Ext.setCellsF _ _ _ (by first | omega | simp) ?_ | with_reducible refine Ext.setCellF _ _ _ (by first | omega | simp) ?_ | with_reducible refine Ext.upFN (by first | omega | simp) ?_ | with_reducible refine Ext.up1F (by first | omega | simp) ?_ | with_reducible refine Ext.up1N (by first | omega | simp) ?_ | with_reducible refine Ext.setCell ?_ (.inr (by first | omega | simp)) _ | refine Ext.alloc ?_ _ | refine Ext.setCellF _ _ _ (by first | omega | simp) ?_ | refine Ext.setCell ?_ (.inr (by first | omega | simp)) _)) : Ext Non y3.on x12.on).trans XW))
    have BK1d := Go.Lib.hid (BK1c.out.extN ((by (repeat (first | with_reducible exact Ext.refl _ _ | assumption | with_reducible refine Ext.upN ?_ | with_reducible refine Ext.alloc ?_ _ | with_reducible refine Ext.upA (by assumption) ?_ | with_reducible refine Ext.upW ?_ | with_reducible refine Ext.drew ?_ | with_reducible refine Ext.drewN ?_ _ | with_reducible refine Ext.upF ?_ | with_reducible refine Ext.upFF (by first | omega | simp) ?_ | with_reducible refine Ext.setCellsF _ _ _ (by first | omega | simp) ?_ | with_reducible refine Ext.setCellF _ _ _ (by first | omega | simp) ?_ | with_reducible refine Ext.upFN (by first | omega | simp) ?_ | with_reducible refine Ext.up1F (by first | omega | simp) ?_ | with_reducible refine Ext.up1N (by first | omega | simp) ?_ | with_reducible refine Ext.setCell ?_ (.inr (by first | omega | simp)) _ | refine Ext.alloc ?_ _ | refine Ext.setCellF _ _ _ (by first | omega | simp) ?_ | refine Ext.setCell ?_ (.inr (by first | omega | simp)) _)) : Ext Non y3.on x12.on).trans XW))
    have BK2d := Go.Lib.hid (BK2c.out.extN ((by (repeat (first | with_reducible exact Ext.refl _ _ | assumption | with_reducible refine Ext.upN ?_ | with_reducible refine Ext.alloc ?_ _ | with_reducible refine Ext.upA (by assumption) ?_ | with_reducible refine Ext.upW ?_ | with_reducible refine Ext.drew ?_ | with_reducible refine Ext.drewN ?_ _ | with_reducible refine Ext.upF ?_ | with_reducible refine Ext.upFF (by first | omega | simp) ?_ | with_reducible refine Ext.setCellsF _ _ _ (by first | omega | simp) ?_ | with_reducible refine Ext.setCellF _ _ _ (by first | omega | simp) ?_ | with_reducible refine Ext.upFN (by first | omega | simp) ?_ | with_reducible refine Ext.up1F (by first | omega | simp) ?_ | with_reducible refine Ext.up1N (by first | omega | simp) ?_ | with_reducible refine Ext.setCell ?_ (.inr (by first | omega | simp)) _ | refine Ext.alloc ?_ _ | refine Ext.setCellF _ _ _ (by first | omega | simp) ?_ | refine Ext.setCell ?_ (.inr (by first | omega | simp)) _)) : Ext Non y3.on x12.on).trans XW))
    have HI1g := Go.Lib.hid (HI1f.out.extN ((by (repeat (first | with_reducible exact Ext.refl _ _ | assumption | with_reducible refine Ext.upN ?_ | with_reducible refine Ext.alloc ?_ _ | with_reducible refine Ext.upA (by assumption) ?_ | with_reducible refine Ext.upW ?_ | with_reducible refine Ext.drew ?_ | with_reducible refine Ext.drewN ?_ _ | with_reducible refine Ext.upF ?_ | with_reducible refine Ext.upFF (by first | omega | simp) ?_ | with_reducible refine Ext.setCellsF _ _ _ (by first | omega | simp) ?_ | with_reducible refine Ext.setCellF _ _ _ (by first | omega | simp) ?_ | with_reducible refine Ext.upFN (by first | omega | simp) ?_ | with_reducible refine Ext.up1F (by first | omega | simp) ?_ | with_reducible refine Ext.up1N (by first | omega | simp) ?_ | with_reducible refine Ext.setCell ?_ (.inr (by first | omega | simp)) _ | refine Ext.alloc ?_ _ | refine Ext.setCellF _ _ _ (by first | omega | simp) ?_ | refine Ext.setCell ?_ (.inr (by first | omega | simp)) _)) : Ext Non y3.on x12.on).trans XW))
    have HI2g := Go.Lib.hid (HI2f.out.extN ((by (repeat (first | with_reducible exact Ext.refl _ _ | assumption | with_reducible refine Ext.upN ?_ | with_reducible refine Ext.alloc ?_ _ | with_reducible refine Ext.upA (by assumption) ?_ | with_reducible refine Ext.upW ?_ | with_reducible refine Ext.drew ?_ | with_reducible refine Ext.drewN ?_ _ | with_reducible refine Ext.upF ?_ | with_reducible refine Ext.upFF (by first | omega | simp) ?_ | with_reducible refine Ext.setCellsF _ _ _ (by first | omega | simp) ?_ | with_reducible refine Ext.setCellF _ _ _ (by first | omega | simp) ?_ | with_reducible refine Ext.upFN (by first | omega | simp) ?_ | with_reducible refine Ext.up1F (by first | omega | simp) ?_ | with_reducible refine Ext.up1N (by first | omega | simp) ?_ | with_reducible refine Ext.setCell ?_ (.inr (by first | omega | simp)) _ | refine Ext.alloc ?_ _ | refine Ext.setCellF _ _ _ (by first | omega | simp) ?_ | refine Ext.setCell ?_ (.inr (by first | omega | simp)) _)) : Ext Non y3.on x12.on).trans XW))
    have BR1b := Go.Lib.hid (BR1.out.extN ((by (repeat (first | with_reducible exact Ext.refl _ _ | assumption | with_reducible refine Ext.upN ?_ | with_reducible refine Ext.alloc ?_ _ | with_reducible refine Ext.upA (by assumption) ?_ | with_reducible refine Ext.upW ?_ | with_reducible refine Ext.drew ?_ | with_reducible refine Ext.drewN ?_ _ | with_reducible refine Ext.upF ?_ | with_reducible refine Ext.upFF (by first | omega | simp) ?_ | with_reducible refine Ext.setCellsF _ _ _ (by first | omega | simp) ?_ | with_reducible refine Ext.setCellF _ _ _ (by first | omega | simp) ?_ | with_reducible refine Ext.upFN (by first | omega | simp) ?_ | with_reducible refine Ext.up1F (by first | omega | simp) ?_ | with_reducible refine Ext.up1N (by first | omega | simp) ?_ | with_reducible refine Ext.setCell ?_ (.inr (by first | omega | simp)) _ | refine Ext.alloc ?_ _ | refine Ext.setCellF _ _ _ (by first | omega | simp) ?_ | refine Ext.setCell ?_ (.inr (by first | omega | simp)) _)) : Ext Non y3.on x12.on).trans XW))
    have XW1 : Ext Non w1 W.on := (by (repeat (first | with_reducible exact Ext.refl _ _ | assumption | with_reducible refine Ext.upN ?_ | with_reducible refine Ext.alloc ?_ _ | with_reducible refine Ext.upA (by assumption) ?_ | with_reducible refine Ext.upW ?_ | with_reducible refine Ext.drew ?_ | with_reducible refine Ext.drewN ?_ _ | with_reducible refine Ext.upF ?_ | with_reducible refine Ext.upFF (by first | omega | simp) ?_ | with_reducible refine Ext.setCellsF _ _ _ (by first | omega | simp) ?_ | with_reducible refine Ext.setCellF _ _ _ (by first | omega | simp) ?_ | with_reducible refine Ext.upFN (by first | omega | simp) ?_ | with_reducible refine Ext.up1F (by first | omega | simp) ?_ | with_reducible refine Ext.up1N (by first | omega | simp) ?_ | with_reducible refine Ext.setCell ?_ (.inr (by first | omega | simp)) _ | refine Ext.alloc ?_ _ | refine Ext.setCellF _ _ _ (by first | omega | simp) ?_ | refine Ext.setCell ?_ (.inr (by first | omega | simp)) _)) : Ext Non w1 x12.on).trans XW
    rw [show W.on = W.on from rfl]
    obtain ⟨y4, hy4⟩ := XW1.ew
    rw [hy4] at HT4 BK1d BK2d HI1g HI2g BR1b BR2 ⊢
    clear HI1f HI2f HT3 BK1c BK2c BR1 hy4 XW1 XW W
    try simp only [Act.put]
    generalize x12.on.heap.size = kr2 at *
    clear x12 x11 y3
    have c0 : y4.on.cell? ⟨kc1, 0, none⟩ = some (.int .i64 ce1) := BK1d.out.cell rfl
    have c1 : y4.on.cell? ⟨kc1, 1, none⟩ = some (.slice ca1 ys1.length cc1) := BK1d.out.cell rfl
    have d0 : y4.on.cell? ⟨kc2, 0, none⟩ = some (.int .i64 ce2) := BK2d.out.cell rfl
    have d1 : y4.on.cell? ⟨kc2, 1, none⟩ = some (.slice ca2 ys2.length cc2) := BK2d.out.cell rfl
    have r0 : y4.on.cell? ⟨kr1, 0, none⟩ = some (.int .i64 cd1) := BR1b.out.cell rfl
    have r1 : y4.on.cell? ⟨kr1, 1, none⟩ = some (.float .f64 rl1) := BR1b.out.cell rfl
    have p0 : y4.on.cell? ⟨kr2, 0, none⟩ = some (.int .i64 cd2) := BR2.out.cell rfl
    have p1 : y4.on.cell? ⟨kr2, 1, none⟩ = some (.float .f64 rl2) := BR2.out.cell rfl
    have g9 : y4.on.cell? ⟨kq, 9, none⟩ = some (.slice ba bad.length bc) := (y4.ext.cell (lt_of_cell q9) (fun f => f)).trans q9
    have HS4 := Go.Lib.hid (HS.out.extN y4.ext)
    have HB4 := Go.Lib.hid (HB1.out.extN y4.ext)
    have X4 : Ext Non w y4.on := XX.out.trans y4.ext
    have HX4 := Go.Lib.hid X4
    clear b0 b1 q0 q1 q2 q3 q4 q5 q6 q7 q8 q9 X4 XX HS HB1 BC BQ2
    generalize y4.on = w4 at *

    cases i1
    · cases o1
      · go_wp2_with fail
        refine Calls.ew (saga_Sound kb s7 v17 v27 xs lr bs7 HM.out hlen HAO.out ba bc bad _ (HS4.out.extN (by (repeat (first | with_reducible exact Ext.refl _ _ | assumption | with_reducible refine Ext.upN ?_ | with_reducible refine Ext.alloc ?_ _ | with_reducible refine Ext.upA (by assumption) ?_ | with_reducible refine Ext.upW ?_ | with_reducible refine Ext.drew ?_ | with_reducible refine Ext.drewN ?_ _ | with_reducible refine Ext.upF ?_ | with_reducible refine Ext.upFF (by first | omega | simp) ?_ | with_reducible refine Ext.setCellsF _ _ _ (by first | omega | simp) ?_ | with_reducible refine Ext.setCellF _ _ _ (by first | omega | simp) ?_ | with_reducible refine Ext.upFN (by first | omega | simp) ?_ | with_reducible refine Ext.up1F (by first | omega | simp) ?_ | with_reducible refine Ext.up1N (by first | omega | simp) ?_ | with_reducible refine Ext.setCell ?_ (.inr (by first | omega | simp)) _ | refine Ext.alloc ?_ _ | refine Ext.setCellF _ _ _ (by first | omega | simp) ?_ | refine Ext.setCell ?_ (.inr (by first | omega | simp)) _)))) (HB4.out.extN (by (repeat (first | with_reducible exact Ext.refl _ _ | assumption | with_reducible refine Ext.upN ?_ | with_reducible refine Ext.alloc ?_ _ | with_reducible refine Ext.upA (by assumption) ?_ | with_reducible refine Ext.upW ?_ | with_reducible refine Ext.drew ?_ | with_reducible refine Ext.drewN ?_ _ | with_reducible refine Ext.upF ?_ | with_reducible refine Ext.upFF (by first | omega | simp) ?_ | with_reducible refine Ext.setCellsF _ _ _ (by first | omega | simp) ?_ | with_reducible refine Ext.setCellF _ _ _ (by first | omega | simp) ?_ | with_reducible refine Ext.upFN (by first | omega | simp) ?_ | with_reducible refine Ext.up1F (by first | omega | simp) ?_ | with_reducible refine Ext.up1N (by first | omega | simp) ?_ | with_reducible refine Ext.setCell ?_ (.inr (by first | omega | simp)) _ | refine Ext.alloc ?_ _ | refine Ext.setCellF _ _ _ (by first | omega | simp) ?_ | refine Ext.setCell ?_ (.inr (by first | omega | simp)) _))))) ?_
        rintro e u1 rfl
        cases hsb : soundB xs lr bad
        · clear hsb
          go_wp2
          go_ret
          exact ⟨rfl, HX4.out.trans (by (repeat (first | with_reducible exact Ext.refl _ _ | assumption | with_reducible refine Ext.upN ?_ | with_reducible refine Ext.alloc ?_ _ | with_reducible refine Ext.upA (by assumption) ?_ | with_reducible refine Ext.upW ?_ | with_reducible refine Ext.drew ?_ | with_reducible refine Ext.drewN ?_ _ | with_reducible refine Ext.upF ?_ | with_reducible refine Ext.upFF (by first | omega | simp) ?_ | with_reducible refine Ext.setCellsF _ _ _ (by first | omega | simp) ?_ | with_reducible refine Ext.setCellF _ _ _ (by first | omega | simp) ?_ | with_reducible refine Ext.upFN (by first | omega | simp) ?_ | with_reducible refine Ext.up1F (by first | omega | simp) ?_ | with_reducible refine Ext.up1N (by first | omega | simp) ?_ | with_reducible refine Ext.setCell ?_ (.inr (by first | omega | simp)) _ | refine Ext.alloc ?_ _ | refine Ext.setCellF _ _ _ (by first | omega | simp) ?_ | refine Ext.setCell ?_ (.inr (by first | omega | simp)) _)))⟩
        · have HTS : Hid (soundB xs lk bad = true) := Go.Lib.hid (by rw [HLK.out]; exact soundB_take HKN.out hsb)
          clear hsb
          go_wp2_with fail
          refine Calls.ew (saga_Sound 0 t7 u17 u27 xs lk ds7 HM.out hlenk HAOk.out ba bc bad _ (HT4.out.extN (by (repeat (first | with_reducible exact Ext.refl _ _ | assumption | with_reducible refine Ext.upN ?_ | with_reducible refine Ext.alloc ?_ _ | with_reducible refine Ext.upA (by assumption) ?_ | with_reducible refine Ext.upW ?_ | with_reducible refine Ext.drew ?_ | with_reducible refine Ext.drewN ?_ _ | with_reducible refine Ext.upF ?_ | with_reducible refine Ext.upFF (by first | omega | simp) ?_ | with_reducible refine Ext.setCellsF _ _ _ (by first | omega | simp) ?_ | with_reducible refine Ext.setCellF _ _ _ (by first | omega | simp) ?_ | with_reducible refine Ext.upFN (by first | omega | simp) ?_ | with_reducible refine Ext.up1F (by first | omega | simp) ?_ | with_reducible refine Ext.up1N (by first | omega | simp) ?_ | with_reducible refine Ext.setCell ?_ (.inr (by first | omega | simp)) _ | refine Ext.alloc ?_ _ | refine Ext.setCellF _ _ _ (by first | omega | simp) ?_ | refine Ext.setCell ?_ (.inr (by first | omega | simp)) _)))) (HB4.out.extN (by (repeat (first | with_reducible exact Ext.refl _ _ | assumption | with_reducible refine Ext.upN ?_ | with_reducible refine Ext.alloc ?_ _ | with_reducible refine Ext.upA (by assumption) ?_ | with_reducible refine Ext.upW ?_ | with_reducible refine Ext.drew ?_ | with_reducible refine Ext.drewN ?_ _ | with_reducible refine Ext.upF ?_ | with_reducible refine Ext.upFF (by first | omega | simp) ?_ | with_reducible refine Ext.setCellsF _ _ _ (by first | omega | simp) ?_ | with_reducible refine Ext.setCellF _ _ _ (by first | omega | simp) ?_ | with_reducible refine Ext.upFN (by first | omega | simp) ?_ | with_reducible refine Ext.up1F (by first | omega | simp) ?_ | with_reducible refine Ext.up1N (by first | omega | simp) ?_ | with_reducible refine Ext.setCell ?_ (.inr (by first | omega | simp)) _ | refine Ext.alloc ?_ _ | refine Ext.setCellF _ _ _ (by first | omega | simp) ?_ | refine Ext.setCell ?_ (.inr (by first | omega | simp)) _))))) ?_
          rintro e u2 rfl
          rw [HTS.out]
          go_wp2
          go_ret
          exact ⟨rfl, HX4.out.trans (by (repeat (first | with_reducible exact Ext.refl _ _ | assumption | with_reducible refine Ext.upN ?_ | with_reducible refine Ext.alloc ?_ _ | with_reducible refine Ext.upA (by assumption) ?_ | with_reducible refine Ext.upW ?_ | with_reducible refine Ext.drew ?_ | with_reducible refine Ext.drewN ?_ _ | with_reducible refine Ext.upF ?_ | with_reducible refine Ext.upFF (by first | omega | simp) ?_ | with_reducible refine Ext.setCellsF _ _ _ (by first | omega | simp) ?_ | with_reducible refine Ext.setCellF _ _ _ (by first | omega | simp) ?_ | with_reducible refine Ext.upFN (by first | omega | simp) ?_ | with_reducible refine Ext.up1F (by first | omega | simp) ?_ | with_reducible refine Ext.up1N (by first | omega | simp) ?_ | with_reducible refine Ext.setCell ?_ (.inr (by first | omega | simp)) _ | refine Ext.alloc ?_ _ | refine Ext.setCellF _ _ _ (by first | omega | simp) ?_ | refine Ext.setCell ?_ (.inr (by first | omega | simp)) _)))⟩
      · obtain ⟨rfl, rfl, hsq⟩ := HSR.out rfl
        have HSQ := Go.Lib.hid hsq
        clear hsq HSR
        go_wp2_with fail
        refine Calls.ew (ref_SameResult cd1 cd2 rl1 rl2 _) ?_
        rintro e u4 rfl
        rw [HSQ.out]
        go_wp2_with fail
        refine Calls.ew (saga_Sound kb s7 v17 v27 xs lr bs7 HM.out hlen HAO.out ba bc bad _ (HS4.out.extN (by (repeat (first | with_reducible exact Ext.refl _ _ | assumption | with_reducible refine Ext.upN ?_ | with_reducible refine Ext.alloc ?_ _ | with_reducible refine Ext.upA (by assumption) ?_ | with_reducible refine Ext.upW ?_ | with_reducible refine Ext.drew ?_ | with_reducible refine Ext.drewN ?_ _ | with_reducible refine Ext.upF ?_ | with_reducible refine Ext.upFF (by first | omega | simp) ?_ | with_reducible refine Ext.setCellsF _ _ _ (by first | omega | simp) ?_ | with_reducible refine Ext.setCellF _ _ _ (by first | omega | simp) ?_ | with_reducible refine Ext.upFN (by first | omega | simp) ?_ | with_reducible refine Ext.up1F (by first | omega | simp) ?_ | with_reducible refine Ext.up1N (by first | omega | simp) ?_ | with_reducible refine Ext.setCell ?_ (.inr (by first | omega | simp)) _ | refine Ext.alloc ?_ _ | refine Ext.setCellF _ _ _ (by first | omega | simp) ?_ | refine Ext.setCell ?_ (.inr (by first | omega | simp)) _)))) (HB4.out.extN (by (repeat (first | with_reducible exact Ext.refl _ _ | assumption | with_reducible refine Ext.upN ?_ | with_reducible refine Ext.alloc ?_ _ | with_reducible refine Ext.upA (by assumption) ?_ | with_reducible refine Ext.upW ?_ | with_reducible refine Ext.drew ?_ | with_reducible refine Ext.drewN ?_ _ | with_reducible refine Ext.upF ?_ | with_reducible refine Ext.upFF (by first | omega | simp) ?_ | with_reducible refine Ext.setCellsF _ _ _ (by first | omega | simp) ?_ | with_reducible refine Ext.setCellF _ _ _ (by first | omega | simp) ?_ | with_reducible refine Ext.upFN (by first | omega | simp) ?_ | with_reducible refine Ext.up1F (by first | omega | simp) ?_ | with_reducible refine Ext.up1N (by first | omega | simp) ?_ | with_reducible refine Ext.setCell ?_ (.inr (by first | omega | simp)) _ | refine Ext.alloc ?_ _ | refine Ext.setCellF _ _ _ (by first | omega | simp) ?_ | refine Ext.setCell ?_ (.inr (by first | omega | simp)) _))))) ?_
        rintro e u1 rfl
        cases hsb : soundB xs lr bad
        · clear hsb
          go_wp2
          go_ret
          exact ⟨rfl, HX4.out.trans (by (repeat (first | with_reducible exact Ext.refl _ _ | assumption | with_reducible refine Ext.upN ?_ | with_reducible refine Ext.alloc ?_ _ | with_reducible refine Ext.upA (by assumption) ?_ | with_reducible refine Ext.upW ?_ | with_reducible refine Ext.drew ?_ | with_reducible refine Ext.drewN ?_ _ | with_reducible refine Ext.upF ?_ | with_reducible refine Ext.upFF (by first | omega | simp) ?_ | with_reducible refine Ext.setCellsF _ _ _ (by first | omega | simp) ?_ | with_reducible refine Ext.setCellF _ _ _ (by first | omega | simp) ?_ | with_reducible refine Ext.upFN (by first | omega | simp) ?_ | with_reducible refine Ext.up1F (by first | omega | simp) ?_ | with_reducible refine Ext.up1N (by first | omega | simp) ?_ | with_reducible refine Ext.setCell ?_ (.inr (by first | omega | simp)) _ | refine Ext.alloc ?_ _ | refine Ext.setCellF _ _ _ (by first | omega | simp) ?_ | refine Ext.setCell ?_ (.inr (by first | omega | simp)) _)))⟩
        · have HTS : Hid (soundB xs lk bad = true) := Go.Lib.hid (by rw [HLK.out]; exact soundB_take HKN.out hsb)
          clear hsb
          go_wp2_with fail
          refine Calls.ew (saga_Sound 0 t7 u17 u27 xs lk ds7 HM.out hlenk HAOk.out ba bc bad _ (HT4.out.extN (by (repeat (first | with_reducible exact Ext.refl _ _ | assumption | with_reducible refine Ext.upN ?_ | with_reducible refine Ext.alloc ?_ _ | with_reducible refine Ext.upA (by assumption) ?_ | with_reducible refine Ext.upW ?_ | with_reducible refine Ext.drew ?_ | with_reducible refine Ext.drewN ?_ _ | with_reducible refine Ext.upF ?_ | with_reducible refine Ext.upFF (by first | omega | simp) ?_ | with_reducible refine Ext.setCellsF _ _ _ (by first | omega | simp) ?_ | with_reducible refine Ext.setCellF _ _ _ (by first | omega | simp) ?_ | with_reducible refine Ext.upFN (by first | omega | simp) ?_ | with_reducible refine Ext.up1F (by first | omega | simp) ?_ | with_reducible refine Ext.up1N (by first | omega | simp) ?_ | with_reducible refine Ext.setCell ?_ (.inr (by first | omega | simp)) _ | refine Ext.alloc ?_ _ | refine Ext.setCellF _ _ _ (by first | omega | simp) ?_ | refine Ext.setCell ?_ (.inr (by first | omega | simp)) _)))) (HB4.out.extN (by (repeat (first | with_reducible exact Ext.refl _ _ | assumption | with_reducible refine Ext.upN ?_ | with_reducible refine Ext.alloc ?_ _ | with_reducible refine Ext.upA (by assumption) ?_ | with_reducible refine Ext.upW ?_ | with_reducible refine Ext.drew ?_ | with_reducible refine Ext.drewN ?_ _ | with_reducible refine Ext.upF ?_ | with_reducible refine Ext.upFF (by first | omega | simp) ?_ | with_reducible refine Ext.setCellsF _ _ _ (by first | omega | simp) ?_ | with_reducible refine Ext.setCellF _ _ _ (by first | omega | simp) ?_ | with_reducible refine Ext.upFN (by first | omega | simp) ?_ | with_reducible refine Ext.up1F (by first | omega | simp) ?_ | with_reducible refine Ext.up1N (by first | omega | simp) ?_ | with_reducible refine Ext.setCell ?_ (.inr (by first | omega | simp)) _ | refine Ext.alloc ?_ _ | refine Ext.setCellF _ _ _ (by first | omega | simp) ?_ | refine Ext.setCell ?_ (.inr (by first | omega | simp)) _))))) ?_
          rintro e u2 rfl
          rw [HTS.out]
          go_wp2
          go_ret
          exact ⟨rfl, HX4.out.trans (by (repeat (first | with_reducible exact Ext.refl _ _ | assumption | with_reducible refine Ext.upN ?_ | with_reducible refine Ext.alloc ?_ _ | with_reducible refine Ext.upA (by assumption) ?_ | with_reducible refine Ext.upW ?_ | with_reducible refine Ext.drew ?_ | with_reducible refine Ext.drewN ?_ _ | with_reducible refine Ext.upF ?_ | with_reducible refine Ext.upFF (by first | omega | simp) ?_ | with_reducible refine Ext.setCellsF _ _ _ (by first | omega | simp) ?_ | with_reducible refine Ext.setCellF _ _ _ (by first | omega | simp) ?_ | with_reducible refine Ext.upFN (by first | omega | simp) ?_ | with_reducible refine Ext.up1F (by first | omega | simp) ?_ | with_reducible refine Ext.up1N (by first | omega | simp) ?_ | with_reducible refine Ext.setCell ?_ (.inr (by first | omega | simp)) _ | refine Ext.alloc ?_ _ | refine Ext.setCellF _ _ _ (by first | omega | simp) ?_ | refine Ext.setCell ?_ (.inr (by first | omega | simp)) _)))⟩
    · obtain ⟨rfl, hsm⟩ := HCI.out rfl
      have HSM := Go.Lib.hid hsm
      clear hsm HCI
      cases o1
      · go_wp2_with fail
        refine Calls.ew (ref_Same ce1 ca1 cc1 ys1 ce2 ca2 cc2 ys2 _ (HI1g.out.extN (by (repeat (first | with_reducible exact Ext.refl _ _ | assumption | with_reducible refine Ext.upN ?_ | with_reducible refine Ext.alloc ?_ _ | with_reducible refine Ext.upA (by assumption) ?_ | with_reducible refine Ext.upW ?_ | with_reducible refine Ext.drew ?_ | with_reducible refine Ext.drewN ?_ _ | with_reducible refine Ext.upF ?_ | with_reducible refine Ext.upFF (by first | omega | simp) ?_ | with_reducible refine Ext.setCellsF _ _ _ (by first | omega | simp) ?_ | with_reducible refine Ext.setCellF _ _ _ (by first | omega | simp) ?_ | with_reducible refine Ext.upFN (by first | omega | simp) ?_ | with_reducible refine Ext.up1F (by first | omega | simp) ?_ | with_reducible refine Ext.up1N (by first | omega | simp) ?_ | with_reducible refine Ext.setCell ?_ (.inr (by first | omega | simp)) _ | refine Ext.alloc ?_ _ | refine Ext.setCellF _ _ _ (by first | omega | simp) ?_ | refine Ext.setCell ?_ (.inr (by first | omega | simp)) _)))) (HI2g.out.extN (by (repeat (first | with_reducible exact Ext.refl _ _ | assumption | with_reducible refine Ext.upN ?_ | with_reducible refine Ext.alloc ?_ _ | with_reducible refine Ext.upA (by assumption) ?_ | with_reducible refine Ext.upW ?_ | with_reducible refine Ext.drew ?_ | with_reducible refine Ext.drewN ?_ _ | with_reducible refine Ext.upF ?_ | with_reducible refine Ext.upFF (by first | omega | simp) ?_ | with_reducible refine Ext.setCellsF _ _ _ (by first | omega | simp) ?_ | with_reducible refine Ext.setCellF _ _ _ (by first | omega | simp) ?_ | with_reducible refine Ext.upFN (by first | omega | simp) ?_ | with_reducible refine Ext.up1F (by first | omega | simp) ?_ | with_reducible refine Ext.up1N (by first | omega | simp) ?_ | with_reducible refine Ext.setCell ?_ (.inr (by first | omega | simp)) _ | refine Ext.alloc ?_ _ | refine Ext.setCellF _ _ _ (by first | omega | simp) ?_ | refine Ext.setCell ?_ (.inr (by first | omega | simp)) _))))) ?_
        rintro e u3 rfl
        rw [HSM.out]
        go_wp2_with fail
        refine Calls.ew (saga_Sound kb s7 v17 v27 xs lr bs7 HM.out hlen HAO.out ba bc bad _ (HS4.out.extN (by (repeat (first | with_reducible exact Ext.refl _ _ | assumption | with_reducible refine Ext.upN ?_ | with_reducible refine Ext.alloc ?_ _ | with_reducible refine Ext.upA (by assumption) ?_ | with_reducible refine Ext.upW ?_ | with_reducible refine Ext.drew ?_ | with_reducible refine Ext.drewN ?_ _ | with_reducible refine Ext.upF ?_ | with_reducible refine Ext.upFF (by first | omega | simp) ?_ | with_reducible refine Ext.setCellsF _ _ _ (by first | omega | simp) ?_ | with_reducible refine Ext.setCellF _ _ _ (by first | omega | simp) ?_ | with_reducible refine Ext.upFN (by first | omega | simp) ?_ | with_reducible refine Ext.up1F (by first | omega | simp) ?_ | with_reducible refine Ext.up1N (by first | omega | simp) ?_ | with_reducible refine Ext.setCell ?_ (.inr (by first | omega | simp)) _ | refine Ext.alloc ?_ _ | refine Ext.setCellF _ _ _ (by first | omega | simp) ?_ | refine Ext.setCell ?_ (.inr (by first | omega | simp)) _)))) (HB4.out.extN (by (repeat (first | with_reducible exact Ext.refl _ _ | assumption | with_reducible refine Ext.upN ?_ | with_reducible refine Ext.alloc ?_ _ | with_reducible refine Ext.upA (by assumption) ?_ | with_reducible refine Ext.upW ?_ | with_reducible refine Ext.drew ?_ | with_reducible refine Ext.drewN ?_ _ | with_reducible refine Ext.upF ?_ | with_reducible refine Ext.upFF (by first | omega | simp) ?_ | with_reducible refine Ext.setCellsF _ _ _ (by first | omega | simp) ?_ | with_reducible refine Ext.setCellF _ _ _ (by first | omega | simp) ?_ | with_reducible refine Ext.upFN (by first | omega | simp) ?_ | with_reducible refine Ext.up1F (by first | omega | simp) ?_ | with_reducible refine Ext.up1N (by first | omega | simp) ?_ | with_reducible refine Ext.setCell ?_ (.inr (by first | omega | simp)) _ | refine Ext.alloc ?_ _ | refine Ext.setCellF _ _ _ (by first | omega | simp) ?_ | refine Ext.setCell ?_ (.inr (by first | omega | simp)) _))))) ?_
        rintro e u1 rfl
        cases hsb : soundB xs lr bad
        · clear hsb
          go_wp2
          go_ret
          exact ⟨rfl, HX4.out.trans (by (repeat (first | with_reducible exact Ext.refl _ _ | assumption | with_reducible refine Ext.upN ?_ | with_reducible refine Ext.alloc ?_ _ | with_reducible refine Ext.upA (by assumption) ?_ | with_reducible refine Ext.upW ?_ | with_reducible refine Ext.drew ?_ | with_reducible refine Ext.drewN ?_ _ | with_reducible refine Ext.upF ?_ | with_reducible refine Ext.upFF (by first | omega | simp) ?_ | with_reducible refine Ext.setCellsF _ _ _ (by first | omega | simp) ?_ | with_reducible refine Ext.setCellF _ _ _ (by first | omega | simp) ?_ | with_reducible refine Ext.upFN (by first | omega | simp) ?_ | with_reducible refine Ext.up1F (by first | omega | simp) ?_ | with_reducible refine Ext.up1N (by first | omega | simp) ?_ | with_reducible refine Ext.setCell ?_ (.inr (by first | omega | simp)) _ | refine Ext.alloc ?_ _ | refine Ext.setCellF _ _ _ (by first | omega | simp) ?_ | refine Ext.setCell ?_ (.inr (by first | omega | simp)) _)))⟩
        · have HTS : Hid (soundB xs lk bad = true) := Go.Lib.hid (by rw [HLK.out]; exact soundB_take HKN.out hsb)
          clear hsb
          go_wp2_with fail
          refine Calls.ew (saga_Sound 0 t7 u17 u27 xs lk ds7 HM.out hlenk HAOk.out ba bc bad _ (HT4.out.extN (by (repeat (first | with_reducible exact Ext.refl _ _ | assumption | with_reducible refine Ext.upN ?_ | with_reducible refine Ext.alloc ?_ _ | with_reducible refine Ext.upA (by assumption) ?_ | with_reducible refine Ext.upW ?_ | with_reducible refine Ext.drew ?_ | with_reducible refine Ext.drewN ?_ _ | with_reducible refine Ext.upF ?_ | with_reducible refine Ext.upFF (by first | omega | simp) ?_ | with_reducible refine Ext.setCellsF _ _ _ (by first | omega | simp) ?_ | with_reducible refine Ext.setCellF _ _ _ (by first | omega | simp) ?_ | with_reducible refine Ext.upFN (by first | omega | simp) ?_ | with_reducible refine Ext.up1F (by first | omega | simp) ?_ | with_reducible refine Ext.up1N (by first | omega | simp) ?_ | with_reducible refine Ext.setCell ?_ (.inr (by first | omega | simp)) _ | refine Ext.alloc ?_ _ | refine Ext.setCellF _ _ _ (by first | omega | simp) ?_ | refine Ext.setCell ?_ (.inr (by first | omega | simp)) _)))) (HB4.out.extN (by (repeat (first | with_reducible exact Ext.refl _ _ | assumption | with_reducible refine Ext.upN ?_ | with_reducible refine Ext.alloc ?_ _ | with_reducible refine Ext.upA (by assumption) ?_ | with_reducible refine Ext.upW ?_ | with_reducible refine Ext.drew ?_ | with_reducible refine Ext.drewN ?_ _ | with_reducible refine Ext.upF ?_ | with_reducible refine Ext.upFF (by first | omega | simp) ?_ | with_reducible refine Ext.setCellsF _ _ _ (by first | omega | simp) ?_ | with_reducible refine Ext.setCellF _ _ _ (by first | omega | simp) ?_ | with_reducible refine Ext.upFN (by first | omega | simp) ?_ | with_reducible refine Ext.up1F (by first | omega | simp) ?_ | with_reducible refine Ext.up1N (by first | omega | simp) ?_ | with_reducible refine Ext.setCell ?_ (.inr (by first | omega | simp)) _ | refine Ext.alloc ?_ _ | refine Ext.setCellF _ _ _ (by first | omega | simp) ?_ | refine Ext.setCell ?_ (.inr (by first | omega | simp)) _))))) ?_
          rintro e u2 rfl
          rw [HTS.out]
          go_wp2
          go_ret
          exact ⟨rfl, HX4.out.trans (by (repeat (first | with_reducible exact Ext.refl _ _ | assumption | with_reducible refine Ext.upN ?_ | with_reducible refine Ext.alloc ?_ _ | with_reducible refine Ext.upA (by assumption) ?_ | with_reducible refine Ext.upW ?_ | with_reducible refine Ext.drew ?_ | with_reducible refine Ext.drewN ?_ _ | with_reducible refine Ext.upF ?_ | with_reducible refine Ext.upFF (by first | omega | simp) ?_ | with_reducible refine Ext.setCellsF _ _ _ (by first | omega | simp) ?_ | with_reducible refine Ext.setCellF _ _ _ (by first | omega | simp) ?_ | with_reducible refine Ext.upFN (by first | omega | simp) ?_ | with_reducible refine Ext.up1F (by first | omega | simp) ?_ | with_reducible refine Ext.up1N (by first | omega | simp) ?_ | with_reducible refine Ext.setCell ?_ (.inr (by first | omega | simp)) _ | refine Ext.alloc ?_ _ | refine Ext.setCellF _ _ _ (by first | omega | simp) ?_ | refine Ext.setCell ?_ (.inr (by first | omega | simp)) _)))⟩
      · obtain ⟨rfl, rfl, hsq⟩ := HSR.out rfl
        have HSQ := Go.Lib.hid hsq
        clear hsq HSR
        go_wp2_with fail
        refine Calls.ew (ref_Same ce1 ca1 cc1 ys1 ce2 ca2 cc2 ys2 _ (HI1g.out.extN (by (repeat (first | with_reducible exact Ext.refl _ _ | assumption | with_reducible refine Ext.upN ?_ | with_reducible refine Ext.alloc ?_ _ | with_reducible refine Ext.upA (by assumption) ?_ | with_reducible refine Ext.upW ?_ | with_reducible refine Ext.drew ?_ | with_reducible refine Ext.drewN ?_ _ | with_reducible refine Ext.upF ?_ | with_reducible refine Ext.upFF (by first | omega | simp) ?_ | with_reducible refine Ext.setCellsF _ _ _ (by first | omega | simp) ?_ | with_reducible refine Ext.setCellF _ _ _ (by first | omega | simp) ?_ | with_reducible refine Ext.upFN (by first | omega | simp) ?_ | with_reducible refine Ext.up1F (by first | omega | simp) ?_ | with_reducible refine Ext.up1N (by first | omega | simp) ?_ | with_reducible refine Ext.setCell ?_ (.inr (by first | omega | simp)) _ | refine Ext.alloc ?_ _ | refine Ext.setCellF _ _ _ (by first | omega | simp) ?_ | refine Ext.setCell ?_ (.inr (by first | omega | simp)) _)))) (HI2g.out.extN (by (repeat (first | with_reducible exact Ext.refl _ _ | assumption | with_reducible refine Ext.upN ?_ | with_reducible refine Ext.alloc ?_ _ | with_reducible refine Ext.upA (by assumption) ?_ | with_reducible refine Ext.upW ?_ | with_reducible refine Ext.drew ?_ | with_reducible refine Ext.drewN ?_ _ | with_reducible refine Ext.upF ?_ | with_reducible refine Ext.upFF (by first | omega | simp) ?_ | with_reducible refine Ext.setCellsF _ _ _ (by first | omega | simp) ?_ | with_reducible refine Ext.setCellF _ _ _ (by first | omega | simp) ?_ | with_reducible refine Ext.upFN (by first | omega | simp) ?_ | with_reducible refine Ext.up1F (by first | omega | simp) ?_ | with_reducible refine Ext.up1N (by first | omega | simp) ?_ | with_reducible refine Ext.setCell ?_ (.inr (by first | omega | simp)) _ | refine Ext.alloc ?_ _ | refine Ext.setCellF _ _ _ (by first | omega | simp) ?_ | refine Ext.setCell ?_ (.inr (by first | omega | simp)) _))))) ?_
        rintro e u3 rfl
        rw [HSM.out]
        go_wp2_with fail
        refine Calls.ew (ref_SameResult cd1 cd2 rl1 rl2 _) ?_
        rintro e u4 rfl
        rw [HSQ.out]
        go_wp2_with fail
        refine Calls.ew (saga_Sound kb s7 v17 v27 xs lr bs7 HM.out hlen HAO.out ba bc bad _ (HS4.out.extN (by (repeat (first | with_reducible exact Ext.refl _ _ | assumption | with_reducible refine Ext.upN ?_ | with_reducible refine Ext.alloc ?_ _ | with_reducible refine Ext.upA (by assumption) ?_ | with_reducible refine Ext.upW ?_ | with_reducible refine Ext.drew ?_ | with_reducible refine Ext.drewN ?_ _ | with_reducible refine Ext.upF ?_ | with_reducible refine Ext.upFF (by first | omega | simp) ?_ | with_reducible refine Ext.setCellsF _ _ _ (by first | omega | simp) ?_ | with_reducible refine Ext.setCellF _ _ _ (by first | omega | simp) ?_ | with_reducible refine Ext.upFN (by first | omega | simp) ?_ | with_reducible refine Ext.up1F (by first | omega | simp) ?_ | with_reducible refine Ext.up1N (by first | omega | simp) ?_ | with_reducible refine Ext.setCell ?_ (.inr (by first | omega | simp)) _ | refine Ext.alloc ?_ _ | refine Ext.setCellF _ _ _ (by first | omega | simp) ?_ | refine Ext.setCell ?_ (.inr (by first | omega | simp)) _)))) (HB4.out.extN (by (repeat (first | with_reducible exact Ext.refl _ _ | assumption | with_reducible refine Ext.upN ?_ | with_reducible refine Ext.alloc ?_ _ | with_reducible refine Ext.upA (by assumption) ?_ | with_reducible refine Ext.upW ?_ | with_reducible refine Ext.drew ?_ | with_reducible refine Ext.drewN ?_ _ | with_reducible refine Ext.upF ?_ | with_reducible refine Ext.upFF (by first | omega | simp) ?_ | with_reducible refine Ext.setCellsF _ _ _ (by first | omega | simp) ?_ | with_reducible refine Ext.setCellF _ _ _ (by first | omega | simp) ?_ | with_reducible refine Ext.upFN (by first | omega | simp) ?_ | with_reducible refine Ext.up1F (by first | omega | simp) ?_ | with_reducible refine Ext.up1N (by first | omega | simp) ?_ | with_reducible refine Ext.setCell ?_ (.inr (by first | omega | simp)) _ | refine Ext.alloc ?_ _ | refine Ext.setCellF _ _ _ (by first | omega | simp) ?_ | refine Ext.setCell ?_ (.inr (by first | omega | simp)) _))))) ?_
        rintro e u1 rfl
        cases hsb : soundB xs lr bad
        · clear hsb
          go_wp2
          go_ret
          exact ⟨rfl, HX4.out.trans (by (repeat (first | with_reducible exact Ext.refl _ _ | assumption | with_reducible refine Ext.upN ?_ | with_reducible refine Ext.alloc ?_ _ | with_reducible refine Ext.upA (by assumption) ?_ | with_reducible refine Ext.upW ?_ | with_reducible refine Ext.drew ?_ | with_reducible refine Ext.drewN ?_ _ | with_reducible refine Ext.upF ?_ | with_reducible refine Ext.upFF (by first | omega | simp) ?_ | with_reducible refine Ext.setCellsF _ _ _ (by first | omega | simp) ?_ | with_reducible refine Ext.setCellF _ _ _ (by first | omega | simp) ?_ | with_reducible refine Ext.upFN (by first | omega | simp) ?_ | with_reducible refine Ext.up1F (by first | omega | simp) ?_ | with_reducible refine Ext.up1N (by first | omega | simp) ?_ | with_reducible refine Ext.setCell ?_ (.inr (by first | omega | simp)) _ | refine Ext.alloc ?_ _ | refine Ext.setCellF _ _ _ (by first | omega | simp) ?_ | refine Ext.setCell ?_ (.inr (by first | omega | simp)) _)))⟩
        · have HTS : Hid (soundB xs lk bad = true) := Go.Lib.hid (by rw [HLK.out]; exact soundB_take HKN.out hsb)
          clear hsb
          go_wp2_with fail
          refine Calls.ew (saga_Sound 0 t7 u17 u27 xs lk ds7 HM.out hlenk HAOk.out ba bc bad _ (HT4.out.extN (by (repeat (first | with_reducible exact Ext.refl _ _ | assumption | with_reducible refine Ext.upN ?_ | with_reducible refine Ext.alloc ?_ _ | with_reducible refine Ext.upA (by assumption) ?_ | with_reducible refine Ext.upW ?_ | with_reducible refine Ext.drew ?_ | with_reducible refine Ext.drewN ?_ _ | with_reducible refine Ext.upF ?_ | with_reducible refine Ext.upFF (by first | omega | simp) ?_ | with_reducible refine Ext.setCellsF _ _ _ (by first | omega | simp) ?_ | with_reducible refine Ext.setCellF _ _ _ (by first | omega | simp) ?_ | with_reducible refine Ext.upFN (by first | omega | simp) ?_ | with_reducible refine Ext.up1F (by first | omega | simp) ?_ | with_reducible refine Ext.up1N (by first | omega | simp) ?_ | with_reducible refine Ext.setCell ?_ (.inr (by first | omega | simp)) _ | refine Ext.alloc ?_ _ | refine Ext.setCellF _ _ _ (by first | omega | simp) ?_ | refine Ext.setCell ?_ (.inr (by first | omega | simp)) _)))) (HB4.out.extN (by (repeat (first | with_reducible exact Ext.refl _ _ | assumption | with_reducible refine Ext.upN ?_ | with_reducible refine Ext.alloc ?_ _ | with_reducible refine Ext.upA (by assumption) ?_ | with_reducible refine Ext.upW ?_ | with_reducible refine Ext.drew ?_ | with_reducible refine Ext.drewN ?_ _ | with_reducible refine Ext.upF ?_ | with_reducible refine Ext.upFF (by first | omega | simp) ?_ | with_reducible refine Ext.setCellsF _ _ _ (by first | omega | simp) ?_ | with_reducible refine Ext.setCellF _ _ _ (by first | omega | simp) ?_ | with_reducible refine Ext.upFN (by first | omega | simp) ?_ | with_reducible refine Ext.up1F (by first | omega | simp) ?_ | with_reducible refine Ext.up1N (by first | omega | simp) ?_ | with_reducible refine Ext.setCell ?_ (.inr (by first | omega | simp)) _ | refine Ext.alloc ?_ _ | refine Ext.setCellF _ _ _ (by first | omega | simp) ?_ | refine Ext.setCell ?_ (.inr (by first | omega | simp)) _))))) ?_
          rintro e u2 rfl
          rw [HTS.out]
          go_wp2
          go_ret
          exact ⟨rfl, HX4.out.trans (by (repeat (first | with_reducible exact Ext.refl _ _ | assumption | with_reducible refine Ext.upN ?_ | with_reducible refine Ext.alloc ?_ _ | with_reducible refine Ext.upA (by assumption) ?_ | with_reducible refine Ext.upW ?_ | with_reducible refine Ext.drew ?_ | with_reducible refine Ext.drewN ?_ _ | with_reducible refine Ext.upF ?_ | with_reducible refine Ext.upFF (by first | omega | simp) ?_ | with_reducible refine Ext.setCellsF _ _ _ (by first | omega | simp) ?_ | with_reducible refine Ext.setCellF _ _ _ (by first | omega | simp) ?_ | with_reducible refine Ext.upFN (by first | omega | simp) ?_ | with_reducible refine Ext.up1F (by first | omega | simp) ?_ | with_reducible refine Ext.up1N (by first | omega | simp) ?_ | with_reducible refine Ext.setCell ?_ (.inr (by first | omega | simp)) _ | refine Ext.alloc ?_ _ | refine Ext.setCellF _ _ _ (by first | omega | simp) ?_ | refine Ext.setCell ?_ (.inr (by first | omega | simp)) _)))⟩
  · have hbn : (newE ep xs lr != 0) = true := by simpa using hne
    have HNE := Go.Lib.hid hne
    clear hne
    go_enter Try.func7, Try.ntmps7
    go_wp2_with fail
    have B0 := Go.Lib.hid ((Bx.newAt w [.int .i64 ep, .slice a xs.length cap] 24 _ rfl).alloc (.cells #[.int .i64 n, .int .i64 eq, .bool tu, .int .i64 c, .int .i64 s, .int .i64 k, .string key, .int .u64 b, .int .i64 id, .slice ba bad.length bc] 65))
    refine Calls.ew (law22_lives _) ?_
    rintro e x1 rfl
    go_upto_region 3 with fail
    apply wp_region_rel (relR [Mo.is _, Mo.is _, moLog lr, Mo.is _, Mo.is _, Mo.is _, Mo.is _, Mo.is _, Mo.is _]) (by kernel_rfl) (by kernel_rfl) (by kernel_rfl) (relR_mono _) (StepD.all ?st3) ?q3
    case st3 =>
      refine ⟨?_, ?_, ?_, ?_, ?_, ?_, ?_, ?_, ?_, trivial⟩
      · intro a' w' hx hs hd
        obtain ⟨y, rfl⟩ := hx.ew
        have e3 : a'.tmps[3]?.getD undef = _ := hs 3 rfl
        simp only [List.getElem?_toArray, List.getElem?_cons_succ, List.getElem?_cons_zero, Option.getD_some, Array.getElem?_eq_some_iff] at e3
        refine .inl ⟨rfl, ?_⟩
        clear hs hd hx
        go_simp
        exact ⟨Ext.refl _ _, rfl⟩
      · intro a' w' hx hs hd
        obtain ⟨y, rfl⟩ := hx.ew
        have e1 : a'.tmps[1]?.getD undef = _ := hs 1 rfl
        simp only [List.getElem?_toArray, List.getElem?_cons_succ, List.getElem?_cons_zero, Option.getD_some, Array.getElem?_eq_some_iff] at e1
        refine .inl ⟨rfl, ?_⟩
        clear hs hd hx
        go_simp
        exact ⟨Ext.refl _ _, rfl⟩
      · intro a' w' hx hs hd
        obtain ⟨y, rfl⟩ := hx.ew
        have e30 : a'.tmps[30]?.getD undef = _ := hd 1 30 rfl rfl
        refine .inl ⟨rfl, ?_⟩
        clear hs hd hx
        go_simp
        exact (HLG.out _ (by (repeat (first | with_reducible exact Ext.refl _ _ | assumption | with_reducible refine Ext.upN ?_ | with_reducible refine Ext.alloc ?_ _ | with_reducible refine Ext.upA (by assumption) ?_ | with_reducible refine Ext.upW ?_ | with_reducible refine Ext.drew ?_ | with_reducible refine Ext.drewN ?_ _ | with_reducible refine Ext.upF ?_ | with_reducible refine Ext.upFF (by first | omega | simp) ?_ | with_reducible refine Ext.setCellsF _ _ _ (by first | omega | simp) ?_ | with_reducible refine Ext.setCellF _ _ _ (by first | omega | simp) ?_ | with_reducible refine Ext.upFN (by first | omega | simp) ?_ | with_reducible refine Ext.up1F (by first | omega | simp) ?_ | with_reducible refine Ext.up1N (by first | omega | simp) ?_ | with_reducible refine Ext.setCell ?_ (.inr (by first | omega | simp)) _ | refine Ext.alloc ?_ _ | refine Ext.setCellF _ _ _ (by first | omega | simp) ?_ | refine Ext.setCell ?_ (.inr (by first | omega | simp)) _)))).mono (fun e w'' ⟨ra, rc, he, hR, hx⟩ => ⟨_, he, hx, ra, rc, rfl, hR⟩)
      · intro a' w' hx hs hd
        obtain ⟨y, rfl⟩ := hx.ew
        have e29 : a'.tmps[29]?.getD undef = _ := hd 0 29 rfl rfl
        obtain ⟨ra, rc, e31, hR⟩ : ∃ ra rc, a'.tmps[31]?.getD undef = .slice ra lr.length rc ∧ Reqs y.on ra rc lr := hd 2 31 rfl rfl
        refine .inl ⟨rfl, ?_⟩
        clear hs hd hx
        go_simp
        exact (saga_New_no ep a cap xs ra rc lr HOK.out HNE.out _ (HI.out.extN (by (repeat (first | with_reducible exact Ext.refl _ _ | assumption | with_reducible refine Ext.upN ?_ | with_reducible refine Ext.alloc ?_ _ | with_reducible refine Ext.upA (by assumption) ?_ | with_reducible refine Ext.upW ?_ | with_reducible refine Ext.drew ?_ | with_reducible refine Ext.drewN ?_ _ | with_reducible refine Ext.upF ?_ | with_reducible refine Ext.upFF (by first | omega | simp) ?_ | with_reducible refine Ext.setCellsF _ _ _ (by first | omega | simp) ?_ | with_reducible refine Ext.setCellF _ _ _ (by first | omega | simp) ?_ | with_reducible refine Ext.upFN (by first | omega | simp) ?_ | with_reducible refine Ext.up1F (by first | omega | simp) ?_ | with_reducible refine Ext.up1N (by first | omega | simp) ?_ | with_reducible refine Ext.setCell ?_ (.inr (by first | omega | simp)) _ | refine Ext.alloc ?_ _ | refine Ext.setCellF _ _ _ (by first | omega | simp) ?_ | refine Ext.setCell ?_ (.inr (by first | omega | simp)) _)))) hR).mono (fun e w'' ⟨he, hx⟩ => ⟨_, he, hx, rfl⟩)
      · intro a' w' hx hs hd
        obtain ⟨y, rfl⟩ := hx.ew
        have e32 : a'.tmps[32]?.getD undef = _ := hd 3 32 rfl rfl
        refine .inl ⟨rfl, ?_⟩
        clear hs hd hx
        go_simp
        exact ⟨Ext.refl _ _, rfl⟩
      · intro a' w' hx hs hd
        obtain ⟨y, rfl⟩ := hx.ew
        have e28 : a'.tmps[28]?.getD undef = _ := hd 4 28 rfl rfl
        refine .inl ⟨rfl, ?_⟩
        clear hs hd hx
        go_simp
        exact ⟨Ext.refl _ _, rfl⟩
      · intro a' w' hx hs hd
        obtain ⟨y, rfl⟩ := hx.ew
        have e28 : a'.tmps[28]?.getD undef = _ := hd 4 28 rfl rfl
        refine .inl ⟨rfl, ?_⟩
        clear hs hd hx
        go_simp
        exact ⟨Ext.refl _ _, rfl⟩
      · intro a' w' hx hs hd
        obtain ⟨y, rfl⟩ := hx.ew
        have e33 : a'.tmps[33]?.getD undef = _ := hd 5 33 rfl rfl
        refine .inl ⟨rfl, ?_⟩
        clear hs hd hx
        go_simp
        exact ⟨Ext.refl _ _, rfl⟩
      · intro a' w' hx hs hd
        obtain ⟨y, rfl⟩ := hx.ew
        have e34 : a'.tmps[34]?.getD undef = _ := hd 6 34 rfl rfl
        refine .inl ⟨rfl, ?_⟩
        clear hs hd hx
        go_simp
        exact ⟨Ext.refl _ _, rfl⟩
    case' q3 =>
      intro vs w' hx hRR
      obtain ⟨x2, rfl⟩ := hx.ew
      have q0 : vs 0 = _ := hRR 0 (by decide)
      have q1 : vs 1 = _ := hRR 1 (by decide)
      obtain ⟨ra, rc, q2, hR⟩ : ∃ ra rc, vs 2 = .slice ra lr.length rc ∧ Reqs x2.on ra rc lr := hRR 2 (by decide)
      have q3 : vs 3 = _ := hRR 3 (by decide)
      have q4 : vs 4 = _ := hRR 4 (by decide)
      have q5 : vs 5 = _ := hRR 5 (by decide)
      have q6 : vs 6 = _ := hRR 6 (by decide)
      have q7 : vs 7 = _ := hRR 7 (by decide)
      have q8 : vs 8 = _ := hRR 8 (by decide)
      clear hRR hx
      simp only [putAll, List.take_succ_cons, List.take_zero, List.drop_succ_cons, List.drop_zero, Act.put, List.setIfInBounds_toArray, List.set_cons_zero, List.set_cons_succ, Nat.reduceAdd, Nat.zero_add]
      simp only [q0, q1, q2, q3, q4, q5, q6, q7, q8]
      clear q0 q1 q2 q3 q4 q5 q6 q7 q8 vs
    clear hR
    generalize newE ep xs lr = er at *
    go_wp2
    go_ret
    exact ⟨rfl, by (repeat (first | with_reducible exact Ext.refl _ _ | assumption | with_reducible refine Ext.upN ?_ | with_reducible refine Ext.alloc ?_ _ | with_reducible refine Ext.upA (by assumption) ?_ | with_reducible refine Ext.upW ?_ | with_reducible refine Ext.drew ?_ | with_reducible refine Ext.drewN ?_ _ | with_reducible refine Ext.upF ?_ | with_reducible refine Ext.upFF (by first | omega | simp) ?_ | with_reducible refine Ext.setCellsF _ _ _ (by first | omega | simp) ?_ | with_reducible refine Ext.setCellF _ _ _ (by first | omega | simp) ?_ | with_reducible refine Ext.upFN (by first | omega | simp) ?_ | with_reducible refine Ext.up1F (by first | omega | simp) ?_ | with_reducible refine Ext.up1N (by first | omega | simp) ?_ | with_reducible refine Ext.setCell ?_ (.inr (by first | omega | simp)) _ | refine Ext.alloc ?_ _ | refine Ext.setCellF _ _ _ (by first | omega | simp) ?_ | refine Ext.setCell ?_ (.inr (by first | omega | simp)) _))⟩
set_option maxRecDepth 100000 in
open Go.ChangeShapes Go.WideShapes in
theorem law_SagaBegins {H : Type} {enc : TypeId × Value → H} (W : World) {base : Nat} (v0 : Value) (d0 : DataW H) (p0 : List MemPlace) (v1 : Value) (d1 : DataW H) (p1 : List MemPlace) (v2 : Value) (d2 : DataW H) (p2 : List MemPlace)
    (h0 : DataW.Trod enc Try.prog W 0 (fun _ => true) true 24 v0 d0 p0) (ok0 : Value.okWide Try.prog W .any base 24 v0)
    (h1 : DataW.Trod enc Try.prog W 0 (fun _ => true) true 25 v1 d1 p1) (ok1 : Value.okWide Try.prog W .any base 25 v1)
    (h2 : DataW.Trod enc Try.prog W 0 (fun _ => true) true 65 v2 d2 p2) (ok2 : Value.okWide Try.prog W .any base 65 v2)
    {ts : List TypeId} (hts : ts[1]? = some 25) (hz : (DataW.weightsEach Try.prog ts [d0, d1, d2]).all (· ≤ reachBytes) = true) :
    Calls Try.prog 7 #[v0, v1, v2] W fun e w' => e = .returned (.bool true) ∧ Below W.heap.size W w' := by
  obtain ⟨ep, a, cap, xs, rfl, hep, hi, _⟩ := arg_conf ok0 h0
  obtain ⟨pa, pcap, l, rfl, hs, hd⟩ := arg_asks ok1 h1
  obtain ⟨cs, rfl, n, x, hx⟩ := arg_struct Try.underlying65 ok2 h2
  obtain ⟨q0, q1, q2, c, s, k, key, b, id, ba, bc, bad, rfl, h0, h1, hro, hb⟩ := read_q22 hx
  exact (walk_SagaBegins ep a cap xs pa pcap l (asks_lim hz hts rfl hd) q0 q1 h1 q2 c s k key b id hro ba bc bad W hi hs hb).mono fun _ _ ⟨a, b⟩ => ⟨a, b.toBelow⟩
end Go.Proofs.Ytekbonciafbjiaa
