/- Joined texts: Rep20. What each proves stands at its head; no conditions beside those in its theorems. -/
import Derived.Laws.CopyOwn
import Derived.Deep.OwnRows
import Derived.Deep.RegionLaw
import Derived.Test.YtflpkoafebjfdaaGreatProg
import Derived.Shelf.SlIter.Nil
import Derived.Shelf.SortM.Plain
import Derived.Shelf.SortM.SortNone
import Derived.Ground.GgzProg
import Derived.Ground.SlgmProg
import Derived.Test.YtflpkoafebjfdaaGreatPjBH
import Derived.Test.YtflpkoafebjfdaaGreatPjBQ
/- Contracts of layer 18 (replica): onRequest. Printed by wip/gen20.py. -/
namespace Go.Proofs.YtflpkoafebjfdaaGreat
open Go.RowKit Go.Lib F64
set_option linter.unusedSimpArgs false
set_option linter.unusedVariables false
attribute [local go_sem] run_store_float
attribute [local go_sem low] EW.cellN EW.frozN alloc_cell_or alloc_froz_or
attribute [local go_sem] relAt relUpon
theorem ledger_LastZ (b m : Nat) (g : Lg) (c : Nat) (hc : c < 9) (w : World) (h : LD w b m g) : Calls Tryz.prog 192 #[.pointer (some ⟨b, 0, none⟩), .int .i64 (c : Int)] w fun e w' =>
    e = .returned (.tuple #[.int .i64 (lastStamp g c), .agg #[.int .i64 (lastRes g (c : Int)).code, .float .f64 (lastRes g (c : Int)).real]]) ∧ Ext Non w w' := by
  by_cases h1 : 1 ≤ c
  · have h8 : c ≤ 8 := by omega
    have e1 : lastStamp g c = (g.cl (c - 1)).stamp := by unfold lastStamp; rw [if_pos ⟨h1, h8⟩]
    have e2 : lastRes g (c : Int) = ⟨(g.cl (c - 1)).code, (g.cl (c - 1)).real⟩ := by
      unfold lastRes
      rw [if_pos ⟨by omega, by omega⟩, show ((c : Int) - 1).toNat = c - 1 by omega]
    rw [e1, e2]
    exact ledger_Last b m g (c : Int) (c - 1) (by omega) (by omega) w h
  · have e1 : lastStamp g c = 0 := by unfold lastStamp; rw [if_neg (fun q => h1 q.1)]
    have e2 : lastRes g (c : Int) = ⟨0, 0⟩ := by
      unfold lastRes
      rw [if_neg (fun q => h1 (by omega))]
    rw [e1, e2]
    exact ledger_Last_no _ (c : Int) (.inr (.inl (by omega))) w
theorem lastRes_ok {g : Lg} (I : Inv g) (c : Int) : I64 (lastRes g c).code ∧ (lastRes g c).real < 18446744073709551616 := by
  unfold lastRes
  split
  · have := I.cb (c - 1).toNat
    exact ⟨by unfold I64; show _ ≤ (g.cl (c - 1).toNat).code ∧ (g.cl (c - 1).toNat).code ≤ _; omega, this.2.2.2.2.1⟩
  · exact ⟨by unfold I64; show _ ≤ (0 : Int) ∧ (0 : Int) ≤ _; omega, by show (0 : Nat) < _; omega⟩
/-- Where onRequest proposes. -/
def waitS (g : Rp) (m : Ms) : Rp := { putWait g m.req.client.toNat ⟨m.req, (sgAt0 m.sigs).by_, (sgAt0 m.sigs).text⟩ with timer := tmStart g.timer g.now }
section
variable {b : Nat} {col : Nat → Nat} {A : RA} {g : Rp}
set_option maxHeartbeats 1000000 in
set_option maxRecDepth 100000 in
theorem rep_onRequest (m : Ms) (M : MA) (from_ : Int) (hf : I64 from_) (HT0 : PrAt P64 (waitS g m)) (w : World) (h : RepW w b col A g) (hi : RInv g) (hm : MsW (hide col w) M m) (hcl : 0 ≤ m.req.client ∧ m.req.client ≤ 8) : Calls Tryz.prog 120 #[.pointer (some ⟨b, 0, none⟩), .int .i64 from_, .agg (m.cells M).toArray] w fun e w' =>
    e = .returned (.tuple #[]) ∧ RPost w b col A g w' (onRequest g from_ m) ∧ RInv (answerG (onRequest g from_ m)) := by
  have HI := Go.Lib.hid hi; have HF := Go.Lib.hid hf
  have HT : Hid (PrAt P64 { putWait g m.req.client.toNat ⟨m.req, (sgAt0 m.sigs).by_, (sgAt0 m.sigs).text⟩ with timer := tmStart g.timer g.now }) := Go.Lib.hid HT0
  have HRq := Go.Lib.hid hm.ok.r
  have HSs := Go.Lib.hid hm.s
  have H14 : Hid ((m.cells M)[14]? = some (.slice M.sa m.sigs.length M.sc)) := Go.Lib.hid rfl
  obtain ⟨L, hL⟩ : ∃ L : List Value, L = m.cells M := ⟨_, rfl⟩
  have HLc := Go.Lib.hid (cells_at m M)
  rw [← hL]
  rw [← hL] at HLc H14
  have hLlen : L.length = 17 := by rw [hL]; rfl
  clear hL
  have DO : Hid (onRequest g from_ m = if memberR g = true ∧ from_ = 100 + m.req.client ∧ signedB m.req m.sigs = true ∧ lastStamp g.book m.req.client.toNat ≤ m.req.stamp then (if m.req.stamp = lastStamp g.book m.req.client.toNat then sendG g from_ (msgReply g m.req (lastRes g.book m.req.client)) else if (g.waits m.req.client.toNat).req.stamp < m.req.stamp then P64 { putWait g m.req.client.toNat ⟨m.req, (sgAt0 m.sigs).by_, (sgAt0 m.sigs).text⟩ with timer := tmStart g.timer g.now } else g) else g) := Go.Lib.hid rfl
  generalize onRequest g from_ m = RES at *
  obtain ⟨q, hq⟩ : ∃ q, q = m.req := ⟨_, rfl⟩
  rw [← hq] at DO HLc HRq hcl HT
  clear hq
  obtain ⟨qc, rs, ⟨rk, rkey, rx, rid⟩⟩ := q
  try dsimp only at DO
  try dsimp only at HLc
  try dsimp only at HT
  try dsimp only at hcl
  obtain ⟨c, hc⟩ : ∃ c : Nat, qc = (c : Int) := ⟨qc.toNat, by omega⟩
  subst hc
  have hc9 : c < 9 := by omega
  rw [Int.toNat_natCast] at DO HT
  have X := Go.Lib.hid ((Ext.refl Non w).alloc (.cells L.toArray 43))
  obtain ⟨kb, hkb⟩ : ∃ kb, kb = w.heap.size := ⟨_, rfl⟩
  have B0 := Go.Lib.hid (Bx.newAt w L 43 kb hkb)
  have N0 := Go.Lib.hid (Nw.start h)
  have HC0 := Go.Lib.hid (h.new kb (by omega))
  have HC9 := Go.Lib.hid (And.intro hc9 hcl)
  clear h hi hf hm HT0 hc9 hcl
  go_enter Tryz.func120, Tryz.ntmps120
  go_upto_region 1 with fail
  rw [← hkb]
  clear hkb
  generalize World.alloc _ _ = W1 at *
  have N1 := Go.Lib.hid (N0.out.extN X.out)
  have B1 : Hid (Loc W1 col kb L 43) := Go.Lib.hid ⟨B0.out, HC0.out⟩
  have S1 := Go.Lib.hid (HSs.out.extN (hide_extN (col := col) X.out))
  clear N0 B0 X HC0 HSs hLlen
  have d4 : W1.cell? ⟨kb, 4, none⟩ = some (.int .i64 (c : Int)) := B1.out.h.cell (j := 4) (HLc.out 4 _ rfl)
  have d5 : W1.cell? ⟨kb, 5, none⟩ = some (.int .i64 rs) := B1.out.h.cell (j := 5) (HLc.out 5 _ rfl)
  have d6 : W1.cell? ⟨kb, 6, none⟩ = some (.int .i64 rk) := B1.out.h.cell (j := 6) (HLc.out 6 _ rfl)
  have d7 : W1.cell? ⟨kb, 7, none⟩ = some (.string rkey) := B1.out.h.cell (j := 7) (HLc.out 7 _ rfl)
  have d8 : W1.cell? ⟨kb, 8, none⟩ = some (.float .f64 rx) := B1.out.h.cell (j := 8) (HLc.out 8 _ rfl)
  have d9 : W1.cell? ⟨kb, 9, none⟩ = some (.int .i64 rid) := B1.out.h.cell (j := 9) (HLc.out 9 _ rfl)
  obtain ⟨kq, hkq⟩ : ∃ kq, kq = W1.heap.size := ⟨_, rfl⟩
  have X2 := Go.Lib.hid ((Ext.refl Non W1).alloc (.cells #[.int .i64 (c : Int), .int .i64 rs, .int .i64 rk, .string rkey, .float .f64 rx, .int .i64 rid] 37))
  have Q2 : Hid (Loc (W1.alloc (.cells #[.int .i64 (c : Int), .int .i64 rs, .int .i64 rk, .string rkey, .float .f64 rx, .int .i64 rid] 37)) col kq [.int .i64 (c : Int), .int .i64 rs, .int .i64 rk, .string rkey, .float .f64 rx, .int .i64 rid] 37) := Go.Lib.hid ⟨Bx.newAt W1 [.int .i64 (c : Int), .int .i64 rs, .int .i64 rk, .string rkey, .float .f64 rx, .int .i64 rid] 37 kq hkq, N1.out.r.new _ (by omega)⟩
  go_upto_region 2 with fail
  rw [← hkq]
  clear hkq d4 d5 d6 d7 d8 d9
  generalize World.alloc _ _ = W2 at *
  have N2 := Go.Lib.hid (N1.out.extN X2.out); have B2 := Go.Lib.hid (B1.out.extN X2.out); have S2 := Go.Lib.hid (S1.out.extN (hide_extN (col := col) X2.out))
  clear N1 B1 S1 X2
  obtain ⟨c0, c1, c2, c3, c4, c5⟩ := Q2.out.h.six
  have e0 := N2.out.r.rbk id
  have HLs : Hid (∀ w', Ext Non W2 w' → Calls Tryz.prog 192 #[.pointer (some ⟨A.bk, 0, none⟩), .int .i64 (c : Int)] w' fun e w'' => e = .returned (.tuple #[.int .i64 (lastStamp g.book c), .agg #[.int .i64 (lastRes g.book (c : Int)).code, .float .f64 (lastRes g.book (c : Int)).real]]) ∧ Ext Non w' w'') := Go.Lib.hid (fun w' x => ledger_LastZ A.bk A.mb g.book c HC9.out.1 w' ((N2.out.r.book id).h.extN x).to)
  have HLR := Go.Lib.hid (lastRes_ok HI.out.b.bk (c : Int))
  have HLSt := Go.Lib.hid (show lastRes g.book (c : Int) = ⟨(lastRes g.book (c : Int)).code, (lastRes g.book (c : Int)).real⟩ from rfl)
  rw [HLSt.out] at DO
  try dsimp only at DO
  clear HLSt
  generalize (lastRes g.book (c : Int)).code = dc at *
  generalize (lastRes g.book (c : Int)).real = dx at *
  generalize lastStamp g.book c = ls at *
  have nn1 : Non b = False := rfl
  have nn2 : Non kq = False := rfl
  have hcut : True := trivial
  clear hcut
  go_cut [7, 8] (fun v7 v8 wx => ∃ k, v7 = .int .i64 ls ∧ v8 = .pointer (some ⟨k, 0, none⟩) ∧ Hid (Nw w b col A g wx col A g) ∧ Hid (Loc wx col kb L 43) ∧ Hid (Loc wx col kq [.int .i64 (c : Int), .int .i64 rs, .int .i64 rk, .string rkey, .float .f64 rx, .int .i64 rid] 37) ∧ Hid (Sigs (hide col wx) M.sa M.sc m.sigs) ∧ Hid (Loc wx col k [.int .i64 dc, .float .f64 dx] 39))
  case first =>
    apply wp_region_rel_late 11 9 (relR [Mo.is _, Mo.is _, Mo.is _, Mo.is _, Mo.is _, Mo.is _, Mo.is _, Mo.is _, Mo.is _, Mo.is _, moPt W2.heap.size [.int .i64 0, .float .f64 0] 39]) (by kernel_rfl) (by kernel_rfl) (by kernel_rfl) (by kernel_rfl) (by kernel_rfl) (by decide) (by decide) (by kernel_rfl) (by kernel_rfl) (by kernel_rfl) (relR_mono _) (StepD.all ?st15) ?q15 ?l15
    case st15 =>
      refine ⟨?_, ?_, ?_, ?_, ?_, ?_, ?_, ?_, ?_, ?_, ?_, trivial⟩
      · intro a' w' hx hs hd
        obtain ⟨y, rfl⟩ := hx.ew
        have e0 : a'.tmps[0]?.getD undef = _ := hs 0 rfl
        simp only [List.getElem?_toArray, List.getElem?_cons_succ, List.getElem?_cons_zero, Option.getD_some, Array.getElem?_eq_some_iff] at e0
        refine .inl ⟨rfl, ?_⟩
        clear hs hd hx
        go_simp
        exact ⟨Ext.refl _ _, rfl⟩
      · intro a' w' hx hs hd
        obtain ⟨y, rfl⟩ := hx.ew
        have e12 : a'.tmps[12]?.getD undef = _ := hd 0 12 rfl rfl
        refine .inl ⟨rfl, ?_⟩
        clear hs hd hx
        go_simp
        exact ⟨Ext.refl _ _, rfl⟩
      · intro a' w' hx hs hd
        obtain ⟨y, rfl⟩ := hx.ew
        have e13 : a'.tmps[13]?.getD undef = _ := hd 1 13 rfl rfl
        refine .inl ⟨rfl, ?_⟩
        clear hs hd hx
        go_simp
        exact ⟨Ext.refl _ _, rfl⟩
      · intro a' w' hx hs hd
        obtain ⟨y, rfl⟩ := hx.ew
        have e14 : a'.tmps[14]?.getD undef = _ := hd 2 14 rfl rfl
        refine .inl ⟨rfl, ?_⟩
        clear hs hd hx
        go_simp
        exact ⟨Ext.refl _ _, rfl⟩
      · intro a' w' hx hs hd
        obtain ⟨y, rfl⟩ := hx.ew
        have e6 : a'.tmps[6]?.getD undef = _ := hs 6 rfl
        simp only [List.getElem?_toArray, List.getElem?_cons_succ, List.getElem?_cons_zero, Option.getD_some, Array.getElem?_eq_some_iff] at e6
        refine .inl ⟨rfl, ?_⟩
        clear hs hd hx
        go_simp
        exact ⟨Ext.refl _ _, rfl⟩
      · intro a' w' hx hs hd
        obtain ⟨y, rfl⟩ := hx.ew
        have e16 : a'.tmps[16]?.getD undef = _ := hd 4 16 rfl rfl
        refine .inl ⟨rfl, ?_⟩
        clear hs hd hx
        go_simp
        exact ⟨Ext.refl _ _, rfl⟩
      · intro a' w' hx hs hd
        obtain ⟨y, rfl⟩ := hx.ew
        have e15 : a'.tmps[15]?.getD undef = _ := hd 3 15 rfl rfl
        have e17 : a'.tmps[17]?.getD undef = _ := hd 5 17 rfl rfl
        refine .inl ⟨rfl, ?_⟩
        clear hs hd hx
        go_simp
        exact (HLs.out _ (by (repeat (first | with_reducible (first | exact Ext.refl _ _ | assumption | refine Ext.upN ?_ | refine Ext.alloc ?_ _ | refine Ext.drew ?_ | refine Ext.drewN ?_ _ | refine Ext.up1N (by first | omega | simp) ?_) | refine Ext.alloc ?_ _ | refine Ext.setCell ?_ (.inr (by first | omega | simp)) _)))).mono (fun e w'' ⟨he, hx⟩ => ⟨_, he, hx, rfl⟩)
      · intro a' w' hx hs hd
        obtain ⟨y, rfl⟩ := hx.ew
        have e18 : a'.tmps[18]?.getD undef = _ := hd 6 18 rfl rfl
        refine .inl ⟨rfl, ?_⟩
        clear hs hd hx
        go_simp
        exact ⟨Ext.refl _ _, rfl⟩
      · intro a' w' hx hs hd
        obtain ⟨y, rfl⟩ := hx.ew
        have e11 : a'.tmps[11]?.getD undef = _ := hd 7 11 rfl rfl
        refine .inl ⟨rfl, ?_⟩
        clear hs hd hx
        go_simp
        exact ⟨Ext.refl _ _, rfl⟩
      · intro a' w' hx hs hd
        obtain ⟨y, rfl⟩ := hx.ew
        have e11 : a'.tmps[11]?.getD undef = _ := hd 7 11 rfl rfl
        refine .inl ⟨rfl, ?_⟩
        clear hs hd hx
        go_simp
        exact ⟨Ext.refl _ _, rfl⟩
      · intro a' w' hx hs hd
        obtain ⟨y, rfl⟩ := hx.ew
        refine .inl ⟨rfl, ?_⟩
        clear hs hd hx
        go_simp
        exact ⟨(Ext.refl _ _).alloc _, _, rfl, y.ext.size, Bx.newAt _ [.int .i64 0, .float .f64 0] _ _ rfl⟩
    case' q15 =>
      intro vs w' hx hRR
      obtain ⟨x2, rfl⟩ := hx.ew
      have q0 : vs 0 = _ := hRR 0 (by decide)
      have q1 : vs 1 = _ := hRR 1 (by decide)
      have q2 : vs 2 = _ := hRR 2 (by decide)
      have q3 : vs 3 = _ := hRR 3 (by decide)
      have q4 : vs 4 = _ := hRR 4 (by decide)
      have q5 : vs 5 = _ := hRR 5 (by decide)
      have q6 : vs 6 = _ := hRR 6 (by decide)
      have q7 : vs 7 = _ := hRR 7 (by decide)
      have q8 : vs 8 = _ := hRR 8 (by decide)
      have q9 : vs 9 = _ := hRR 9 (by decide)
      obtain ⟨k9, q10, hk9, hB9⟩ : ∃ k, vs 10 = .pointer (some ⟨k, 0, none⟩) ∧ W2.heap.size ≤ k ∧ Bx x2.on k [.int .i64 0, .float .f64 0] 39 := hRR 10 (by decide)
      clear hRR hx
      simp only [putAll, List.take_succ_cons, List.take_zero, List.drop_succ_cons, List.drop_zero, Act.put, List.setIfInBounds_toArray, List.set_cons_zero, List.set_cons_succ, Nat.reduceAdd, Nat.zero_add]
      simp only [q0, q1, q2, q3, q4, q5, q6, q7, q8, q9, q10]
      clear q0 q1 q2 q3 q4 q5 q6 q7 q8 q9 q10 vs
    case' l15 =>
      intro vs w' hx hRR hpp
      obtain ⟨x2, rfl⟩ := hx.ew
      have q0 : vs 0 = _ := hRR 0 (by decide) (by decide)
      have q1 : vs 1 = _ := hRR 1 (by decide) (by decide)
      have q2 : vs 2 = _ := hRR 2 (by decide) (by decide)
      have q3 : vs 3 = _ := hRR 3 (by decide) (by decide)
      have q4 : vs 4 = _ := hRR 4 (by decide) (by decide)
      have q5 : vs 5 = _ := hRR 5 (by decide) (by decide)
      have q6 : vs 6 = _ := hRR 6 (by decide) (by decide)
      have q7 : vs 7 = _ := hRR 7 (by decide) (by decide)
      have q8 : vs 8 = _ := hRR 8 (by decide) (by decide)
      have q9 : vs 9 = _ := hpp 20 rfl
      simp only [List.getElem?_toArray, List.getElem?_cons_succ, List.getElem?_cons_zero, Option.getD_some, Array.getElem?_eq_some_iff] at q9
      obtain ⟨k9, q10, hk9, hB9⟩ : ∃ k, vs 10 = .pointer (some ⟨k, 0, none⟩) ∧ W2.heap.size ≤ k ∧ Bx x2.on k [.int .i64 0, .float .f64 0] 39 := hRR 10 (by decide) (by decide)
      clear hRR hx hpp
      simp only [List.cons_append, List.nil_append, putAll, List.take_succ_cons, List.take_zero, List.drop_succ_cons, List.drop_zero, Act.put, List.setIfInBounds_toArray, List.set_cons_zero, List.set_cons_succ, Nat.reduceAdd, Nat.zero_add]
      simp only [q0, q1, q2, q3, q4, q5, q6, q7, q8, q9, q10]
      clear q0 q1 q2 q3 q4 q5 q6 q7 q8 q9 q10 vs
    all_goals
      have HB9 := Go.Lib.hid hB9
      have HX2 := Go.Lib.hid (by (repeat (first | with_reducible (first | exact Ext.refl _ _ | assumption | refine Ext.upN ?_ | refine Ext.alloc ?_ _ | refine Ext.drew ?_ | refine Ext.drewN ?_ _ | refine Ext.up1N (by first | omega | simp) ?_) | refine Ext.alloc ?_ _ | refine Ext.setCell ?_ (.inr (by first | omega | simp)) _)) : Ext Non W2 x2.on)
      have HK9 := Go.Lib.hid hk9
      clear hB9 hk9
      go_wp2_with (refine wpList_store_box rfl 39 _ _ rfl k9 _ [.int .i64 dc, .float .f64 dx] _ rfl rfl HB9.out rfl (by kernel_rfl) (by simp [Value.oneCell']) (fun W hB => ?_); have BR := Go.Lib.hid hB; clear hB)
      go_meet
      have XW : Ext Non W2 W.on := HX2.out.step W.ext (fun i hi q => by have q : i = k9 := q; have := HK9.out; omega)
      exact ⟨k9, rfl, rfl, Go.Lib.hid (N2.out.extN XW), Go.Lib.hid (B2.out.extN XW), Go.Lib.hid (Q2.out.extN XW), Go.Lib.hid (S2.out.extN (hide_extN (col := col) XW)), Go.Lib.hid ⟨BR.out, N2.out.r.new _ HK9.out⟩⟩
  obtain ⟨k8, rfl, rfl, N3, B3, Q3, S3, R3⟩ := hcut
  clear N2 B2 Q2 S2 HLs nn1 nn2 c0 c1 c2 c3 c4 c5 e0
  have hw100 : IntKind.i64.wrap (100 + (c : Int)) = 100 + (c : Int) := IntWalk.i64_in _ (by have := HC9.out.1; omega)
  go_wp2_with fail
  refine (rep_member _ N3.out.r).mono ?_
  rintro e w4 ⟨rfl, x4⟩
  have N4 := Go.Lib.hid (N3.out.extN x4); have B4 := Go.Lib.hid (B3.out.extN x4); have Q4 := Go.Lib.hid (Q3.out.extN x4); have R4 := Go.Lib.hid (R3.out.extN x4); have S4 := Go.Lib.hid (S3.out.extN (hide_extN (col := col) x4))
  clear N3 B3 Q3 R3 S3 x4
  cases hmb : memberR g
  · have HE := Go.Lib.hid (show RES = g by rw [DO.out, if_neg (by rw [hmb]; simp)])
    go_wp2
    go_returns
    exact ⟨rfl, by rw [HE.out]; exact N4.out.post, by rw [HE.out]; exact RInv.answered HI.out⟩
  have HMb := Go.Lib.hid hmb
  clear hmb
  obtain ⟨c0, c1, c2, c3, c4, c5⟩ := Q4.out.h.six
  have d14 : w4.cell? ⟨kb, 14, none⟩ = some (.slice M.sa m.sigs.length M.sc) := B4.out.h.cell (j := 14) H14.out
  cases hfr : (from_ != 100 + (c : Int))
  rotate_left
  · have HE := Go.Lib.hid (show RES = g by rw [DO.out, if_neg (fun q => by rw [q.2.1] at hfr; simp at hfr)])
    go_wp2
    go_returns
    exact ⟨rfl, by rw [HE.out]; exact N4.out.post, by rw [HE.out]; exact RInv.answered HI.out⟩
  have HFr := Go.Lib.hid (show from_ = 100 + (c : Int) by simpa using hfr)
  go_wp2_with fail
  refine (rep_signed (c : Int) rs rk rkey rx rid HRq.out M.sa M.sc m.sigs _ S4.out.show).mono ?_
  rintro e w5 ⟨rfl, x5⟩
  have N5 := Go.Lib.hid (N4.out.extN x5); have B5 := Go.Lib.hid (B4.out.extN x5); have Q5 := Go.Lib.hid (Q4.out.extN x5); have R5 := Go.Lib.hid (R4.out.extN x5); have S5 := Go.Lib.hid (S4.out.extN (hide_extN (col := col) x5))
  clear N4 B4 Q4 R4 S4 x5 c0 c1 c2 c3 c4 c5 d14 hfr
  cases hs : signedB ⟨(c : Int), rs, ⟨rk, rkey, rx, rid⟩⟩ m.sigs
  · have HE := Go.Lib.hid (show RES = g by rw [DO.out, if_neg (fun q => by rw [q.2.2.1] at hs; cases hs)])
    go_wp2
    go_returns
    exact ⟨rfl, by rw [HE.out]; exact N5.out.post, by rw [HE.out]; exact RInv.answered HI.out⟩
  have HSg := Go.Lib.hid hs
  clear hs hw100
  obtain ⟨c0, c1, c2, c3, c4, c5⟩ := Q5.out.h.six
  cases hlt : decide (rs < ls)
  rotate_left
  · have HE := Go.Lib.hid (show RES = g by rw [DO.out, if_neg (fun q => by have := of_decide_eq_true hlt; omega)])
    go_wp2
    go_returns
    exact ⟨rfl, by rw [HE.out]; exact N5.out.post, by rw [HE.out]; exact RInv.answered HI.out⟩
  have DO2 : Hid (RES = if rs = ls then sendG g from_ (msgReply g ⟨(c : Int), rs, ⟨rk, rkey, rx, rid⟩⟩ ⟨dc, dx⟩) else if (g.waits c).req.stamp < rs then P64 { putWait g c ⟨⟨(c : Int), rs, ⟨rk, rkey, rx, rid⟩⟩, (sgAt0 m.sigs).by_, (sgAt0 m.sigs).text⟩ with timer := tmStart g.timer g.now } else g) := Go.Lib.hid (by rw [DO.out, if_pos ⟨HMb.out, HFr.out, HSg.out, by have := of_decide_eq_false hlt; omega⟩])
  clear DO
  go_upto_region 4 with fail
  clear hlt
  cases heq : (rs == ls)
  rotate_left
  · have HE := Go.Lib.hid (show RES = sendG g from_ (msgReply g ⟨(c : Int), rs, ⟨rk, rkey, rx, rid⟩⟩ ⟨dc, dx⟩) by rw [DO2.out, if_pos (by simpa using heq)])
    obtain ⟨r0, r1⟩ : _ ∧ _ := ⟨R5.out.h.cell (j := 0) rfl, R5.out.h.cell (j := 1) rfl⟩
    obtain ⟨e0, e1⟩ : _ ∧ _ := ⟨N5.out.r.t0 id, N5.out.r.tep id⟩
    go_upto_region 5 with fail
    clear heq
    apply wp_region_rel_tail 13 (relR [Mo.is _, Mo.is _, Mo.is _, Mo.is _, Mo.is _, Mo.is _, Mo.is _, Mo.is _, Mo.is _, Mo.is _, Mo.is _, Mo.is _, Mo.is _]) (by kernel_rfl) (by kernel_rfl) (by kernel_rfl) (by kernel_rfl) (by kernel_rfl) (by decide) (by kernel_rfl) (relR_mono _) (StepD.all ?st16) ?q16
    case st16 =>
      refine ⟨?_, ?_, ?_, ?_, ?_, ?_, ?_, ?_, ?_, ?_, ?_, ?_, ?_, trivial⟩
      · intro a' w' hx hs hd
        obtain ⟨y, rfl⟩ := hx.ew
        have e0 : a'.tmps[0]?.getD undef = _ := hs 0 rfl
        simp only [List.getElem?_toArray, List.getElem?_cons_succ, List.getElem?_cons_zero, Option.getD_some, Array.getElem?_eq_some_iff] at e0
        refine .inl ⟨rfl, ?_⟩
        clear hs hd hx
        go_simp
        exact ⟨Ext.refl _ _, rfl⟩
      · intro a' w' hx hs hd
        obtain ⟨y, rfl⟩ := hx.ew
        have e1 : a'.tmps[1]?.getD undef = _ := hs 1 rfl
        simp only [List.getElem?_toArray, List.getElem?_cons_succ, List.getElem?_cons_zero, Option.getD_some, Array.getElem?_eq_some_iff] at e1
        refine .inl ⟨rfl, ?_⟩
        clear hs hd hx
        go_simp
        exact ⟨Ext.refl _ _, rfl⟩
      · intro a' w' hx hs hd
        obtain ⟨y, rfl⟩ := hx.ew
        have e0 : a'.tmps[0]?.getD undef = _ := hs 0 rfl
        simp only [List.getElem?_toArray, List.getElem?_cons_succ, List.getElem?_cons_zero, Option.getD_some, Array.getElem?_eq_some_iff] at e0
        refine .inl ⟨rfl, ?_⟩
        clear hs hd hx
        go_simp
        exact ⟨Ext.refl _ _, rfl⟩
      · intro a' w' hx hs hd
        obtain ⟨y, rfl⟩ := hx.ew
        have e50 : a'.tmps[50]?.getD undef = _ := hd 2 50 rfl rfl
        refine .inl ⟨rfl, ?_⟩
        clear hs hd hx
        go_simp
        exact ⟨Ext.refl _ _, rfl⟩
      · intro a' w' hx hs hd
        obtain ⟨y, rfl⟩ := hx.ew
        have e51 : a'.tmps[51]?.getD undef = _ := hd 3 51 rfl rfl
        refine .inl ⟨rfl, ?_⟩
        clear hs hd hx
        go_simp
        exact ⟨Ext.refl _ _, rfl⟩
      · intro a' w' hx hs hd
        obtain ⟨y, rfl⟩ := hx.ew
        have e52 : a'.tmps[52]?.getD undef = _ := hd 4 52 rfl rfl
        refine .inl ⟨rfl, ?_⟩
        clear hs hd hx
        go_simp
        exact ⟨Ext.refl _ _, rfl⟩
      · intro a' w' hx hs hd
        obtain ⟨y, rfl⟩ := hx.ew
        have e53 : a'.tmps[53]?.getD undef = _ := hd 5 53 rfl rfl
        refine .inl ⟨rfl, ?_⟩
        clear hs hd hx
        go_simp
        exact ⟨Ext.refl _ _, rfl⟩
      · intro a' w' hx hs hd
        obtain ⟨y, rfl⟩ := hx.ew
        have e54 : a'.tmps[54]?.getD undef = _ := hd 6 54 rfl rfl
        refine .inl ⟨rfl, ?_⟩
        clear hs hd hx
        go_simp
        exact ⟨Ext.refl _ _, rfl⟩
      · intro a' w' hx hs hd
        obtain ⟨y, rfl⟩ := hx.ew
        have e55 : a'.tmps[55]?.getD undef = _ := hd 7 55 rfl rfl
        refine .inl ⟨rfl, ?_⟩
        clear hs hd hx
        go_simp
        exact ⟨Ext.refl _ _, rfl⟩
      · intro a' w' hx hs hd
        obtain ⟨y, rfl⟩ := hx.ew
        have e56 : a'.tmps[56]?.getD undef = _ := hd 8 56 rfl rfl
        refine .inl ⟨rfl, ?_⟩
        clear hs hd hx
        go_simp
        exact ⟨Ext.refl _ _, rfl⟩
      · intro a' w' hx hs hd
        obtain ⟨y, rfl⟩ := hx.ew
        have e6 : a'.tmps[6]?.getD undef = _ := hs 6 rfl
        simp only [List.getElem?_toArray, List.getElem?_cons_succ, List.getElem?_cons_zero, Option.getD_some, Array.getElem?_eq_some_iff] at e6
        refine .inl ⟨rfl, ?_⟩
        clear hs hd hx
        go_simp
        exact ⟨Ext.refl _ _, rfl⟩
      · intro a' w' hx hs hd
        obtain ⟨y, rfl⟩ := hx.ew
        have e8 : a'.tmps[8]?.getD undef = _ := hs 8 rfl
        simp only [List.getElem?_toArray, List.getElem?_cons_succ, List.getElem?_cons_zero, Option.getD_some, Array.getElem?_eq_some_iff] at e8
        refine .inl ⟨rfl, ?_⟩
        clear hs hd hx
        go_simp
        exact ⟨Ext.refl _ _, rfl⟩
      · intro a' w' hx hs hd
        obtain ⟨y, rfl⟩ := hx.ew
        have e57 : a'.tmps[57]?.getD undef = _ := hd 9 57 rfl rfl
        have e58 : a'.tmps[58]?.getD undef = _ := hd 10 58 rfl rfl
        have e59 : a'.tmps[59]?.getD undef = _ := hd 11 59 rfl rfl
        refine .inl ⟨rfl, ?_⟩
        clear hs hd hx
        go_simp
        exact ⟨Ext.refl _ _, rfl⟩
    case' q16 =>
      intro vs w' hx hRR
      obtain ⟨x7, rfl⟩ := hx.ew
      have q0 : vs 0 = _ := hRR 0 (by decide)
      have q1 : vs 1 = _ := hRR 1 (by decide)
      have q2 : vs 2 = _ := hRR 2 (by decide)
      have q3 : vs 3 = _ := hRR 3 (by decide)
      have q4 : vs 4 = _ := hRR 4 (by decide)
      have q5 : vs 5 = _ := hRR 5 (by decide)
      have q6 : vs 6 = _ := hRR 6 (by decide)
      have q7 : vs 7 = _ := hRR 7 (by decide)
      have q8 : vs 8 = _ := hRR 8 (by decide)
      have q9 : vs 9 = _ := hRR 9 (by decide)
      have q10 : vs 10 = _ := hRR 10 (by decide)
      have q11 : vs 11 = _ := hRR 11 (by decide)
      have q12 : vs 12 = _ := hRR 12 (by decide)
      clear hRR hx
      simp only [putAll, List.take_succ_cons, List.take_zero, List.drop_succ_cons, List.drop_zero, Act.put, List.setIfInBounds_toArray, List.set_cons_zero, List.set_cons_succ, Nat.reduceAdd, Nat.zero_add]
      simp only [q0, q1, q2, q3, q4, q5, q6, q7, q8, q9, q10, q11, q12]
      clear q0 q1 q2 q3 q4 q5 q6 q7 q8 q9 q10 q11 q12 vs
    have N7 := Go.Lib.hid (N5.out.extN (by (repeat (first | with_reducible (first | exact Ext.refl _ _ | assumption | refine Ext.upN ?_ | refine Ext.alloc ?_ _ | refine Ext.drew ?_ | refine Ext.drewN ?_ _ | refine Ext.up1N (by first | omega | simp) ?_) | refine Ext.alloc ?_ _ | refine Ext.setCell ?_ (.inr (by first | omega | simp)) _)) : Ext Non w5 x7.on))
    clear c0 c1 c2 c3 c4 c5 r0 r1 e0 e1 N5 B5 Q5 R5 S5
    generalize x7.on = W7 at *
    go_wp2_with fail
    have HO := HI.out.outs
    have hgid := HI.out.b.id; have hgep := HI.out.b.epb
    have Q := rep_send from_ (msgReply g ⟨(c : Int), rs, ⟨rk, rkey, rx, rid⟩⟩ ⟨dc, dx⟩) nullA _ N7.out.r (MsW.reply (by unfold I64; omega) HRq.out HLR.out.1 HLR.out.2) HF.out (by unfold I64; omega) (by omega)
    rw [cells_reply] at Q
    refine Calls.mono Q ?_
    clear Q hgid hgep HO
    rintro e w8 ⟨rfl, p⟩
    obtain ⟨col8, A8, N8', -, -, -⟩ := N7.out.step p
    have N8 := Go.Lib.hid N8'.post
    clear p N8' N7
    go_wp2
    go_returns
    exact ⟨rfl, by rw [HE.out]; exact N8.out, by rw [HE.out]; show RInv (answerG g); exact RInv.answered HI.out⟩
  have DO3 : Hid (RES = if (g.waits c).req.stamp < rs then P64 { putWait g c ⟨⟨(c : Int), rs, ⟨rk, rkey, rx, rid⟩⟩, (sgAt0 m.sigs).by_, (sgAt0 m.sigs).text⟩ with timer := tmStart g.timer g.now } else g) := Go.Lib.hid (by rw [DO2.out, if_neg (by simpa using heq)])
  clear DO2
  have HWt := Go.Lib.hid (N5.out.r.wt id c HC9.out.1)
  have hst : w5.cell? ⟨b, 5 + c * 8 + 1, none⟩ = some (.int .i64 (g.waits c).req.stamp) := HWt.out 1 (.int .i64 (g.waits c).req.stamp) rfl
  have hc9i : (c : Int) < 9 := by have := HC9.out.1; omega
  have hc9 := HC9.out.1
  generalize (g.waits c).req.stamp = ws at *
  go_upto_region 6 with fail
  clear heq
  apply wp_region_rel (relR [Mo.is _, Mo.is _, Mo.is _, Mo.is _, Mo.is _, Mo.is _, Mo.is _, Mo.is _, Mo.is _, Mo.is _, Mo.is _, Mo.is _]) (by kernel_rfl) (by kernel_rfl) (by kernel_rfl) (relR_mono _) (StepD.all ?st17) ?q17
  case st17 =>
    refine ⟨?_, ?_, ?_, ?_, ?_, ?_, ?_, ?_, ?_, ?_, ?_, ?_, trivial⟩
    · intro a' w' hx hs hd
      obtain ⟨y, rfl⟩ := hx.ew
      have e0 : a'.tmps[0]?.getD undef = _ := hs 0 rfl
      simp only [List.getElem?_toArray, List.getElem?_cons_succ, List.getElem?_cons_zero, Option.getD_some, Array.getElem?_eq_some_iff] at e0
      refine .inl ⟨rfl, ?_⟩
      clear hs hd hx
      go_simp
      exact ⟨Ext.refl _ _, rfl⟩
    · intro a' w' hx hs hd
      obtain ⟨y, rfl⟩ := hx.ew
      have e6 : a'.tmps[6]?.getD undef = _ := hs 6 rfl
      simp only [List.getElem?_toArray, List.getElem?_cons_succ, List.getElem?_cons_zero, Option.getD_some, Array.getElem?_eq_some_iff] at e6
      refine .inl ⟨rfl, ?_⟩
      clear hs hd hx
      go_simp
      exact ⟨Ext.refl _ _, rfl⟩
    · intro a' w' hx hs hd
      obtain ⟨y, rfl⟩ := hx.ew
      have e63 : a'.tmps[63]?.getD undef = _ := hd 1 63 rfl rfl
      refine .inl ⟨rfl, ?_⟩
      clear hs hd hx
      go_simp
      exact ⟨Ext.refl _ _, rfl⟩
    · intro a' w' hx hs hd
      obtain ⟨y, rfl⟩ := hx.ew
      have e62 : a'.tmps[62]?.getD undef = _ := hd 0 62 rfl rfl
      refine .inl ⟨rfl, ?_⟩
      clear hs hd hx
      go_simp
      exact ⟨Ext.refl _ _, rfl⟩
    · intro a' w' hx hs hd
      obtain ⟨y, rfl⟩ := hx.ew
      have e65 : a'.tmps[65]?.getD undef = _ := hd 3 65 rfl rfl
      refine .inl ⟨rfl, ?_⟩
      clear hs hd hx
      go_simp
      exact ⟨Ext.refl _ _, rfl⟩
    · intro a' w' hx hs hd
      obtain ⟨y, rfl⟩ := hx.ew
      have e66 : a'.tmps[66]?.getD undef = _ := hd 4 66 rfl rfl
      have e64 : a'.tmps[64]?.getD undef = _ := hd 2 64 rfl rfl
      refine .inl ⟨rfl, ?_⟩
      clear hs hd hx
      go_simp
      exact ⟨Ext.refl _ _, rfl⟩
    · intro a' w' hx hs hd
      obtain ⟨y, rfl⟩ := hx.ew
      have e67 : a'.tmps[67]?.getD undef = _ := hd 5 67 rfl rfl
      refine .inl ⟨rfl, ?_⟩
      clear hs hd hx
      go_simp
      exact ⟨Ext.refl _ _, rfl⟩
    · intro a' w' hx hs hd
      obtain ⟨y, rfl⟩ := hx.ew
      have e68 : a'.tmps[68]?.getD undef = _ := hd 6 68 rfl rfl
      refine .inl ⟨rfl, ?_⟩
      clear hs hd hx
      go_simp
      exact ⟨Ext.refl _ _, rfl⟩
    · intro a' w' hx hs hd
      obtain ⟨y, rfl⟩ := hx.ew
      have e69 : a'.tmps[69]?.getD undef = _ := hd 7 69 rfl rfl
      refine .inl ⟨rfl, ?_⟩
      clear hs hd hx
      go_simp
      exact ⟨Ext.refl _ _, rfl⟩
    · intro a' w' hx hs hd
      obtain ⟨y, rfl⟩ := hx.ew
      have e6 : a'.tmps[6]?.getD undef = _ := hs 6 rfl
      simp only [List.getElem?_toArray, List.getElem?_cons_succ, List.getElem?_cons_zero, Option.getD_some, Array.getElem?_eq_some_iff] at e6
      refine .inl ⟨rfl, ?_⟩
      clear hs hd hx
      go_simp
      exact ⟨Ext.refl _ _, rfl⟩
    · intro a' w' hx hs hd
      obtain ⟨y, rfl⟩ := hx.ew
      have e71 : a'.tmps[71]?.getD undef = _ := hd 9 71 rfl rfl
      refine .inl ⟨rfl, ?_⟩
      clear hs hd hx
      go_simp
      exact ⟨Ext.refl _ _, rfl⟩
    · intro a' w' hx hs hd
      obtain ⟨y, rfl⟩ := hx.ew
      have e70 : a'.tmps[70]?.getD undef = _ := hd 8 70 rfl rfl
      have e72 : a'.tmps[72]?.getD undef = _ := hd 10 72 rfl rfl
      refine .inl ⟨rfl, ?_⟩
      clear hs hd hx
      go_simp
      exact ⟨Ext.refl _ _, rfl⟩
  case' q17 =>
    intro vs w' hx hRR
    obtain ⟨x6, rfl⟩ := hx.ew
    have q0 : vs 0 = _ := hRR 0 (by decide)
    have q1 : vs 1 = _ := hRR 1 (by decide)
    have q2 : vs 2 = _ := hRR 2 (by decide)
    have q3 : vs 3 = _ := hRR 3 (by decide)
    have q4 : vs 4 = _ := hRR 4 (by decide)
    have q5 : vs 5 = _ := hRR 5 (by decide)
    have q6 : vs 6 = _ := hRR 6 (by decide)
    have q7 : vs 7 = _ := hRR 7 (by decide)
    have q8 : vs 8 = _ := hRR 8 (by decide)
    have q9 : vs 9 = _ := hRR 9 (by decide)
    have q10 : vs 10 = _ := hRR 10 (by decide)
    have q11 : vs 11 = _ := hRR 11 (by decide)
    clear hRR hx
    simp only [putAll, List.take_succ_cons, List.take_zero, List.drop_succ_cons, List.drop_zero, Act.put, List.setIfInBounds_toArray, List.set_cons_zero, List.set_cons_succ, Nat.reduceAdd, Nat.zero_add]
    simp only [q0, q1, q2, q3, q4, q5, q6, q7, q8, q9, q10, q11]
    clear q0 q1 q2 q3 q4 q5 q6 q7 q8 q9 q10 q11 vs
  have X6 := Go.Lib.hid (by (repeat (first | with_reducible (first | exact Ext.refl _ _ | assumption | refine Ext.upN ?_ | refine Ext.alloc ?_ _ | refine Ext.drew ?_ | refine Ext.drewN ?_ _ | refine Ext.up1N (by first | omega | simp) ?_) | refine Ext.alloc ?_ _ | refine Ext.setCell ?_ (.inr (by first | omega | simp)) _)) : Ext Non w5 x6.on)
  have N6 := Go.Lib.hid (N5.out.extN X6.out); have B6 := Go.Lib.hid (B5.out.extN X6.out); have Q6 := Go.Lib.hid (Q5.out.extN X6.out); have S6 := Go.Lib.hid (S5.out.extN (hide_extN (col := col) X6.out))
  clear hst c0 c1 c2 c3 c4 c5 N5 B5 Q5 R5 S5 X6 HWt
  generalize x6.on = W6 at *
  by_cases hle : ws < rs
  rotate_left
  · have HE := Go.Lib.hid (DO3.out.trans (if_neg hle))
    go_wp2
    go_returns
    exact ⟨rfl, by rw [HE.out]; exact N6.out.post, by rw [HE.out]; exact RInv.answered HI.out⟩
  have HE := Go.Lib.hid (DO3.out.trans (if_pos hle))
  clear DO3
  have hl1 : m.sigs.length = 1 := by
    rcases Nat.decEq m.sigs.length 1 with q | q
    · have := HSg.out
      unfold signedB at this
      rw [sgs_len q, Bool.and_false] at this
      cases this
    · exact q
  obtain ⟨sb, so, hsa, hsb, z0, z1, i0, t0⟩ := S6.out.show.at_ 0 (by omega)
  have s0 : W6.cell? ⟨sb, so, none⟩ = some (.int .i64 (sgAt0 m.sigs).by_) := by simpa [sgAt0] using z0
  have s1 : W6.cell? ⟨sb, so + 1, none⟩ = some (.string (sgAt0 m.sigs).text) := by simpa [sgAt0] using z1
  have HSk : Hid (I64 (sgAt0 m.sigs).by_ ∧ (sgAt0 m.sigs).text.size ≤ 9223372036854775807) := Go.Lib.hid ⟨i0, t0⟩
  rw [hl1, hsa] at H14
  have d14 : W6.cell? ⟨kb, 14, none⟩ = some (.slice (some ⟨sb, so, none⟩) 1 M.sc) := B6.out.h.cell (j := 14) H14.out
  clear hl1 hsa i0 t0 z0 z1
  generalize (sgAt0 m.sigs).by_ = sgb at *
  generalize (sgAt0 m.sigs).text = sgt at *
  obtain ⟨c0, c1, c2, c3, c4, c5⟩ := Q6.out.h.six
  go_upto_region 7 with fail
  clear hle
  apply wp_region_rel_tail 12 (relR [Mo.is _, Mo.is _, Mo.is _, Mo.is _, Mo.is _, Mo.is _, Mo.is _, Mo.is _, Mo.is _, Mo.is _, Mo.is _, Mo.is _]) (by kernel_rfl) (by kernel_rfl) (by kernel_rfl) (by kernel_rfl) (by kernel_rfl) (by decide) (by kernel_rfl) (relR_mono _) (StepD.all ?st18) ?q18
  case st18 =>
    refine ⟨?_, ?_, ?_, ?_, ?_, ?_, ?_, ?_, ?_, ?_, ?_, ?_, trivial⟩
    · intro a' w' hx hs hd
      obtain ⟨y, rfl⟩ := hx.ew
      have e0 : a'.tmps[0]?.getD undef = _ := hs 0 rfl
      simp only [List.getElem?_toArray, List.getElem?_cons_succ, List.getElem?_cons_zero, Option.getD_some, Array.getElem?_eq_some_iff] at e0
      refine .inl ⟨rfl, ?_⟩
      clear hs hd hx
      go_simp
      exact ⟨Ext.refl _ _, rfl⟩
    · intro a' w' hx hs hd
      obtain ⟨y, rfl⟩ := hx.ew
      have e6 : a'.tmps[6]?.getD undef = _ := hs 6 rfl
      simp only [List.getElem?_toArray, List.getElem?_cons_succ, List.getElem?_cons_zero, Option.getD_some, Array.getElem?_eq_some_iff] at e6
      refine .inl ⟨rfl, ?_⟩
      clear hs hd hx
      go_simp
      exact ⟨Ext.refl _ _, rfl⟩
    · intro a' w' hx hs hd
      obtain ⟨y, rfl⟩ := hx.ew
      have e75 : a'.tmps[75]?.getD undef = _ := hd 1 75 rfl rfl
      refine .inl ⟨rfl, ?_⟩
      clear hs hd hx
      go_simp
      exact ⟨Ext.refl _ _, rfl⟩
    · intro a' w' hx hs hd
      obtain ⟨y, rfl⟩ := hx.ew
      have e6 : a'.tmps[6]?.getD undef = _ := hs 6 rfl
      simp only [List.getElem?_toArray, List.getElem?_cons_succ, List.getElem?_cons_zero, Option.getD_some, Array.getElem?_eq_some_iff] at e6
      refine .inl ⟨rfl, ?_⟩
      clear hs hd hx
      go_simp
      exact ⟨Ext.refl _ _, rfl⟩
    · intro a' w' hx hs hd
      obtain ⟨y, rfl⟩ := hx.ew
      have e5 : a'.tmps[5]?.getD undef = _ := hs 5 rfl
      simp only [List.getElem?_toArray, List.getElem?_cons_succ, List.getElem?_cons_zero, Option.getD_some, Array.getElem?_eq_some_iff] at e5
      refine .inl ⟨rfl, ?_⟩
      clear hs hd hx
      go_simp
      exact ⟨Ext.refl _ _, rfl⟩
    · intro a' w' hx hs hd
      obtain ⟨y, rfl⟩ := hx.ew
      have e78 : a'.tmps[78]?.getD undef = _ := hd 4 78 rfl rfl
      refine .inl ⟨rfl, ?_⟩
      clear hs hd hx
      go_simp
      exact ⟨Ext.refl _ _, rfl⟩
    · intro a' w' hx hs hd
      obtain ⟨y, rfl⟩ := hx.ew
      have e79 : a'.tmps[79]?.getD undef = _ := hd 5 79 rfl rfl
      refine .inl ⟨rfl, ?_⟩
      clear hs hd hx
      go_simp
      exact ⟨Ext.refl _ _, rfl⟩
    · intro a' w' hx hs hd
      obtain ⟨y, rfl⟩ := hx.ew
      have e80 : a'.tmps[80]?.getD undef = _ := hd 6 80 rfl rfl
      refine .inl ⟨rfl, ?_⟩
      clear hs hd hx
      go_simp
      exact ⟨Ext.refl _ _, rfl⟩
    · intro a' w' hx hs hd
      obtain ⟨y, rfl⟩ := hx.ew
      have e77 : a'.tmps[77]?.getD undef = _ := hd 3 77 rfl rfl
      have e81 : a'.tmps[81]?.getD undef = _ := hd 7 81 rfl rfl
      refine .inl ⟨rfl, ?_⟩
      clear hs hd hx
      go_simp
      exact ⟨Ext.refl _ _, rfl⟩
    · intro a' w' hx hs hd
      obtain ⟨y, rfl⟩ := hx.ew
      have e74 : a'.tmps[74]?.getD undef = _ := hd 0 74 rfl rfl
      refine .inl ⟨rfl, ?_⟩
      clear hs hd hx
      go_simp
      exact ⟨Ext.refl _ _, rfl⟩
    · intro a' w' hx hs hd
      obtain ⟨y, rfl⟩ := hx.ew
      have e83 : a'.tmps[83]?.getD undef = _ := hd 9 83 rfl rfl
      refine .inl ⟨rfl, ?_⟩
      clear hs hd hx
      go_simp
      exact ⟨Ext.refl _ _, rfl⟩
    · intro a' w' hx hs hd
      obtain ⟨y, rfl⟩ := hx.ew
      have e84 : a'.tmps[84]?.getD undef = _ := hd 10 84 rfl rfl
      have e76 : a'.tmps[76]?.getD undef = _ := hd 2 76 rfl rfl
      refine .inl ⟨rfl, ?_⟩
      clear hs hd hx
      go_simp
      exact ⟨Ext.refl _ _, rfl⟩
  case' q18 =>
    intro vs w' hx hRR
    obtain ⟨x7, rfl⟩ := hx.ew
    have q0 : vs 0 = _ := hRR 0 (by decide)
    have q1 : vs 1 = _ := hRR 1 (by decide)
    have q2 : vs 2 = _ := hRR 2 (by decide)
    have q3 : vs 3 = _ := hRR 3 (by decide)
    have q4 : vs 4 = _ := hRR 4 (by decide)
    have q5 : vs 5 = _ := hRR 5 (by decide)
    have q6 : vs 6 = _ := hRR 6 (by decide)
    have q7 : vs 7 = _ := hRR 7 (by decide)
    have q8 : vs 8 = _ := hRR 8 (by decide)
    have q9 : vs 9 = _ := hRR 9 (by decide)
    have q10 : vs 10 = _ := hRR 10 (by decide)
    have q11 : vs 11 = _ := hRR 11 (by decide)
    clear hRR hx
    simp only [putAll, List.take_succ_cons, List.take_zero, List.drop_succ_cons, List.drop_zero, Act.put, List.setIfInBounds_toArray, List.set_cons_zero, List.set_cons_succ, Nat.reduceAdd, Nat.zero_add]
    simp only [q0, q1, q2, q3, q4, q5, q6, q7, q8, q9, q10, q11]
    clear q0 q1 q2 q3 q4 q5 q6 q7 q8 q9 q10 q11 vs
  have N7 := Go.Lib.hid (N6.out.extN (by (repeat (first | with_reducible (first | exact Ext.refl _ _ | assumption | refine Ext.upN ?_ | refine Ext.alloc ?_ _ | refine Ext.drew ?_ | refine Ext.drewN ?_ _ | refine Ext.up1N (by first | omega | simp) ?_) | refine Ext.alloc ?_ _ | refine Ext.setCell ?_ (.inr (by first | omega | simp)) _)) : Ext Non W6 x7.on))
  clear c0 c1 c2 c3 c4 c5 d14 s0 s1 hsb N6 B6 Q6 S6
  generalize x7.on = W7 at *
  have HBr := Go.Lib.hid (N7.out.r.row id)
  go_wp2_with (refine wpList_store_in rfl 103 _ _ rfl b (5 + c * 8) (wtCells ⟨⟨(c : Int), rs, ⟨rk, rkey, rx, rid⟩⟩, sgb, sgt⟩) _ _ rfl rfl HBr.out (by rw [rowRp_len]; show 5 + c * 8 + 8 ≤ 88; omega) (by kernel_rfl) (by unfold wtCells; simp [Value.oneCell']) (fun W hB => ?_); have HBw := Go.Lib.hid hB; clear hB)
  obtain ⟨r8, x8, t8⟩ := N7.out.r.setWt id c hc9 ⟨⟨(c : Int), rs, ⟨rk, rkey, rx, rid⟩⟩, sgb, sgt⟩ W.ext HBw.out
  have N8 := Go.Lib.hid (N7.out.same r8 rfl rfl (ColX.refl _ _) ⟨x8, t8⟩)
  clear r8 x8 t8 HBw HBr N7
  generalize W.on = W8 at *
  obtain ⟨e2, e3⟩ : _ ∧ _ := ⟨N8.out.r.rtm id, N8.out.r.rnow id⟩
  dsimp only [putWait] at e3
  go_upto_region 8 with fail
  apply wp_region_rel_tail 8 (relR [Mo.is _, Mo.is _, Mo.is _, Mo.is _, Mo.is _, Mo.is _, Mo.is _, Mo.is _]) (by kernel_rfl) (by kernel_rfl) (by kernel_rfl) (by kernel_rfl) (by kernel_rfl) (by decide) (by kernel_rfl) (relR_mono _) (StepD.all ?st19) ?q19
  case st19 =>
    refine ⟨?_, ?_, ?_, ?_, ?_, ?_, ?_, ?_, trivial⟩
    · intro a' w' hx hs hd
      obtain ⟨y, rfl⟩ := hx.ew
      have e0 : a'.tmps[0]?.getD undef = _ := hs 0 rfl
      simp only [List.getElem?_toArray, List.getElem?_cons_succ, List.getElem?_cons_zero, Option.getD_some, Array.getElem?_eq_some_iff] at e0
      refine .inl ⟨rfl, ?_⟩
      clear hs hd hx
      go_simp
      exact ⟨Ext.refl _ _, rfl⟩
    · intro a' w' hx hs hd
      obtain ⟨y, rfl⟩ := hx.ew
      have e86 : a'.tmps[86]?.getD undef = _ := hd 0 86 rfl rfl
      refine .inl ⟨rfl, ?_⟩
      clear hs hd hx
      go_simp
      exact ⟨Ext.refl _ _, rfl⟩
    · intro a' w' hx hs hd
      obtain ⟨y, rfl⟩ := hx.ew
      have e87 : a'.tmps[87]?.getD undef = _ := hd 1 87 rfl rfl
      refine .inl ⟨rfl, ?_⟩
      clear hs hd hx
      go_simp
      exact ⟨Ext.refl _ _, rfl⟩
    · intro a' w' hx hs hd
      obtain ⟨y, rfl⟩ := hx.ew
      have e88 : a'.tmps[88]?.getD undef = _ := hd 2 88 rfl rfl
      refine .inl ⟨rfl, ?_⟩
      clear hs hd hx
      go_simp
      exact ⟨Ext.refl _ _, rfl⟩
    · intro a' w' hx hs hd
      obtain ⟨y, rfl⟩ := hx.ew
      have e0 : a'.tmps[0]?.getD undef = _ := hs 0 rfl
      simp only [List.getElem?_toArray, List.getElem?_cons_succ, List.getElem?_cons_zero, Option.getD_some, Array.getElem?_eq_some_iff] at e0
      refine .inl ⟨rfl, ?_⟩
      clear hs hd hx
      go_simp
      exact ⟨Ext.refl _ _, rfl⟩
    · intro a' w' hx hs hd
      obtain ⟨y, rfl⟩ := hx.ew
      have e90 : a'.tmps[90]?.getD undef = _ := hd 4 90 rfl rfl
      refine .inl ⟨rfl, ?_⟩
      clear hs hd hx
      go_simp
      exact ⟨Ext.refl _ _, rfl⟩
    · intro a' w' hx hs hd
      obtain ⟨y, rfl⟩ := hx.ew
      have e91 : a'.tmps[91]?.getD undef = _ := hd 5 91 rfl rfl
      refine .inl ⟨rfl, ?_⟩
      clear hs hd hx
      go_simp
      exact ⟨Ext.refl _ _, rfl⟩
    · intro a' w' hx hs hd
      obtain ⟨y, rfl⟩ := hx.ew
      have e92 : a'.tmps[92]?.getD undef = _ := hd 6 92 rfl rfl
      refine .inl ⟨rfl, ?_⟩
      clear hs hd hx
      go_simp
      exact ⟨Ext.refl _ _, rfl⟩
  case' q19 =>
    intro vs w' hx hRR
    obtain ⟨x9, rfl⟩ := hx.ew
    have q0 : vs 0 = _ := hRR 0 (by decide)
    have q1 : vs 1 = _ := hRR 1 (by decide)
    have q2 : vs 2 = _ := hRR 2 (by decide)
    have q3 : vs 3 = _ := hRR 3 (by decide)
    have q4 : vs 4 = _ := hRR 4 (by decide)
    have q5 : vs 5 = _ := hRR 5 (by decide)
    have q6 : vs 6 = _ := hRR 6 (by decide)
    have q7 : vs 7 = _ := hRR 7 (by decide)
    clear hRR hx
    simp only [putAll, List.take_succ_cons, List.take_zero, List.drop_succ_cons, List.drop_zero, Act.put, List.setIfInBounds_toArray, List.set_cons_zero, List.set_cons_succ, Nat.reduceAdd, Nat.zero_add]
    simp only [q0, q1, q2, q3, q4, q5, q6, q7]
    clear q0 q1 q2 q3 q4 q5 q6 q7 vs
  have N9 := Go.Lib.hid (N8.out.extN (by (repeat (first | with_reducible (first | exact Ext.refl _ _ | assumption | refine Ext.upN ?_ | refine Ext.alloc ?_ _ | refine Ext.drew ?_ | refine Ext.drewN ?_ _ | refine Ext.up1N (by first | omega | simp) ?_) | refine Ext.alloc ?_ _ | refine Ext.setCell ?_ (.inr (by first | omega | simp)) _)) : Ext Non W8 x9.on))
  clear e2 e3 N8
  generalize x9.on = W9 at *
  go_wp2_with fail
  refine (pat_Start A.tm _ _ _ g.now _ (N9.out.r.tmr id) HI.out.b.tm).mono ?_
  rintro e w10 ⟨rfl, x10, t10⟩
  have r10 := N9.out.r.setTm x10 (fun k q => q) (tmStart g.timer g.now) t10
  have N10 := Go.Lib.hid (N9.out.same r10 rfl rfl (ColX.refl _ _) ⟨x10.mono (fun k hk q => by have q : k = A.tm := q; show col k ≠ 0; rw [q, N9.out.r.c8]; decide), .of x10 (fun k q => by have q : k = A.tm := q; rw [q, N9.out.r.c8]; decide)⟩)
  clear x10 t10 r10 N9
  go_wp2_with fail
  refine (HT.out w10 b col A N10.out.r ((HI.out.wait c (v := ⟨⟨(c : Int), rs, ⟨rk, rkey, rx, rid⟩⟩, sgb, sgt⟩) ⟨⟨HRq.out, HSk.out.1, HSk.out.2⟩, HC9.out.2⟩).timer (t := tmStart g.timer g.now) HI.out.b.tm)).mono ?_
  rintro e w11 ⟨rfl, p, ip, -⟩
  have HIp := Go.Lib.hid ip; clear ip
  obtain ⟨col11, A11, N11', -, -, -⟩ := N10.out.step p
  have N11 := Go.Lib.hid N11'.post
  clear p N11'
  go_wp2
  go_returns
  exact ⟨rfl, by rw [HE.out]; exact N11.out, by rw [HE.out]; exact RInv.answered HIp.out⟩
end
end Go.Proofs.YtflpkoafebjfdaaGreat
