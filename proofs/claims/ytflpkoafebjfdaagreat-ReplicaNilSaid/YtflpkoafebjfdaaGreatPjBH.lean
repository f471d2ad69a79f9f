/- Joined texts: Rep18. What each proves stands at its head; no conditions beside those in its theorems. -/
import Derived.Laws.CopyOwn
import Derived.Deep.OwnRows
import Derived.Deep.RegionLaw
import Derived.Test.YtflpkoafebjfdaaGreatProg
import Derived.Shelf.SlIter.Nil
import Derived.Shelf.SortM.Plain
import Derived.Shelf.SortM.SortNone
import Derived.Ground.GgzProg
import Derived.Ground.SlgmProg
import Derived.Test.YtflpkoafebjfdaaGreatPjBF
/- Contracts of layer 18 (replica): signed. -/
namespace Go.Proofs.YtflpkoafebjfdaaGreat
open Go.RowKit Go.Lib F64
set_option linter.unusedSimpArgs false
set_option linter.unusedVariables false
attribute [local go_sem] run_store_float
attribute [local go_sem low] EW.cellN EW.frozN alloc_cell_or alloc_froz_or
attribute [local go_sem] relAt relUpon
theorem client_of {q : Req} (h : reqE q = 0) : 0 ≤ q.client ∧ q.client ≤ 8 := by
  unfold reqE at h
  split at h
  · rename_i hn
    unfold nullB at hn
    simp only [Bool.and_eq_true, decide_eq_true_eq] at hn
    omega
  · split at h
    · rename_i hr
      unfold rightB withinB at hr
      simp only [Bool.and_eq_true, decide_eq_true_eq] at hr
      omega
    · cases h
theorem sgs_len {l : List Sg} {x : Sg} (h : l.length ≠ 1) : sameSgs l [x] = false := by
  match l, h with
  | [], _ => rfl
  | [_], h => exact (h rfl).elim
  | a :: b :: t, _ => show (sameSg a x && sameSgs (b :: t) []) = false; rw [show sameSgs (b :: t) [] = false from rfl, Bool.and_false]
theorem sgs_one {l : List Sg} {x : Sg} (h : l.length = 1) : sameSgs l [x] = sameSg (sgAt l 0) x := by
  match l, h with
  | [a], _ => show (sameSg a x && true) = _; rw [Bool.and_true]; rfl
set_option maxHeartbeats 1000000 in
set_option maxRecDepth 100000 in
theorem rep_signed (c s k : Int) (key : ByteArray) (x : Nat) (id' : Int) (hq : ReqOk ⟨c, s, ⟨k, key, x, id'⟩⟩) (a : Option Addr) (cap : Nat) (l : List Sg) (w : World) (h : Sigs w a cap l) : Calls Tryz.prog 193 #[.agg #[.int .i64 c, .int .i64 s, .int .i64 k, .string key, .float .f64 x, .int .i64 id'], .slice a l.length cap] w fun e w' =>
    e = .returned (.bool (signedB ⟨c, s, ⟨k, key, x, id'⟩⟩ l)) ∧ Ext Non w w' := by
  have HT := Go.Lib.hid (deeds_Text c s k key x id' hq.c hq.s hq.k hq.id hq.x hq.key)
  have DS : Hid (signedB ⟨c, s, ⟨k, key, x, id'⟩⟩ l = (decide (reqE ⟨c, s, ⟨k, key, x, id'⟩⟩ = 0) && sameSgs l [⟨100 + c, reqS ⟨c, s, ⟨k, key, x, id'⟩⟩⟩])) := Go.Lib.hid rfl
  have HC := Go.Lib.hid (fun h => client_of (q := ⟨c, s, ⟨k, key, x, id'⟩⟩) h)
  dsimp only at HC
  have X1 := Go.Lib.hid ((Ext.refl Non w).alloc (.cells #[.int .i64 c, .int .i64 s, .int .i64 k, .string key, .float .f64 x, .int .i64 id'] 37))
  obtain ⟨kq, hkq⟩ : ∃ kq, kq = w.heap.size := ⟨_, rfl⟩
  have B1 := Go.Lib.hid (Bx.newAt w [.int .i64 c, .int .i64 s, .int .i64 k, .string key, .float .f64 x, .int .i64 id'] 37 kq hkq)
  have S1 := Go.Lib.hid (h.extN X1.out)
  clear h hq
  generalize reqE ⟨c, s, ⟨k, key, x, id'⟩⟩ = re at *
  generalize reqS ⟨c, s, ⟨k, key, x, id'⟩⟩ = rt at *
  go_enter Tryz.func193, Tryz.ntmps193
  go_upto_region 1 with fail
  rw [← hkq]
  clear hkq
  generalize World.alloc _ _ = w1 at *
  obtain ⟨q0, q1, q2, q3, q4, q5⟩ := B1.out.six
  go_wp2_with fail
  refine (HT.out w1).mono ?_
  rintro e w2 ⟨rfl, x2⟩
  have B2 := Go.Lib.hid (B1.out.extN x2); have S2 := Go.Lib.hid (S1.out.extN x2); have X2 := Go.Lib.hid (X1.out.trans x2)
  clear q0 q1 q2 q3 q4 q5 x2 B1 S1 X1
  have q0 : w2.cell? ⟨kq, 0, none⟩ = some (.int .i64 c) := B2.out.cell (j := 0) rfl
  go_upto_region 2 with fail
  cases he : (re == 0)
  · skip
    apply wp_region_rel (relR [Mo.is _, Mo.is _, Mo.is _, Mo.is _, Mo.is _, Mo.is _, Mo.is _, Mo.is _, Mo.is _, Mo.is _, Mo.is _, Mo.is _, Mo.is _, Mo.is _, Mo.is _, Mo.is _, Mo.is _, Mo.is _, Mo.is _]) (by kernel_rfl) (by kernel_rfl) (by kernel_rfl) (relR_mono _) (StepD.all ?st3) ?q3
    case st3 =>
      refine ⟨?_, ?_, ?_, ?_, ?_, ?_, ?_, ?_, ?_, ?_, ?_, ?_, ?_, ?_, ?_, ?_, ?_, ?_, ?_, trivial⟩
      · intro a' w' hx hs hd
        obtain ⟨y, rfl⟩ := hx.ew
        have e6 : a'.tmps[6]?.getD undef = _ := hs 6 rfl
        simp only [List.getElem?_toArray, List.getElem?_cons_succ, List.getElem?_cons_zero, Option.getD_some, Array.getElem?_eq_some_iff] at e6
        refine .inl ⟨rfl, ?_⟩
        clear hs hd hx
        go_simp
        exact ⟨Ext.refl _ _, rfl⟩
      · intro a' w' hx hs hd
        obtain ⟨y, rfl⟩ := hx.ew
        have e12 : a'.tmps[12]?.getD undef = _ := hd 0 12 rfl rfl
        refine .inl ⟨rfl, ?_⟩
        clear hs hd hx
        go_simp
        exact ⟨Ext.refl _ _, rfl⟩
      · intro a' w' hx hs hd
        obtain ⟨y, rfl⟩ := hx.ew
        have e13 : a'.tmps[13]?.getD undef = _ := hd 1 13 rfl rfl
        refine .inl ⟨rfl, ?_⟩
        clear hs hd hx
        go_simp
        exact ⟨Ext.refl _ _, rfl⟩
      · intro a' w' hx hs hd
        obtain ⟨y, rfl⟩ := hx.ew
        have eg : a'.tmps[14]?.getD undef = _ := hd 2 14 rfl rfl
        first
        | (refine .inr ⟨unwanted_of (j := 2) (d := 14) rfl rfl eg (by rfl), ?_⟩; exact (rfl : (Mo.is undef).p undef y.on))
        | (refine .inr ⟨unwanted_und (j := 2) (d := 14) rfl rfl eg, ?_⟩; exact (rfl : (Mo.is undef).p undef y.on))
        | (have e1 : a'.tmps[1]?.getD undef = _ := hs 1 rfl; simp only [List.getElem?_toArray, List.getElem?_cons_succ, List.getElem?_cons_zero, Option.getD_some, Array.getElem?_eq_some_iff] at e1; refine .inl ⟨wanted_of (j := 2) (d := 14) rfl rfl eg, ?_⟩; clear hs hd hx eg; go_simp; exact ⟨Ext.refl _ _, rfl⟩)
      · intro a' w' hx hs hd
        obtain ⟨y, rfl⟩ := hx.ew
        have eg : a'.tmps[14]?.getD undef = _ := hd 2 14 rfl rfl
        first
        | (refine .inr ⟨unwanted_of (j := 2) (d := 14) rfl rfl eg (by rfl), ?_⟩; exact (rfl : (Mo.is undef).p undef y.on))
        | (refine .inr ⟨unwanted_und (j := 2) (d := 14) rfl rfl eg, ?_⟩; exact (rfl : (Mo.is undef).p undef y.on))
        | (have e15 : a'.tmps[15]?.getD undef = _ := hd 3 15 rfl rfl; refine .inl ⟨wanted_of (j := 2) (d := 14) rfl rfl eg, ?_⟩; clear hs hd hx eg; go_simp; exact ⟨Ext.refl _ _, rfl⟩)
      · intro a' w' hx hs hd
        obtain ⟨y, rfl⟩ := hx.ew
        have eg : a'.tmps[14]?.getD undef = _ := hd 2 14 rfl rfl
        first
        | (refine .inr ⟨unwanted_of (j := 2) (d := 14) rfl rfl eg (by rfl), ?_⟩; exact (rfl : (Mo.is undef).p undef y.on))
        | (refine .inr ⟨unwanted_und (j := 2) (d := 14) rfl rfl eg, ?_⟩; exact (rfl : (Mo.is undef).p undef y.on))
        | (have e16 : a'.tmps[16]?.getD undef = _ := hd 4 16 rfl rfl; refine .inl ⟨wanted_of (j := 2) (d := 14) rfl rfl eg, ?_⟩; clear hs hd hx eg; go_simp; exact ⟨Ext.refl _ _, rfl⟩)
      · intro a' w' hx hs hd
        obtain ⟨y, rfl⟩ := hx.ew
        have e14 : a'.tmps[14]?.getD undef = _ := hd 2 14 rfl rfl
        have e17 : a'.tmps[17]?.getD undef = _ := hd 5 17 rfl rfl
        refine .inl ⟨rfl, ?_⟩
        clear hs hd hx
        go_simp
        exact ⟨Ext.refl _ _, rfl⟩
      · intro a' w' hx hs hd
        obtain ⟨y, rfl⟩ := hx.ew
        have e18 : a'.tmps[18]?.getD undef = _ := hd 6 18 rfl rfl
        refine .inl ⟨rfl, ?_⟩
        clear hs hd hx
        go_simp
        exact ⟨Ext.refl _ _, rfl⟩
      · intro a' w' hx hs hd
        obtain ⟨y, rfl⟩ := hx.ew
        have eg : a'.tmps[19]?.getD undef = _ := hd 7 19 rfl rfl
        first
        | (refine .inr ⟨unwanted_of (j := 7) (d := 19) rfl rfl eg (by rfl), ?_⟩; exact (rfl : (Mo.is undef).p undef y.on))
        | (refine .inr ⟨unwanted_und (j := 7) (d := 19) rfl rfl eg, ?_⟩; exact (rfl : (Mo.is undef).p undef y.on))
        | (have e1 : a'.tmps[1]?.getD undef = _ := hs 1 rfl; simp only [List.getElem?_toArray, List.getElem?_cons_succ, List.getElem?_cons_zero, Option.getD_some, Array.getElem?_eq_some_iff] at e1; refine .inl ⟨wanted_of (j := 7) (d := 19) rfl rfl eg, ?_⟩; clear hs hd hx eg; go_simp; exact ⟨Ext.refl _ _, rfl⟩)
      · intro a' w' hx hs hd
        obtain ⟨y, rfl⟩ := hx.ew
        have eg : a'.tmps[19]?.getD undef = _ := hd 7 19 rfl rfl
        first
        | (refine .inr ⟨unwanted_of (j := 7) (d := 19) rfl rfl eg (by rfl), ?_⟩; exact (rfl : (Mo.is undef).p undef y.on))
        | (refine .inr ⟨unwanted_und (j := 7) (d := 19) rfl rfl eg, ?_⟩; exact (rfl : (Mo.is undef).p undef y.on))
        | (have e20 : a'.tmps[20]?.getD undef = _ := hd 8 20 rfl rfl; refine .inl ⟨wanted_of (j := 7) (d := 19) rfl rfl eg, ?_⟩; clear hs hd hx eg; go_simp; exact ⟨Ext.refl _ _, rfl⟩)
      · intro a' w' hx hs hd
        obtain ⟨y, rfl⟩ := hx.ew
        have eg : a'.tmps[19]?.getD undef = _ := hd 7 19 rfl rfl
        first
        | (refine .inr ⟨unwanted_of (j := 7) (d := 19) rfl rfl eg (by rfl), ?_⟩; exact (rfl : (Mo.is undef).p undef y.on))
        | (refine .inr ⟨unwanted_und (j := 7) (d := 19) rfl rfl eg, ?_⟩; exact (rfl : (Mo.is undef).p undef y.on))
        | (have e21 : a'.tmps[21]?.getD undef = _ := hd 9 21 rfl rfl; refine .inl ⟨wanted_of (j := 7) (d := 19) rfl rfl eg, ?_⟩; clear hs hd hx eg; go_simp; exact ⟨Ext.refl _ _, rfl⟩)
      · intro a' w' hx hs hd
        obtain ⟨y, rfl⟩ := hx.ew
        have eg : a'.tmps[19]?.getD undef = _ := hd 7 19 rfl rfl
        first
        | (refine .inr ⟨unwanted_of (j := 7) (d := 19) rfl rfl eg (by rfl), ?_⟩; exact (rfl : (Mo.is undef).p undef y.on))
        | (refine .inr ⟨unwanted_und (j := 7) (d := 19) rfl rfl eg, ?_⟩; exact (rfl : (Mo.is undef).p undef y.on))
        | (have e2 : a'.tmps[2]?.getD undef = _ := hs 2 rfl; simp only [List.getElem?_toArray, List.getElem?_cons_succ, List.getElem?_cons_zero, Option.getD_some, Array.getElem?_eq_some_iff] at e2; refine .inl ⟨wanted_of (j := 7) (d := 19) rfl rfl eg, ?_⟩; clear hs hd hx eg; go_simp; exact ⟨Ext.refl _ _, rfl⟩)
      · intro a' w' hx hs hd
        obtain ⟨y, rfl⟩ := hx.ew
        have eg : a'.tmps[19]?.getD undef = _ := hd 7 19 rfl rfl
        first
        | (refine .inr ⟨unwanted_of (j := 7) (d := 19) rfl rfl eg (by rfl), ?_⟩; exact (rfl : (Mo.is undef).p undef y.on))
        | (refine .inr ⟨unwanted_und (j := 7) (d := 19) rfl rfl eg, ?_⟩; exact (rfl : (Mo.is undef).p undef y.on))
        | (have e23 : a'.tmps[23]?.getD undef = _ := hd 11 23 rfl rfl; refine .inl ⟨wanted_of (j := 7) (d := 19) rfl rfl eg, ?_⟩; clear hs hd hx eg; go_simp; exact ⟨Ext.refl _ _, rfl⟩)
      · intro a' w' hx hs hd
        obtain ⟨y, rfl⟩ := hx.ew
        have eg : a'.tmps[19]?.getD undef = _ := hd 7 19 rfl rfl
        first
        | (refine .inr ⟨unwanted_of (j := 7) (d := 19) rfl rfl eg (by rfl), ?_⟩; exact (rfl : (Mo.is undef).p undef y.on))
        | (refine .inr ⟨unwanted_und (j := 7) (d := 19) rfl rfl eg, ?_⟩; exact (rfl : (Mo.is undef).p undef y.on))
        | (have e24 : a'.tmps[24]?.getD undef = _ := hd 12 24 rfl rfl; refine .inl ⟨wanted_of (j := 7) (d := 19) rfl rfl eg, ?_⟩; clear hs hd hx eg; go_simp; exact ⟨Ext.refl _ _, rfl⟩)
      · intro a' w' hx hs hd
        obtain ⟨y, rfl⟩ := hx.ew
        have eg : a'.tmps[19]?.getD undef = _ := hd 7 19 rfl rfl
        first
        | (refine .inr ⟨unwanted_of (j := 7) (d := 19) rfl rfl eg (by rfl), ?_⟩; exact (rfl : (Mo.is undef).p undef y.on))
        | (refine .inr ⟨unwanted_und (j := 7) (d := 19) rfl rfl eg, ?_⟩; exact (rfl : (Mo.is undef).p undef y.on))
        | (have e5 : a'.tmps[5]?.getD undef = _ := hs 5 rfl; simp only [List.getElem?_toArray, List.getElem?_cons_succ, List.getElem?_cons_zero, Option.getD_some, Array.getElem?_eq_some_iff] at e5; refine .inl ⟨wanted_of (j := 7) (d := 19) rfl rfl eg, ?_⟩; clear hs hd hx eg; go_simp; exact ⟨Ext.refl _ _, rfl⟩)
      · intro a' w' hx hs hd
        obtain ⟨y, rfl⟩ := hx.ew
        have eg : a'.tmps[19]?.getD undef = _ := hd 7 19 rfl rfl
        first
        | (refine .inr ⟨unwanted_of (j := 7) (d := 19) rfl rfl eg (by rfl), ?_⟩; exact (rfl : (Mo.is undef).p undef y.on))
        | (refine .inr ⟨unwanted_und (j := 7) (d := 19) rfl rfl eg, ?_⟩; exact (rfl : (Mo.is undef).p undef y.on))
        | (have e25 : a'.tmps[25]?.getD undef = _ := hd 13 25 rfl rfl; have e26 : a'.tmps[26]?.getD undef = _ := hd 14 26 rfl rfl; refine .inl ⟨wanted_of (j := 7) (d := 19) rfl rfl eg, ?_⟩; clear hs hd hx eg; go_simp; exact ⟨Ext.refl _ _, rfl⟩)
      · intro a' w' hx hs hd
        obtain ⟨y, rfl⟩ := hx.ew
        have eg : a'.tmps[19]?.getD undef = _ := hd 7 19 rfl rfl
        first
        | (refine .inr ⟨unwanted_of (j := 7) (d := 19) rfl rfl eg (by rfl), ?_⟩; exact (rfl : (Mo.is undef).p undef y.on))
        | (refine .inr ⟨unwanted_und (j := 7) (d := 19) rfl rfl eg, ?_⟩; exact (rfl : (Mo.is undef).p undef y.on))
        | (have e22 : a'.tmps[22]?.getD undef = _ := hd 10 22 rfl rfl; have e27 : a'.tmps[27]?.getD undef = _ := hd 15 27 rfl rfl; refine .inl ⟨wanted_of (j := 7) (d := 19) rfl rfl eg, ?_⟩; clear hs hd hx eg; go_simp; exact ⟨Ext.refl _ _, rfl⟩)
      · intro a' w' hx hs hd
        obtain ⟨y, rfl⟩ := hx.ew
        have e19 : a'.tmps[19]?.getD undef = _ := hd 7 19 rfl rfl
        have e28 : a'.tmps[28]?.getD undef = _ := hd 16 28 rfl rfl
        refine .inl ⟨rfl, ?_⟩
        clear hs hd hx
        go_simp
        exact ⟨Ext.refl _ _, rfl⟩
      · intro a' w' hx hs hd
        obtain ⟨y, rfl⟩ := hx.ew
        have e29 : a'.tmps[29]?.getD undef = _ := hd 17 29 rfl rfl
        refine .inl ⟨rfl, ?_⟩
        clear hs hd hx
        go_simp
        exact ⟨Ext.refl _ _, rfl⟩
    case' q3 =>
      intro vs w' hx hRR
      obtain ⟨x3, rfl⟩ := hx.ew
      have q0 : vs 0 = _ := hRR 0 (by decide)
      have q1 : vs 1 = _ := hRR 1 (by decide)
      have q2 : vs 2 = _ := hRR 2 (by decide)
      have q3 : vs 3 = _ := hRR 3 (by decide)
      have q4 : vs 4 = _ := hRR 4 (by decide)
      have q5 : vs 5 = _ := hRR 5 (by decide)
      have q6 : vs 6 = _ := hRR 6 (by decide)
      have q7 : vs 7 = _ := hRR 7 (by decide)
      have q8 : vs 8 = _ := hRR 8 (by decide)
      have q9 : vs 9 = _ := hRR 9 (by decide)
      have q10 : vs 10 = _ := hRR 10 (by decide)
      have q11 : vs 11 = _ := hRR 11 (by decide)
      have q12 : vs 12 = _ := hRR 12 (by decide)
      have q13 : vs 13 = _ := hRR 13 (by decide)
      have q14 : vs 14 = _ := hRR 14 (by decide)
      have q15 : vs 15 = _ := hRR 15 (by decide)
      have q16 : vs 16 = _ := hRR 16 (by decide)
      have q17 : vs 17 = _ := hRR 17 (by decide)
      have q18 : vs 18 = _ := hRR 18 (by decide)
      clear hRR hx
      simp only [putAll, List.take_succ_cons, List.take_zero, List.drop_succ_cons, List.drop_zero, Act.put, List.setIfInBounds_toArray, List.set_cons_zero, List.set_cons_succ, Nat.reduceAdd, Nat.zero_add]
      simp only [q0, q1, q2, q3, q4, q5, q6, q7, q8, q9, q10, q11, q12, q13, q14, q15, q16, q17, q18]
      clear q0 q1 q2 q3 q4 q5 q6 q7 q8 q9 q10 q11 q12 q13 q14 q15 q16 q17 q18 vs
    go_wp2
    go_returns
    exact ⟨ret_bool (by rw [DS.out, show decide (re = 0) = false from he]; rfl), X2.out.trans (by (repeat (first | with_reducible (first | exact Ext.refl _ _ | assumption | refine Ext.upN ?_ | refine Ext.alloc ?_ _ | refine Ext.drew ?_ | refine Ext.drewN ?_ _ | refine Ext.up1N (by first | omega | simp) ?_) | refine Ext.alloc ?_ _ | refine Ext.setCell ?_ (.inr (by first | omega | simp)) _)))⟩
  · have hre : re = 0 := by simpa using he
    have hcb := HC.out hre
    have hwc : IntKind.i64.wrap (100 + c) = 100 + c := IntWalk.i64_in _ (by omega)
    clear HC hre hcb
    cases hl : ((l.length : Int) == 1)
    · skip
      apply wp_region_rel (relR [Mo.is _, Mo.is _, Mo.is _, Mo.is _, Mo.is _, Mo.is _, Mo.is _, Mo.is _, Mo.is _, Mo.is _, Mo.is _, Mo.is _, Mo.is _, Mo.is _, Mo.is _, Mo.is _, Mo.is _, Mo.is _, Mo.is _]) (by kernel_rfl) (by kernel_rfl) (by kernel_rfl) (relR_mono _) (StepD.all ?st4) ?q4
      case st4 =>
        refine ⟨?_, ?_, ?_, ?_, ?_, ?_, ?_, ?_, ?_, ?_, ?_, ?_, ?_, ?_, ?_, ?_, ?_, ?_, ?_, trivial⟩
        · intro a' w' hx hs hd
          obtain ⟨y, rfl⟩ := hx.ew
          have e6 : a'.tmps[6]?.getD undef = _ := hs 6 rfl
          simp only [List.getElem?_toArray, List.getElem?_cons_succ, List.getElem?_cons_zero, Option.getD_some, Array.getElem?_eq_some_iff] at e6
          refine .inl ⟨rfl, ?_⟩
          clear hs hd hx
          go_simp
          exact ⟨Ext.refl _ _, rfl⟩
        · intro a' w' hx hs hd
          obtain ⟨y, rfl⟩ := hx.ew
          have e12 : a'.tmps[12]?.getD undef = _ := hd 0 12 rfl rfl
          refine .inl ⟨rfl, ?_⟩
          clear hs hd hx
          go_simp
          exact ⟨Ext.refl _ _, rfl⟩
        · intro a' w' hx hs hd
          obtain ⟨y, rfl⟩ := hx.ew
          have e13 : a'.tmps[13]?.getD undef = _ := hd 1 13 rfl rfl
          refine .inl ⟨rfl, ?_⟩
          clear hs hd hx
          go_simp
          exact ⟨Ext.refl _ _, rfl⟩
        · intro a' w' hx hs hd
          obtain ⟨y, rfl⟩ := hx.ew
          have eg : a'.tmps[14]?.getD undef = _ := hd 2 14 rfl rfl
          first
          | (refine .inr ⟨unwanted_of (j := 2) (d := 14) rfl rfl eg (by rfl), ?_⟩; exact (rfl : (Mo.is undef).p undef y.on))
          | (refine .inr ⟨unwanted_und (j := 2) (d := 14) rfl rfl eg, ?_⟩; exact (rfl : (Mo.is undef).p undef y.on))
          | (have e1 : a'.tmps[1]?.getD undef = _ := hs 1 rfl; simp only [List.getElem?_toArray, List.getElem?_cons_succ, List.getElem?_cons_zero, Option.getD_some, Array.getElem?_eq_some_iff] at e1; refine .inl ⟨wanted_of (j := 2) (d := 14) rfl rfl eg, ?_⟩; clear hs hd hx eg; go_simp; exact ⟨Ext.refl _ _, rfl⟩)
        · intro a' w' hx hs hd
          obtain ⟨y, rfl⟩ := hx.ew
          have eg : a'.tmps[14]?.getD undef = _ := hd 2 14 rfl rfl
          first
          | (refine .inr ⟨unwanted_of (j := 2) (d := 14) rfl rfl eg (by rfl), ?_⟩; exact (rfl : (Mo.is undef).p undef y.on))
          | (refine .inr ⟨unwanted_und (j := 2) (d := 14) rfl rfl eg, ?_⟩; exact (rfl : (Mo.is undef).p undef y.on))
          | (have e15 : a'.tmps[15]?.getD undef = _ := hd 3 15 rfl rfl; refine .inl ⟨wanted_of (j := 2) (d := 14) rfl rfl eg, ?_⟩; clear hs hd hx eg; go_simp; exact ⟨Ext.refl _ _, rfl⟩)
        · intro a' w' hx hs hd
          obtain ⟨y, rfl⟩ := hx.ew
          have eg : a'.tmps[14]?.getD undef = _ := hd 2 14 rfl rfl
          first
          | (refine .inr ⟨unwanted_of (j := 2) (d := 14) rfl rfl eg (by rfl), ?_⟩; exact (rfl : (Mo.is undef).p undef y.on))
          | (refine .inr ⟨unwanted_und (j := 2) (d := 14) rfl rfl eg, ?_⟩; exact (rfl : (Mo.is undef).p undef y.on))
          | (have e16 : a'.tmps[16]?.getD undef = _ := hd 4 16 rfl rfl; refine .inl ⟨wanted_of (j := 2) (d := 14) rfl rfl eg, ?_⟩; clear hs hd hx eg; go_simp; exact ⟨Ext.refl _ _, rfl⟩)
        · intro a' w' hx hs hd
          obtain ⟨y, rfl⟩ := hx.ew
          have e14 : a'.tmps[14]?.getD undef = _ := hd 2 14 rfl rfl
          have e17 : a'.tmps[17]?.getD undef = _ := hd 5 17 rfl rfl
          refine .inl ⟨rfl, ?_⟩
          clear hs hd hx
          go_simp
          exact ⟨Ext.refl _ _, rfl⟩
        · intro a' w' hx hs hd
          obtain ⟨y, rfl⟩ := hx.ew
          have e18 : a'.tmps[18]?.getD undef = _ := hd 6 18 rfl rfl
          refine .inl ⟨rfl, ?_⟩
          clear hs hd hx
          go_simp
          exact ⟨Ext.refl _ _, rfl⟩
        · intro a' w' hx hs hd
          obtain ⟨y, rfl⟩ := hx.ew
          have eg : a'.tmps[19]?.getD undef = _ := hd 7 19 rfl rfl
          first
          | (refine .inr ⟨unwanted_of (j := 7) (d := 19) rfl rfl eg (by rfl), ?_⟩; exact (rfl : (Mo.is undef).p undef y.on))
          | (refine .inr ⟨unwanted_und (j := 7) (d := 19) rfl rfl eg, ?_⟩; exact (rfl : (Mo.is undef).p undef y.on))
          | (have e1 : a'.tmps[1]?.getD undef = _ := hs 1 rfl; simp only [List.getElem?_toArray, List.getElem?_cons_succ, List.getElem?_cons_zero, Option.getD_some, Array.getElem?_eq_some_iff] at e1; refine .inl ⟨wanted_of (j := 7) (d := 19) rfl rfl eg, ?_⟩; clear hs hd hx eg; go_simp; exact ⟨Ext.refl _ _, rfl⟩)
        · intro a' w' hx hs hd
          obtain ⟨y, rfl⟩ := hx.ew
          have eg : a'.tmps[19]?.getD undef = _ := hd 7 19 rfl rfl
          first
          | (refine .inr ⟨unwanted_of (j := 7) (d := 19) rfl rfl eg (by rfl), ?_⟩; exact (rfl : (Mo.is undef).p undef y.on))
          | (refine .inr ⟨unwanted_und (j := 7) (d := 19) rfl rfl eg, ?_⟩; exact (rfl : (Mo.is undef).p undef y.on))
          | (have e20 : a'.tmps[20]?.getD undef = _ := hd 8 20 rfl rfl; refine .inl ⟨wanted_of (j := 7) (d := 19) rfl rfl eg, ?_⟩; clear hs hd hx eg; go_simp; exact ⟨Ext.refl _ _, rfl⟩)
        · intro a' w' hx hs hd
          obtain ⟨y, rfl⟩ := hx.ew
          have eg : a'.tmps[19]?.getD undef = _ := hd 7 19 rfl rfl
          first
          | (refine .inr ⟨unwanted_of (j := 7) (d := 19) rfl rfl eg (by rfl), ?_⟩; exact (rfl : (Mo.is undef).p undef y.on))
          | (refine .inr ⟨unwanted_und (j := 7) (d := 19) rfl rfl eg, ?_⟩; exact (rfl : (Mo.is undef).p undef y.on))
          | (have e21 : a'.tmps[21]?.getD undef = _ := hd 9 21 rfl rfl; refine .inl ⟨wanted_of (j := 7) (d := 19) rfl rfl eg, ?_⟩; clear hs hd hx eg; go_simp; exact ⟨Ext.refl _ _, rfl⟩)
        · intro a' w' hx hs hd
          obtain ⟨y, rfl⟩ := hx.ew
          have eg : a'.tmps[19]?.getD undef = _ := hd 7 19 rfl rfl
          first
          | (refine .inr ⟨unwanted_of (j := 7) (d := 19) rfl rfl eg (by rfl), ?_⟩; exact (rfl : (Mo.is undef).p undef y.on))
          | (refine .inr ⟨unwanted_und (j := 7) (d := 19) rfl rfl eg, ?_⟩; exact (rfl : (Mo.is undef).p undef y.on))
          | (have e2 : a'.tmps[2]?.getD undef = _ := hs 2 rfl; simp only [List.getElem?_toArray, List.getElem?_cons_succ, List.getElem?_cons_zero, Option.getD_some, Array.getElem?_eq_some_iff] at e2; refine .inl ⟨wanted_of (j := 7) (d := 19) rfl rfl eg, ?_⟩; clear hs hd hx eg; go_simp; exact ⟨Ext.refl _ _, rfl⟩)
        · intro a' w' hx hs hd
          obtain ⟨y, rfl⟩ := hx.ew
          have eg : a'.tmps[19]?.getD undef = _ := hd 7 19 rfl rfl
          first
          | (refine .inr ⟨unwanted_of (j := 7) (d := 19) rfl rfl eg (by rfl), ?_⟩; exact (rfl : (Mo.is undef).p undef y.on))
          | (refine .inr ⟨unwanted_und (j := 7) (d := 19) rfl rfl eg, ?_⟩; exact (rfl : (Mo.is undef).p undef y.on))
          | (have e23 : a'.tmps[23]?.getD undef = _ := hd 11 23 rfl rfl; refine .inl ⟨wanted_of (j := 7) (d := 19) rfl rfl eg, ?_⟩; clear hs hd hx eg; go_simp; exact ⟨Ext.refl _ _, rfl⟩)
        · intro a' w' hx hs hd
          obtain ⟨y, rfl⟩ := hx.ew
          have eg : a'.tmps[19]?.getD undef = _ := hd 7 19 rfl rfl
          first
          | (refine .inr ⟨unwanted_of (j := 7) (d := 19) rfl rfl eg (by rfl), ?_⟩; exact (rfl : (Mo.is undef).p undef y.on))
          | (refine .inr ⟨unwanted_und (j := 7) (d := 19) rfl rfl eg, ?_⟩; exact (rfl : (Mo.is undef).p undef y.on))
          | (have e24 : a'.tmps[24]?.getD undef = _ := hd 12 24 rfl rfl; refine .inl ⟨wanted_of (j := 7) (d := 19) rfl rfl eg, ?_⟩; clear hs hd hx eg; go_simp; exact ⟨Ext.refl _ _, rfl⟩)
        · intro a' w' hx hs hd
          obtain ⟨y, rfl⟩ := hx.ew
          have eg : a'.tmps[19]?.getD undef = _ := hd 7 19 rfl rfl
          first
          | (refine .inr ⟨unwanted_of (j := 7) (d := 19) rfl rfl eg (by rfl), ?_⟩; exact (rfl : (Mo.is undef).p undef y.on))
          | (refine .inr ⟨unwanted_und (j := 7) (d := 19) rfl rfl eg, ?_⟩; exact (rfl : (Mo.is undef).p undef y.on))
          | (have e5 : a'.tmps[5]?.getD undef = _ := hs 5 rfl; simp only [List.getElem?_toArray, List.getElem?_cons_succ, List.getElem?_cons_zero, Option.getD_some, Array.getElem?_eq_some_iff] at e5; refine .inl ⟨wanted_of (j := 7) (d := 19) rfl rfl eg, ?_⟩; clear hs hd hx eg; go_simp; exact ⟨Ext.refl _ _, rfl⟩)
        · intro a' w' hx hs hd
          obtain ⟨y, rfl⟩ := hx.ew
          have eg : a'.tmps[19]?.getD undef = _ := hd 7 19 rfl rfl
          first
          | (refine .inr ⟨unwanted_of (j := 7) (d := 19) rfl rfl eg (by rfl), ?_⟩; exact (rfl : (Mo.is undef).p undef y.on))
          | (refine .inr ⟨unwanted_und (j := 7) (d := 19) rfl rfl eg, ?_⟩; exact (rfl : (Mo.is undef).p undef y.on))
          | (have e25 : a'.tmps[25]?.getD undef = _ := hd 13 25 rfl rfl; have e26 : a'.tmps[26]?.getD undef = _ := hd 14 26 rfl rfl; refine .inl ⟨wanted_of (j := 7) (d := 19) rfl rfl eg, ?_⟩; clear hs hd hx eg; go_simp; exact ⟨Ext.refl _ _, rfl⟩)
        · intro a' w' hx hs hd
          obtain ⟨y, rfl⟩ := hx.ew
          have eg : a'.tmps[19]?.getD undef = _ := hd 7 19 rfl rfl
          first
          | (refine .inr ⟨unwanted_of (j := 7) (d := 19) rfl rfl eg (by rfl), ?_⟩; exact (rfl : (Mo.is undef).p undef y.on))
          | (refine .inr ⟨unwanted_und (j := 7) (d := 19) rfl rfl eg, ?_⟩; exact (rfl : (Mo.is undef).p undef y.on))
          | (have e22 : a'.tmps[22]?.getD undef = _ := hd 10 22 rfl rfl; have e27 : a'.tmps[27]?.getD undef = _ := hd 15 27 rfl rfl; refine .inl ⟨wanted_of (j := 7) (d := 19) rfl rfl eg, ?_⟩; clear hs hd hx eg; go_simp; exact ⟨Ext.refl _ _, rfl⟩)
        · intro a' w' hx hs hd
          obtain ⟨y, rfl⟩ := hx.ew
          have e19 : a'.tmps[19]?.getD undef = _ := hd 7 19 rfl rfl
          have e28 : a'.tmps[28]?.getD undef = _ := hd 16 28 rfl rfl
          refine .inl ⟨rfl, ?_⟩
          clear hs hd hx
          go_simp
          exact ⟨Ext.refl _ _, rfl⟩
        · intro a' w' hx hs hd
          obtain ⟨y, rfl⟩ := hx.ew
          have e29 : a'.tmps[29]?.getD undef = _ := hd 17 29 rfl rfl
          refine .inl ⟨rfl, ?_⟩
          clear hs hd hx
          go_simp
          exact ⟨Ext.refl _ _, rfl⟩
      case' q4 =>
        intro vs w' hx hRR
        obtain ⟨x3, rfl⟩ := hx.ew
        have q0 : vs 0 = _ := hRR 0 (by decide)
        have q1 : vs 1 = _ := hRR 1 (by decide)
        have q2 : vs 2 = _ := hRR 2 (by decide)
        have q3 : vs 3 = _ := hRR 3 (by decide)
        have q4 : vs 4 = _ := hRR 4 (by decide)
        have q5 : vs 5 = _ := hRR 5 (by decide)
        have q6 : vs 6 = _ := hRR 6 (by decide)
        have q7 : vs 7 = _ := hRR 7 (by decide)
        have q8 : vs 8 = _ := hRR 8 (by decide)
        have q9 : vs 9 = _ := hRR 9 (by decide)
        have q10 : vs 10 = _ := hRR 10 (by decide)
        have q11 : vs 11 = _ := hRR 11 (by decide)
        have q12 : vs 12 = _ := hRR 12 (by decide)
        have q13 : vs 13 = _ := hRR 13 (by decide)
        have q14 : vs 14 = _ := hRR 14 (by decide)
        have q15 : vs 15 = _ := hRR 15 (by decide)
        have q16 : vs 16 = _ := hRR 16 (by decide)
        have q17 : vs 17 = _ := hRR 17 (by decide)
        have q18 : vs 18 = _ := hRR 18 (by decide)
        clear hRR hx
        simp only [putAll, List.take_succ_cons, List.take_zero, List.drop_succ_cons, List.drop_zero, Act.put, List.setIfInBounds_toArray, List.set_cons_zero, List.set_cons_succ, Nat.reduceAdd, Nat.zero_add]
        simp only [q0, q1, q2, q3, q4, q5, q6, q7, q8, q9, q10, q11, q12, q13, q14, q15, q16, q17, q18]
        clear q0 q1 q2 q3 q4 q5 q6 q7 q8 q9 q10 q11 q12 q13 q14 q15 q16 q17 q18 vs
      go_wp2
      go_returns
      exact ⟨ret_bool (by rw [DS.out, sgs_len (fun q => by rw [q] at hl; cases hl), Bool.and_false]), X2.out.trans (by (repeat (first | with_reducible (first | exact Ext.refl _ _ | assumption | refine Ext.upN ?_ | refine Ext.alloc ?_ _ | refine Ext.drew ?_ | refine Ext.drewN ?_ _ | refine Ext.up1N (by first | omega | simp) ?_) | refine Ext.alloc ?_ _ | refine Ext.setCell ?_ (.inr (by first | omega | simp)) _)))⟩
    · have hl1 : l.length = 1 := by have : (l.length : Int) = 1 := by simpa using hl
                                    omega
      obtain ⟨sb, so, hsa, hsb, s0, s1, -, -⟩ := S2.out.at_ 0 (by omega)
      have s0 : w2.cell? ⟨sb, so, none⟩ = some (.int .i64 (sgAt l 0).by_) := by simpa using s0
      have s1 : w2.cell? ⟨sb, so + 1, none⟩ = some (.string (sgAt l 0).text) := by simpa using s1
      have DO := Go.Lib.hid (sgs_one (x := ⟨100 + c, rt⟩) hl1)
      unfold sameSg at DO
      dsimp only at DO
      rw [hl1, hsa]
      clear hl hl1 hsa S2
      generalize (sgAt l 0).by_ = sgb at *
      generalize (sgAt l 0).text = sgt at *
      by_cases hb : sgb = 100 + c
      · by_cases ht : sgt = rt
        · subst hb; subst ht
          have HE : Hid (signedB ⟨c, s, ⟨k, key, x, id'⟩⟩ l = true) := Go.Lib.hid (by rw [DS.out, DO.out, show decide (re = 0) = true from he]; simp)
          apply wp_region_rel (relR [Mo.is _, Mo.is _, Mo.is _, Mo.is _, Mo.is _, Mo.is _, Mo.is _, Mo.is _, Mo.is _, Mo.is _, Mo.is _, Mo.is _, Mo.is _, Mo.is _, Mo.is _, Mo.is _, Mo.is _, Mo.is _, Mo.is _]) (by kernel_rfl) (by kernel_rfl) (by kernel_rfl) (relR_mono _) (StepD.all ?st5) ?q5
          case st5 =>
            refine ⟨?_, ?_, ?_, ?_, ?_, ?_, ?_, ?_, ?_, ?_, ?_, ?_, ?_, ?_, ?_, ?_, ?_, ?_, ?_, trivial⟩
            · intro a' w' hx hs hd
              obtain ⟨y, rfl⟩ := hx.ew
              have e6 : a'.tmps[6]?.getD undef = _ := hs 6 rfl
              simp only [List.getElem?_toArray, List.getElem?_cons_succ, List.getElem?_cons_zero, Option.getD_some, Array.getElem?_eq_some_iff] at e6
              refine .inl ⟨rfl, ?_⟩
              clear hs hd hx
              go_simp
              exact ⟨Ext.refl _ _, rfl⟩
            · intro a' w' hx hs hd
              obtain ⟨y, rfl⟩ := hx.ew
              have e12 : a'.tmps[12]?.getD undef = _ := hd 0 12 rfl rfl
              refine .inl ⟨rfl, ?_⟩
              clear hs hd hx
              go_simp
              exact ⟨Ext.refl _ _, rfl⟩
            · intro a' w' hx hs hd
              obtain ⟨y, rfl⟩ := hx.ew
              have e13 : a'.tmps[13]?.getD undef = _ := hd 1 13 rfl rfl
              refine .inl ⟨rfl, ?_⟩
              clear hs hd hx
              go_simp
              exact ⟨Ext.refl _ _, rfl⟩
            · intro a' w' hx hs hd
              obtain ⟨y, rfl⟩ := hx.ew
              have eg : a'.tmps[14]?.getD undef = _ := hd 2 14 rfl rfl
              first
              | (refine .inr ⟨unwanted_of (j := 2) (d := 14) rfl rfl eg (by rfl), ?_⟩; exact (rfl : (Mo.is undef).p undef y.on))
              | (refine .inr ⟨unwanted_und (j := 2) (d := 14) rfl rfl eg, ?_⟩; exact (rfl : (Mo.is undef).p undef y.on))
              | (have e1 : a'.tmps[1]?.getD undef = _ := hs 1 rfl; simp only [List.getElem?_toArray, List.getElem?_cons_succ, List.getElem?_cons_zero, Option.getD_some, Array.getElem?_eq_some_iff] at e1; refine .inl ⟨wanted_of (j := 2) (d := 14) rfl rfl eg, ?_⟩; clear hs hd hx eg; go_simp; exact ⟨Ext.refl _ _, rfl⟩)
            · intro a' w' hx hs hd
              obtain ⟨y, rfl⟩ := hx.ew
              have eg : a'.tmps[14]?.getD undef = _ := hd 2 14 rfl rfl
              first
              | (refine .inr ⟨unwanted_of (j := 2) (d := 14) rfl rfl eg (by rfl), ?_⟩; exact (rfl : (Mo.is undef).p undef y.on))
              | (refine .inr ⟨unwanted_und (j := 2) (d := 14) rfl rfl eg, ?_⟩; exact (rfl : (Mo.is undef).p undef y.on))
              | (have e15 : a'.tmps[15]?.getD undef = _ := hd 3 15 rfl rfl; refine .inl ⟨wanted_of (j := 2) (d := 14) rfl rfl eg, ?_⟩; clear hs hd hx eg; go_simp; exact ⟨Ext.refl _ _, rfl⟩)
            · intro a' w' hx hs hd
              obtain ⟨y, rfl⟩ := hx.ew
              have eg : a'.tmps[14]?.getD undef = _ := hd 2 14 rfl rfl
              first
              | (refine .inr ⟨unwanted_of (j := 2) (d := 14) rfl rfl eg (by rfl), ?_⟩; exact (rfl : (Mo.is undef).p undef y.on))
              | (refine .inr ⟨unwanted_und (j := 2) (d := 14) rfl rfl eg, ?_⟩; exact (rfl : (Mo.is undef).p undef y.on))
              | (have e16 : a'.tmps[16]?.getD undef = _ := hd 4 16 rfl rfl; refine .inl ⟨wanted_of (j := 2) (d := 14) rfl rfl eg, ?_⟩; clear hs hd hx eg; go_simp; exact ⟨Ext.refl _ _, rfl⟩)
            · intro a' w' hx hs hd
              obtain ⟨y, rfl⟩ := hx.ew
              have e14 : a'.tmps[14]?.getD undef = _ := hd 2 14 rfl rfl
              have e17 : a'.tmps[17]?.getD undef = _ := hd 5 17 rfl rfl
              refine .inl ⟨rfl, ?_⟩
              clear hs hd hx
              go_simp
              exact ⟨Ext.refl _ _, rfl⟩
            · intro a' w' hx hs hd
              obtain ⟨y, rfl⟩ := hx.ew
              have e18 : a'.tmps[18]?.getD undef = _ := hd 6 18 rfl rfl
              refine .inl ⟨rfl, ?_⟩
              clear hs hd hx
              go_simp
              exact ⟨Ext.refl _ _, rfl⟩
            · intro a' w' hx hs hd
              obtain ⟨y, rfl⟩ := hx.ew
              have eg : a'.tmps[19]?.getD undef = _ := hd 7 19 rfl rfl
              first
              | (refine .inr ⟨unwanted_of (j := 7) (d := 19) rfl rfl eg (by rfl), ?_⟩; exact (rfl : (Mo.is undef).p undef y.on))
              | (refine .inr ⟨unwanted_und (j := 7) (d := 19) rfl rfl eg, ?_⟩; exact (rfl : (Mo.is undef).p undef y.on))
              | (have e1 : a'.tmps[1]?.getD undef = _ := hs 1 rfl; simp only [List.getElem?_toArray, List.getElem?_cons_succ, List.getElem?_cons_zero, Option.getD_some, Array.getElem?_eq_some_iff] at e1; refine .inl ⟨wanted_of (j := 7) (d := 19) rfl rfl eg, ?_⟩; clear hs hd hx eg; go_simp; exact ⟨Ext.refl _ _, rfl⟩)
            · intro a' w' hx hs hd
              obtain ⟨y, rfl⟩ := hx.ew
              have eg : a'.tmps[19]?.getD undef = _ := hd 7 19 rfl rfl
              first
              | (refine .inr ⟨unwanted_of (j := 7) (d := 19) rfl rfl eg (by rfl), ?_⟩; exact (rfl : (Mo.is undef).p undef y.on))
              | (refine .inr ⟨unwanted_und (j := 7) (d := 19) rfl rfl eg, ?_⟩; exact (rfl : (Mo.is undef).p undef y.on))
              | (have e20 : a'.tmps[20]?.getD undef = _ := hd 8 20 rfl rfl; refine .inl ⟨wanted_of (j := 7) (d := 19) rfl rfl eg, ?_⟩; clear hs hd hx eg; go_simp; exact ⟨Ext.refl _ _, rfl⟩)
            · intro a' w' hx hs hd
              obtain ⟨y, rfl⟩ := hx.ew
              have eg : a'.tmps[19]?.getD undef = _ := hd 7 19 rfl rfl
              first
              | (refine .inr ⟨unwanted_of (j := 7) (d := 19) rfl rfl eg (by rfl), ?_⟩; exact (rfl : (Mo.is undef).p undef y.on))
              | (refine .inr ⟨unwanted_und (j := 7) (d := 19) rfl rfl eg, ?_⟩; exact (rfl : (Mo.is undef).p undef y.on))
              | (have e21 : a'.tmps[21]?.getD undef = _ := hd 9 21 rfl rfl; refine .inl ⟨wanted_of (j := 7) (d := 19) rfl rfl eg, ?_⟩; clear hs hd hx eg; go_simp; exact ⟨Ext.refl _ _, rfl⟩)
            · intro a' w' hx hs hd
              obtain ⟨y, rfl⟩ := hx.ew
              have eg : a'.tmps[19]?.getD undef = _ := hd 7 19 rfl rfl
              first
              | (refine .inr ⟨unwanted_of (j := 7) (d := 19) rfl rfl eg (by rfl), ?_⟩; exact (rfl : (Mo.is undef).p undef y.on))
              | (refine .inr ⟨unwanted_und (j := 7) (d := 19) rfl rfl eg, ?_⟩; exact (rfl : (Mo.is undef).p undef y.on))
              | (have e2 : a'.tmps[2]?.getD undef = _ := hs 2 rfl; simp only [List.getElem?_toArray, List.getElem?_cons_succ, List.getElem?_cons_zero, Option.getD_some, Array.getElem?_eq_some_iff] at e2; refine .inl ⟨wanted_of (j := 7) (d := 19) rfl rfl eg, ?_⟩; clear hs hd hx eg; go_simp; exact ⟨Ext.refl _ _, rfl⟩)
            · intro a' w' hx hs hd
              obtain ⟨y, rfl⟩ := hx.ew
              have eg : a'.tmps[19]?.getD undef = _ := hd 7 19 rfl rfl
              first
              | (refine .inr ⟨unwanted_of (j := 7) (d := 19) rfl rfl eg (by rfl), ?_⟩; exact (rfl : (Mo.is undef).p undef y.on))
              | (refine .inr ⟨unwanted_und (j := 7) (d := 19) rfl rfl eg, ?_⟩; exact (rfl : (Mo.is undef).p undef y.on))
              | (have e23 : a'.tmps[23]?.getD undef = _ := hd 11 23 rfl rfl; refine .inl ⟨wanted_of (j := 7) (d := 19) rfl rfl eg, ?_⟩; clear hs hd hx eg; go_simp; exact ⟨Ext.refl _ _, rfl⟩)
            · intro a' w' hx hs hd
              obtain ⟨y, rfl⟩ := hx.ew
              have eg : a'.tmps[19]?.getD undef = _ := hd 7 19 rfl rfl
              first
              | (refine .inr ⟨unwanted_of (j := 7) (d := 19) rfl rfl eg (by rfl), ?_⟩; exact (rfl : (Mo.is undef).p undef y.on))
              | (refine .inr ⟨unwanted_und (j := 7) (d := 19) rfl rfl eg, ?_⟩; exact (rfl : (Mo.is undef).p undef y.on))
              | (have e24 : a'.tmps[24]?.getD undef = _ := hd 12 24 rfl rfl; refine .inl ⟨wanted_of (j := 7) (d := 19) rfl rfl eg, ?_⟩; clear hs hd hx eg; go_simp; exact ⟨Ext.refl _ _, rfl⟩)
            · intro a' w' hx hs hd
              obtain ⟨y, rfl⟩ := hx.ew
              have eg : a'.tmps[19]?.getD undef = _ := hd 7 19 rfl rfl
              first
              | (refine .inr ⟨unwanted_of (j := 7) (d := 19) rfl rfl eg (by rfl), ?_⟩; exact (rfl : (Mo.is undef).p undef y.on))
              | (refine .inr ⟨unwanted_und (j := 7) (d := 19) rfl rfl eg, ?_⟩; exact (rfl : (Mo.is undef).p undef y.on))
              | (have e5 : a'.tmps[5]?.getD undef = _ := hs 5 rfl; simp only [List.getElem?_toArray, List.getElem?_cons_succ, List.getElem?_cons_zero, Option.getD_some, Array.getElem?_eq_some_iff] at e5; refine .inl ⟨wanted_of (j := 7) (d := 19) rfl rfl eg, ?_⟩; clear hs hd hx eg; go_simp; exact ⟨Ext.refl _ _, rfl⟩)
            · intro a' w' hx hs hd
              obtain ⟨y, rfl⟩ := hx.ew
              have eg : a'.tmps[19]?.getD undef = _ := hd 7 19 rfl rfl
              first
              | (refine .inr ⟨unwanted_of (j := 7) (d := 19) rfl rfl eg (by rfl), ?_⟩; exact (rfl : (Mo.is undef).p undef y.on))
              | (refine .inr ⟨unwanted_und (j := 7) (d := 19) rfl rfl eg, ?_⟩; exact (rfl : (Mo.is undef).p undef y.on))
              | (have e25 : a'.tmps[25]?.getD undef = _ := hd 13 25 rfl rfl; have e26 : a'.tmps[26]?.getD undef = _ := hd 14 26 rfl rfl; refine .inl ⟨wanted_of (j := 7) (d := 19) rfl rfl eg, ?_⟩; clear hs hd hx eg; go_simp; exact ⟨Ext.refl _ _, rfl⟩)
            · intro a' w' hx hs hd
              obtain ⟨y, rfl⟩ := hx.ew
              have eg : a'.tmps[19]?.getD undef = _ := hd 7 19 rfl rfl
              first
              | (refine .inr ⟨unwanted_of (j := 7) (d := 19) rfl rfl eg (by rfl), ?_⟩; exact (rfl : (Mo.is undef).p undef y.on))
              | (refine .inr ⟨unwanted_und (j := 7) (d := 19) rfl rfl eg, ?_⟩; exact (rfl : (Mo.is undef).p undef y.on))
              | (have e22 : a'.tmps[22]?.getD undef = _ := hd 10 22 rfl rfl; have e27 : a'.tmps[27]?.getD undef = _ := hd 15 27 rfl rfl; refine .inl ⟨wanted_of (j := 7) (d := 19) rfl rfl eg, ?_⟩; clear hs hd hx eg; go_simp; exact ⟨Ext.refl _ _, rfl⟩)
            · intro a' w' hx hs hd
              obtain ⟨y, rfl⟩ := hx.ew
              have e19 : a'.tmps[19]?.getD undef = _ := hd 7 19 rfl rfl
              have e28 : a'.tmps[28]?.getD undef = _ := hd 16 28 rfl rfl
              refine .inl ⟨rfl, ?_⟩
              clear hs hd hx
              go_simp
              exact ⟨Ext.refl _ _, rfl⟩
            · intro a' w' hx hs hd
              obtain ⟨y, rfl⟩ := hx.ew
              have e29 : a'.tmps[29]?.getD undef = _ := hd 17 29 rfl rfl
              refine .inl ⟨rfl, ?_⟩
              clear hs hd hx
              go_simp
              exact ⟨Ext.refl _ _, rfl⟩
          case' q5 =>
            intro vs w' hx hRR
            obtain ⟨x3, rfl⟩ := hx.ew
            have q0 : vs 0 = _ := hRR 0 (by decide)
            have q1 : vs 1 = _ := hRR 1 (by decide)
            have q2 : vs 2 = _ := hRR 2 (by decide)
            have q3 : vs 3 = _ := hRR 3 (by decide)
            have q4 : vs 4 = _ := hRR 4 (by decide)
            have q5 : vs 5 = _ := hRR 5 (by decide)
            have q6 : vs 6 = _ := hRR 6 (by decide)
            have q7 : vs 7 = _ := hRR 7 (by decide)
            have q8 : vs 8 = _ := hRR 8 (by decide)
            have q9 : vs 9 = _ := hRR 9 (by decide)
            have q10 : vs 10 = _ := hRR 10 (by decide)
            have q11 : vs 11 = _ := hRR 11 (by decide)
            have q12 : vs 12 = _ := hRR 12 (by decide)
            have q13 : vs 13 = _ := hRR 13 (by decide)
            have q14 : vs 14 = _ := hRR 14 (by decide)
            have q15 : vs 15 = _ := hRR 15 (by decide)
            have q16 : vs 16 = _ := hRR 16 (by decide)
            have q17 : vs 17 = _ := hRR 17 (by decide)
            have q18 : vs 18 = _ := hRR 18 (by decide)
            clear hRR hx
            simp only [putAll, List.take_succ_cons, List.take_zero, List.drop_succ_cons, List.drop_zero, Act.put, List.setIfInBounds_toArray, List.set_cons_zero, List.set_cons_succ, Nat.reduceAdd, Nat.zero_add]
            simp only [q0, q1, q2, q3, q4, q5, q6, q7, q8, q9, q10, q11, q12, q13, q14, q15, q16, q17, q18]
            clear q0 q1 q2 q3 q4 q5 q6 q7 q8 q9 q10 q11 q12 q13 q14 q15 q16 q17 q18 vs
          go_wp2
          go_returns
          exact ⟨ret_bool (by rw [HE.out]), X2.out.trans (by (repeat (first | with_reducible (first | exact Ext.refl _ _ | assumption | refine Ext.upN ?_ | refine Ext.alloc ?_ _ | refine Ext.drew ?_ | refine Ext.drewN ?_ _ | refine Ext.up1N (by first | omega | simp) ?_) | refine Ext.alloc ?_ _ | refine Ext.setCell ?_ (.inr (by first | omega | simp)) _)))⟩
        · subst hb
          have HE : Hid (signedB ⟨c, s, ⟨k, key, x, id'⟩⟩ l = false) := Go.Lib.hid (by rw [DS.out, DO.out, show decide (re = 0) = true from he]; simp [ht])
          have ht2 : ¬ sgt.toList = rt.toList := fun h => ht (toList_inj h)
          clear ht
          apply wp_region_rel (relR [Mo.is _, Mo.is _, Mo.is _, Mo.is _, Mo.is _, Mo.is _, Mo.is _, Mo.is _, Mo.is _, Mo.is _, Mo.is _, Mo.is _, Mo.is _, Mo.is _, Mo.is _, Mo.is _, Mo.is _, Mo.is _, Mo.is _]) (by kernel_rfl) (by kernel_rfl) (by kernel_rfl) (relR_mono _) (StepD.all ?st6) ?q6
          case st6 =>
            refine ⟨?_, ?_, ?_, ?_, ?_, ?_, ?_, ?_, ?_, ?_, ?_, ?_, ?_, ?_, ?_, ?_, ?_, ?_, ?_, trivial⟩
            · intro a' w' hx hs hd
              obtain ⟨y, rfl⟩ := hx.ew
              have e6 : a'.tmps[6]?.getD undef = _ := hs 6 rfl
              simp only [List.getElem?_toArray, List.getElem?_cons_succ, List.getElem?_cons_zero, Option.getD_some, Array.getElem?_eq_some_iff] at e6
              refine .inl ⟨rfl, ?_⟩
              clear hs hd hx
              go_simp
              exact ⟨Ext.refl _ _, rfl⟩
            · intro a' w' hx hs hd
              obtain ⟨y, rfl⟩ := hx.ew
              have e12 : a'.tmps[12]?.getD undef = _ := hd 0 12 rfl rfl
              refine .inl ⟨rfl, ?_⟩
              clear hs hd hx
              go_simp
              exact ⟨Ext.refl _ _, rfl⟩
            · intro a' w' hx hs hd
              obtain ⟨y, rfl⟩ := hx.ew
              have e13 : a'.tmps[13]?.getD undef = _ := hd 1 13 rfl rfl
              refine .inl ⟨rfl, ?_⟩
              clear hs hd hx
              go_simp
              exact ⟨Ext.refl _ _, rfl⟩
            · intro a' w' hx hs hd
              obtain ⟨y, rfl⟩ := hx.ew
              have eg : a'.tmps[14]?.getD undef = _ := hd 2 14 rfl rfl
              first
              | (refine .inr ⟨unwanted_of (j := 2) (d := 14) rfl rfl eg (by rfl), ?_⟩; exact (rfl : (Mo.is undef).p undef y.on))
              | (refine .inr ⟨unwanted_und (j := 2) (d := 14) rfl rfl eg, ?_⟩; exact (rfl : (Mo.is undef).p undef y.on))
              | (have e1 : a'.tmps[1]?.getD undef = _ := hs 1 rfl; simp only [List.getElem?_toArray, List.getElem?_cons_succ, List.getElem?_cons_zero, Option.getD_some, Array.getElem?_eq_some_iff] at e1; refine .inl ⟨wanted_of (j := 2) (d := 14) rfl rfl eg, ?_⟩; clear hs hd hx eg; go_simp; exact ⟨Ext.refl _ _, rfl⟩)
            · intro a' w' hx hs hd
              obtain ⟨y, rfl⟩ := hx.ew
              have eg : a'.tmps[14]?.getD undef = _ := hd 2 14 rfl rfl
              first
              | (refine .inr ⟨unwanted_of (j := 2) (d := 14) rfl rfl eg (by rfl), ?_⟩; exact (rfl : (Mo.is undef).p undef y.on))
              | (refine .inr ⟨unwanted_und (j := 2) (d := 14) rfl rfl eg, ?_⟩; exact (rfl : (Mo.is undef).p undef y.on))
              | (have e15 : a'.tmps[15]?.getD undef = _ := hd 3 15 rfl rfl; refine .inl ⟨wanted_of (j := 2) (d := 14) rfl rfl eg, ?_⟩; clear hs hd hx eg; go_simp; exact ⟨Ext.refl _ _, rfl⟩)
            · intro a' w' hx hs hd
              obtain ⟨y, rfl⟩ := hx.ew
              have eg : a'.tmps[14]?.getD undef = _ := hd 2 14 rfl rfl
              first
              | (refine .inr ⟨unwanted_of (j := 2) (d := 14) rfl rfl eg (by rfl), ?_⟩; exact (rfl : (Mo.is undef).p undef y.on))
              | (refine .inr ⟨unwanted_und (j := 2) (d := 14) rfl rfl eg, ?_⟩; exact (rfl : (Mo.is undef).p undef y.on))
              | (have e16 : a'.tmps[16]?.getD undef = _ := hd 4 16 rfl rfl; refine .inl ⟨wanted_of (j := 2) (d := 14) rfl rfl eg, ?_⟩; clear hs hd hx eg; go_simp; exact ⟨Ext.refl _ _, rfl⟩)
            · intro a' w' hx hs hd
              obtain ⟨y, rfl⟩ := hx.ew
              have e14 : a'.tmps[14]?.getD undef = _ := hd 2 14 rfl rfl
              have e17 : a'.tmps[17]?.getD undef = _ := hd 5 17 rfl rfl
              refine .inl ⟨rfl, ?_⟩
              clear hs hd hx
              go_simp
              exact ⟨Ext.refl _ _, rfl⟩
            · intro a' w' hx hs hd
              obtain ⟨y, rfl⟩ := hx.ew
              have e18 : a'.tmps[18]?.getD undef = _ := hd 6 18 rfl rfl
              refine .inl ⟨rfl, ?_⟩
              clear hs hd hx
              go_simp
              exact ⟨Ext.refl _ _, rfl⟩
            · intro a' w' hx hs hd
              obtain ⟨y, rfl⟩ := hx.ew
              have eg : a'.tmps[19]?.getD undef = _ := hd 7 19 rfl rfl
              first
              | (refine .inr ⟨unwanted_of (j := 7) (d := 19) rfl rfl eg (by rfl), ?_⟩; exact (rfl : (Mo.is undef).p undef y.on))
              | (refine .inr ⟨unwanted_und (j := 7) (d := 19) rfl rfl eg, ?_⟩; exact (rfl : (Mo.is undef).p undef y.on))
              | (have e1 : a'.tmps[1]?.getD undef = _ := hs 1 rfl; simp only [List.getElem?_toArray, List.getElem?_cons_succ, List.getElem?_cons_zero, Option.getD_some, Array.getElem?_eq_some_iff] at e1; refine .inl ⟨wanted_of (j := 7) (d := 19) rfl rfl eg, ?_⟩; clear hs hd hx eg; go_simp; exact ⟨Ext.refl _ _, rfl⟩)
            · intro a' w' hx hs hd
              obtain ⟨y, rfl⟩ := hx.ew
              have eg : a'.tmps[19]?.getD undef = _ := hd 7 19 rfl rfl
              first
              | (refine .inr ⟨unwanted_of (j := 7) (d := 19) rfl rfl eg (by rfl), ?_⟩; exact (rfl : (Mo.is undef).p undef y.on))
              | (refine .inr ⟨unwanted_und (j := 7) (d := 19) rfl rfl eg, ?_⟩; exact (rfl : (Mo.is undef).p undef y.on))
              | (have e20 : a'.tmps[20]?.getD undef = _ := hd 8 20 rfl rfl; refine .inl ⟨wanted_of (j := 7) (d := 19) rfl rfl eg, ?_⟩; clear hs hd hx eg; go_simp; exact ⟨Ext.refl _ _, rfl⟩)
            · intro a' w' hx hs hd
              obtain ⟨y, rfl⟩ := hx.ew
              have eg : a'.tmps[19]?.getD undef = _ := hd 7 19 rfl rfl
              first
              | (refine .inr ⟨unwanted_of (j := 7) (d := 19) rfl rfl eg (by rfl), ?_⟩; exact (rfl : (Mo.is undef).p undef y.on))
              | (refine .inr ⟨unwanted_und (j := 7) (d := 19) rfl rfl eg, ?_⟩; exact (rfl : (Mo.is undef).p undef y.on))
              | (have e21 : a'.tmps[21]?.getD undef = _ := hd 9 21 rfl rfl; refine .inl ⟨wanted_of (j := 7) (d := 19) rfl rfl eg, ?_⟩; clear hs hd hx eg; go_simp; exact ⟨Ext.refl _ _, rfl⟩)
            · intro a' w' hx hs hd
              obtain ⟨y, rfl⟩ := hx.ew
              have eg : a'.tmps[19]?.getD undef = _ := hd 7 19 rfl rfl
              first
              | (refine .inr ⟨unwanted_of (j := 7) (d := 19) rfl rfl eg (by rfl), ?_⟩; exact (rfl : (Mo.is undef).p undef y.on))
              | (refine .inr ⟨unwanted_und (j := 7) (d := 19) rfl rfl eg, ?_⟩; exact (rfl : (Mo.is undef).p undef y.on))
              | (have e2 : a'.tmps[2]?.getD undef = _ := hs 2 rfl; simp only [List.getElem?_toArray, List.getElem?_cons_succ, List.getElem?_cons_zero, Option.getD_some, Array.getElem?_eq_some_iff] at e2; refine .inl ⟨wanted_of (j := 7) (d := 19) rfl rfl eg, ?_⟩; clear hs hd hx eg; go_simp; exact ⟨Ext.refl _ _, rfl⟩)
            · intro a' w' hx hs hd
              obtain ⟨y, rfl⟩ := hx.ew
              have eg : a'.tmps[19]?.getD undef = _ := hd 7 19 rfl rfl
              first
              | (refine .inr ⟨unwanted_of (j := 7) (d := 19) rfl rfl eg (by rfl), ?_⟩; exact (rfl : (Mo.is undef).p undef y.on))
              | (refine .inr ⟨unwanted_und (j := 7) (d := 19) rfl rfl eg, ?_⟩; exact (rfl : (Mo.is undef).p undef y.on))
              | (have e23 : a'.tmps[23]?.getD undef = _ := hd 11 23 rfl rfl; refine .inl ⟨wanted_of (j := 7) (d := 19) rfl rfl eg, ?_⟩; clear hs hd hx eg; go_simp; exact ⟨Ext.refl _ _, rfl⟩)
            · intro a' w' hx hs hd
              obtain ⟨y, rfl⟩ := hx.ew
              have eg : a'.tmps[19]?.getD undef = _ := hd 7 19 rfl rfl
              first
              | (refine .inr ⟨unwanted_of (j := 7) (d := 19) rfl rfl eg (by rfl), ?_⟩; exact (rfl : (Mo.is undef).p undef y.on))
              | (refine .inr ⟨unwanted_und (j := 7) (d := 19) rfl rfl eg, ?_⟩; exact (rfl : (Mo.is undef).p undef y.on))
              | (have e24 : a'.tmps[24]?.getD undef = _ := hd 12 24 rfl rfl; refine .inl ⟨wanted_of (j := 7) (d := 19) rfl rfl eg, ?_⟩; clear hs hd hx eg; go_simp; exact ⟨Ext.refl _ _, rfl⟩)
            · intro a' w' hx hs hd
              obtain ⟨y, rfl⟩ := hx.ew
              have eg : a'.tmps[19]?.getD undef = _ := hd 7 19 rfl rfl
              first
              | (refine .inr ⟨unwanted_of (j := 7) (d := 19) rfl rfl eg (by rfl), ?_⟩; exact (rfl : (Mo.is undef).p undef y.on))
              | (refine .inr ⟨unwanted_und (j := 7) (d := 19) rfl rfl eg, ?_⟩; exact (rfl : (Mo.is undef).p undef y.on))
              | (have e5 : a'.tmps[5]?.getD undef = _ := hs 5 rfl; simp only [List.getElem?_toArray, List.getElem?_cons_succ, List.getElem?_cons_zero, Option.getD_some, Array.getElem?_eq_some_iff] at e5; refine .inl ⟨wanted_of (j := 7) (d := 19) rfl rfl eg, ?_⟩; clear hs hd hx eg; go_simp; exact ⟨Ext.refl _ _, rfl⟩)
            · intro a' w' hx hs hd
              obtain ⟨y, rfl⟩ := hx.ew
              have eg : a'.tmps[19]?.getD undef = _ := hd 7 19 rfl rfl
              first
              | (refine .inr ⟨unwanted_of (j := 7) (d := 19) rfl rfl eg (by rfl), ?_⟩; exact (rfl : (Mo.is undef).p undef y.on))
              | (refine .inr ⟨unwanted_und (j := 7) (d := 19) rfl rfl eg, ?_⟩; exact (rfl : (Mo.is undef).p undef y.on))
              | (have e25 : a'.tmps[25]?.getD undef = _ := hd 13 25 rfl rfl; have e26 : a'.tmps[26]?.getD undef = _ := hd 14 26 rfl rfl; refine .inl ⟨wanted_of (j := 7) (d := 19) rfl rfl eg, ?_⟩; clear hs hd hx eg; go_simp; exact ⟨Ext.refl _ _, rfl⟩)
            · intro a' w' hx hs hd
              obtain ⟨y, rfl⟩ := hx.ew
              have eg : a'.tmps[19]?.getD undef = _ := hd 7 19 rfl rfl
              first
              | (refine .inr ⟨unwanted_of (j := 7) (d := 19) rfl rfl eg (by rfl), ?_⟩; exact (rfl : (Mo.is undef).p undef y.on))
              | (refine .inr ⟨unwanted_und (j := 7) (d := 19) rfl rfl eg, ?_⟩; exact (rfl : (Mo.is undef).p undef y.on))
              | (have e22 : a'.tmps[22]?.getD undef = _ := hd 10 22 rfl rfl; have e27 : a'.tmps[27]?.getD undef = _ := hd 15 27 rfl rfl; refine .inl ⟨wanted_of (j := 7) (d := 19) rfl rfl eg, ?_⟩; clear hs hd hx eg; go_simp; exact ⟨Ext.refl _ _, rfl⟩)
            · intro a' w' hx hs hd
              obtain ⟨y, rfl⟩ := hx.ew
              have e19 : a'.tmps[19]?.getD undef = _ := hd 7 19 rfl rfl
              have e28 : a'.tmps[28]?.getD undef = _ := hd 16 28 rfl rfl
              refine .inl ⟨rfl, ?_⟩
              clear hs hd hx
              go_simp
              exact ⟨Ext.refl _ _, rfl⟩
            · intro a' w' hx hs hd
              obtain ⟨y, rfl⟩ := hx.ew
              have e29 : a'.tmps[29]?.getD undef = _ := hd 17 29 rfl rfl
              refine .inl ⟨rfl, ?_⟩
              clear hs hd hx
              go_simp
              exact ⟨Ext.refl _ _, rfl⟩
          case' q6 =>
            intro vs w' hx hRR
            obtain ⟨x3, rfl⟩ := hx.ew
            have q0 : vs 0 = _ := hRR 0 (by decide)
            have q1 : vs 1 = _ := hRR 1 (by decide)
            have q2 : vs 2 = _ := hRR 2 (by decide)
            have q3 : vs 3 = _ := hRR 3 (by decide)
            have q4 : vs 4 = _ := hRR 4 (by decide)
            have q5 : vs 5 = _ := hRR 5 (by decide)
            have q6 : vs 6 = _ := hRR 6 (by decide)
            have q7 : vs 7 = _ := hRR 7 (by decide)
            have q8 : vs 8 = _ := hRR 8 (by decide)
            have q9 : vs 9 = _ := hRR 9 (by decide)
            have q10 : vs 10 = _ := hRR 10 (by decide)
            have q11 : vs 11 = _ := hRR 11 (by decide)
            have q12 : vs 12 = _ := hRR 12 (by decide)
            have q13 : vs 13 = _ := hRR 13 (by decide)
            have q14 : vs 14 = _ := hRR 14 (by decide)
            have q15 : vs 15 = _ := hRR 15 (by decide)
            have q16 : vs 16 = _ := hRR 16 (by decide)
            have q17 : vs 17 = _ := hRR 17 (by decide)
            have q18 : vs 18 = _ := hRR 18 (by decide)
            clear hRR hx
            simp only [putAll, List.take_succ_cons, List.take_zero, List.drop_succ_cons, List.drop_zero, Act.put, List.setIfInBounds_toArray, List.set_cons_zero, List.set_cons_succ, Nat.reduceAdd, Nat.zero_add]
            simp only [q0, q1, q2, q3, q4, q5, q6, q7, q8, q9, q10, q11, q12, q13, q14, q15, q16, q17, q18]
            clear q0 q1 q2 q3 q4 q5 q6 q7 q8 q9 q10 q11 q12 q13 q14 q15 q16 q17 q18 vs
          go_wp2
          go_returns
          exact ⟨ret_bool (by rw [HE.out]), X2.out.trans (by (repeat (first | with_reducible (first | exact Ext.refl _ _ | assumption | refine Ext.upN ?_ | refine Ext.alloc ?_ _ | refine Ext.drew ?_ | refine Ext.drewN ?_ _ | refine Ext.up1N (by first | omega | simp) ?_) | refine Ext.alloc ?_ _ | refine Ext.setCell ?_ (.inr (by first | omega | simp)) _)))⟩
      · have HE : Hid (signedB ⟨c, s, ⟨k, key, x, id'⟩⟩ l = false) := Go.Lib.hid (by rw [DS.out, DO.out, show decide (re = 0) = true from he]; simp [hb])
        apply wp_region_rel (relR [Mo.is _, Mo.is _, Mo.is _, Mo.is _, Mo.is _, Mo.is _, Mo.is _, Mo.is _, Mo.is _, Mo.is _, Mo.is _, Mo.is _, Mo.is _, Mo.is _, Mo.is _, Mo.is _, Mo.is _, Mo.is _, Mo.is _]) (by kernel_rfl) (by kernel_rfl) (by kernel_rfl) (relR_mono _) (StepD.all ?st7) ?q7
        case st7 =>
          refine ⟨?_, ?_, ?_, ?_, ?_, ?_, ?_, ?_, ?_, ?_, ?_, ?_, ?_, ?_, ?_, ?_, ?_, ?_, ?_, trivial⟩
          · intro a' w' hx hs hd
            obtain ⟨y, rfl⟩ := hx.ew
            have e6 : a'.tmps[6]?.getD undef = _ := hs 6 rfl
            simp only [List.getElem?_toArray, List.getElem?_cons_succ, List.getElem?_cons_zero, Option.getD_some, Array.getElem?_eq_some_iff] at e6
            refine .inl ⟨rfl, ?_⟩
            clear hs hd hx
            go_simp
            exact ⟨Ext.refl _ _, rfl⟩
          · intro a' w' hx hs hd
            obtain ⟨y, rfl⟩ := hx.ew
            have e12 : a'.tmps[12]?.getD undef = _ := hd 0 12 rfl rfl
            refine .inl ⟨rfl, ?_⟩
            clear hs hd hx
            go_simp
            exact ⟨Ext.refl _ _, rfl⟩
          · intro a' w' hx hs hd
            obtain ⟨y, rfl⟩ := hx.ew
            have e13 : a'.tmps[13]?.getD undef = _ := hd 1 13 rfl rfl
            refine .inl ⟨rfl, ?_⟩
            clear hs hd hx
            go_simp
            exact ⟨Ext.refl _ _, rfl⟩
          · intro a' w' hx hs hd
            obtain ⟨y, rfl⟩ := hx.ew
            have eg : a'.tmps[14]?.getD undef = _ := hd 2 14 rfl rfl
            first
            | (refine .inr ⟨unwanted_of (j := 2) (d := 14) rfl rfl eg (by rfl), ?_⟩; exact (rfl : (Mo.is undef).p undef y.on))
            | (refine .inr ⟨unwanted_und (j := 2) (d := 14) rfl rfl eg, ?_⟩; exact (rfl : (Mo.is undef).p undef y.on))
            | (have e1 : a'.tmps[1]?.getD undef = _ := hs 1 rfl; simp only [List.getElem?_toArray, List.getElem?_cons_succ, List.getElem?_cons_zero, Option.getD_some, Array.getElem?_eq_some_iff] at e1; refine .inl ⟨wanted_of (j := 2) (d := 14) rfl rfl eg, ?_⟩; clear hs hd hx eg; go_simp; exact ⟨Ext.refl _ _, rfl⟩)
          · intro a' w' hx hs hd
            obtain ⟨y, rfl⟩ := hx.ew
            have eg : a'.tmps[14]?.getD undef = _ := hd 2 14 rfl rfl
            first
            | (refine .inr ⟨unwanted_of (j := 2) (d := 14) rfl rfl eg (by rfl), ?_⟩; exact (rfl : (Mo.is undef).p undef y.on))
            | (refine .inr ⟨unwanted_und (j := 2) (d := 14) rfl rfl eg, ?_⟩; exact (rfl : (Mo.is undef).p undef y.on))
            | (have e15 : a'.tmps[15]?.getD undef = _ := hd 3 15 rfl rfl; refine .inl ⟨wanted_of (j := 2) (d := 14) rfl rfl eg, ?_⟩; clear hs hd hx eg; go_simp; exact ⟨Ext.refl _ _, rfl⟩)
          · intro a' w' hx hs hd
            obtain ⟨y, rfl⟩ := hx.ew
            have eg : a'.tmps[14]?.getD undef = _ := hd 2 14 rfl rfl
            first
            | (refine .inr ⟨unwanted_of (j := 2) (d := 14) rfl rfl eg (by rfl), ?_⟩; exact (rfl : (Mo.is undef).p undef y.on))
            | (refine .inr ⟨unwanted_und (j := 2) (d := 14) rfl rfl eg, ?_⟩; exact (rfl : (Mo.is undef).p undef y.on))
            | (have e16 : a'.tmps[16]?.getD undef = _ := hd 4 16 rfl rfl; refine .inl ⟨wanted_of (j := 2) (d := 14) rfl rfl eg, ?_⟩; clear hs hd hx eg; go_simp; exact ⟨Ext.refl _ _, rfl⟩)
          · intro a' w' hx hs hd
            obtain ⟨y, rfl⟩ := hx.ew
            have e14 : a'.tmps[14]?.getD undef = _ := hd 2 14 rfl rfl
            have e17 : a'.tmps[17]?.getD undef = _ := hd 5 17 rfl rfl
            refine .inl ⟨rfl, ?_⟩
            clear hs hd hx
            go_simp
            exact ⟨Ext.refl _ _, rfl⟩
          · intro a' w' hx hs hd
            obtain ⟨y, rfl⟩ := hx.ew
            have e18 : a'.tmps[18]?.getD undef = _ := hd 6 18 rfl rfl
            refine .inl ⟨rfl, ?_⟩
            clear hs hd hx
            go_simp
            exact ⟨Ext.refl _ _, rfl⟩
          · intro a' w' hx hs hd
            obtain ⟨y, rfl⟩ := hx.ew
            have eg : a'.tmps[19]?.getD undef = _ := hd 7 19 rfl rfl
            first
            | (refine .inr ⟨unwanted_of (j := 7) (d := 19) rfl rfl eg (by rfl), ?_⟩; exact (rfl : (Mo.is undef).p undef y.on))
            | (refine .inr ⟨unwanted_und (j := 7) (d := 19) rfl rfl eg, ?_⟩; exact (rfl : (Mo.is undef).p undef y.on))
            | (have e1 : a'.tmps[1]?.getD undef = _ := hs 1 rfl; simp only [List.getElem?_toArray, List.getElem?_cons_succ, List.getElem?_cons_zero, Option.getD_some, Array.getElem?_eq_some_iff] at e1; refine .inl ⟨wanted_of (j := 7) (d := 19) rfl rfl eg, ?_⟩; clear hs hd hx eg; go_simp; exact ⟨Ext.refl _ _, rfl⟩)
          · intro a' w' hx hs hd
            obtain ⟨y, rfl⟩ := hx.ew
            have eg : a'.tmps[19]?.getD undef = _ := hd 7 19 rfl rfl
            first
            | (refine .inr ⟨unwanted_of (j := 7) (d := 19) rfl rfl eg (by rfl), ?_⟩; exact (rfl : (Mo.is undef).p undef y.on))
            | (refine .inr ⟨unwanted_und (j := 7) (d := 19) rfl rfl eg, ?_⟩; exact (rfl : (Mo.is undef).p undef y.on))
            | (have e20 : a'.tmps[20]?.getD undef = _ := hd 8 20 rfl rfl; refine .inl ⟨wanted_of (j := 7) (d := 19) rfl rfl eg, ?_⟩; clear hs hd hx eg; go_simp; exact ⟨Ext.refl _ _, rfl⟩)
          · intro a' w' hx hs hd
            obtain ⟨y, rfl⟩ := hx.ew
            have eg : a'.tmps[19]?.getD undef = _ := hd 7 19 rfl rfl
            first
            | (refine .inr ⟨unwanted_of (j := 7) (d := 19) rfl rfl eg (by rfl), ?_⟩; exact (rfl : (Mo.is undef).p undef y.on))
            | (refine .inr ⟨unwanted_und (j := 7) (d := 19) rfl rfl eg, ?_⟩; exact (rfl : (Mo.is undef).p undef y.on))
            | (have e21 : a'.tmps[21]?.getD undef = _ := hd 9 21 rfl rfl; refine .inl ⟨wanted_of (j := 7) (d := 19) rfl rfl eg, ?_⟩; clear hs hd hx eg; go_simp; exact ⟨Ext.refl _ _, rfl⟩)
          · intro a' w' hx hs hd
            obtain ⟨y, rfl⟩ := hx.ew
            have eg : a'.tmps[19]?.getD undef = _ := hd 7 19 rfl rfl
            first
            | (refine .inr ⟨unwanted_of (j := 7) (d := 19) rfl rfl eg (by rfl), ?_⟩; exact (rfl : (Mo.is undef).p undef y.on))
            | (refine .inr ⟨unwanted_und (j := 7) (d := 19) rfl rfl eg, ?_⟩; exact (rfl : (Mo.is undef).p undef y.on))
            | (have e2 : a'.tmps[2]?.getD undef = _ := hs 2 rfl; simp only [List.getElem?_toArray, List.getElem?_cons_succ, List.getElem?_cons_zero, Option.getD_some, Array.getElem?_eq_some_iff] at e2; refine .inl ⟨wanted_of (j := 7) (d := 19) rfl rfl eg, ?_⟩; clear hs hd hx eg; go_simp; exact ⟨Ext.refl _ _, rfl⟩)
          · intro a' w' hx hs hd
            obtain ⟨y, rfl⟩ := hx.ew
            have eg : a'.tmps[19]?.getD undef = _ := hd 7 19 rfl rfl
            first
            | (refine .inr ⟨unwanted_of (j := 7) (d := 19) rfl rfl eg (by rfl), ?_⟩; exact (rfl : (Mo.is undef).p undef y.on))
            | (refine .inr ⟨unwanted_und (j := 7) (d := 19) rfl rfl eg, ?_⟩; exact (rfl : (Mo.is undef).p undef y.on))
            | (have e23 : a'.tmps[23]?.getD undef = _ := hd 11 23 rfl rfl; refine .inl ⟨wanted_of (j := 7) (d := 19) rfl rfl eg, ?_⟩; clear hs hd hx eg; go_simp; exact ⟨Ext.refl _ _, rfl⟩)
          · intro a' w' hx hs hd
            obtain ⟨y, rfl⟩ := hx.ew
            have eg : a'.tmps[19]?.getD undef = _ := hd 7 19 rfl rfl
            first
            | (refine .inr ⟨unwanted_of (j := 7) (d := 19) rfl rfl eg (by rfl), ?_⟩; exact (rfl : (Mo.is undef).p undef y.on))
            | (refine .inr ⟨unwanted_und (j := 7) (d := 19) rfl rfl eg, ?_⟩; exact (rfl : (Mo.is undef).p undef y.on))
            | (have e24 : a'.tmps[24]?.getD undef = _ := hd 12 24 rfl rfl; refine .inl ⟨wanted_of (j := 7) (d := 19) rfl rfl eg, ?_⟩; clear hs hd hx eg; go_simp; exact ⟨Ext.refl _ _, rfl⟩)
          · intro a' w' hx hs hd
            obtain ⟨y, rfl⟩ := hx.ew
            have eg : a'.tmps[19]?.getD undef = _ := hd 7 19 rfl rfl
            first
            | (refine .inr ⟨unwanted_of (j := 7) (d := 19) rfl rfl eg (by rfl), ?_⟩; exact (rfl : (Mo.is undef).p undef y.on))
            | (refine .inr ⟨unwanted_und (j := 7) (d := 19) rfl rfl eg, ?_⟩; exact (rfl : (Mo.is undef).p undef y.on))
            | (have e5 : a'.tmps[5]?.getD undef = _ := hs 5 rfl; simp only [List.getElem?_toArray, List.getElem?_cons_succ, List.getElem?_cons_zero, Option.getD_some, Array.getElem?_eq_some_iff] at e5; refine .inl ⟨wanted_of (j := 7) (d := 19) rfl rfl eg, ?_⟩; clear hs hd hx eg; go_simp; exact ⟨Ext.refl _ _, rfl⟩)
          · intro a' w' hx hs hd
            obtain ⟨y, rfl⟩ := hx.ew
            have eg : a'.tmps[19]?.getD undef = _ := hd 7 19 rfl rfl
            first
            | (refine .inr ⟨unwanted_of (j := 7) (d := 19) rfl rfl eg (by rfl), ?_⟩; exact (rfl : (Mo.is undef).p undef y.on))
            | (refine .inr ⟨unwanted_und (j := 7) (d := 19) rfl rfl eg, ?_⟩; exact (rfl : (Mo.is undef).p undef y.on))
            | (have e25 : a'.tmps[25]?.getD undef = _ := hd 13 25 rfl rfl; have e26 : a'.tmps[26]?.getD undef = _ := hd 14 26 rfl rfl; refine .inl ⟨wanted_of (j := 7) (d := 19) rfl rfl eg, ?_⟩; clear hs hd hx eg; go_simp; exact ⟨Ext.refl _ _, rfl⟩)
          · intro a' w' hx hs hd
            obtain ⟨y, rfl⟩ := hx.ew
            have eg : a'.tmps[19]?.getD undef = _ := hd 7 19 rfl rfl
            first
            | (refine .inr ⟨unwanted_of (j := 7) (d := 19) rfl rfl eg (by rfl), ?_⟩; exact (rfl : (Mo.is undef).p undef y.on))
            | (refine .inr ⟨unwanted_und (j := 7) (d := 19) rfl rfl eg, ?_⟩; exact (rfl : (Mo.is undef).p undef y.on))
            | (have e22 : a'.tmps[22]?.getD undef = _ := hd 10 22 rfl rfl; have e27 : a'.tmps[27]?.getD undef = _ := hd 15 27 rfl rfl; refine .inl ⟨wanted_of (j := 7) (d := 19) rfl rfl eg, ?_⟩; clear hs hd hx eg; go_simp; exact ⟨Ext.refl _ _, rfl⟩)
          · intro a' w' hx hs hd
            obtain ⟨y, rfl⟩ := hx.ew
            have e19 : a'.tmps[19]?.getD undef = _ := hd 7 19 rfl rfl
            have e28 : a'.tmps[28]?.getD undef = _ := hd 16 28 rfl rfl
            refine .inl ⟨rfl, ?_⟩
            clear hs hd hx
            go_simp
            exact ⟨Ext.refl _ _, rfl⟩
          · intro a' w' hx hs hd
            obtain ⟨y, rfl⟩ := hx.ew
            have e29 : a'.tmps[29]?.getD undef = _ := hd 17 29 rfl rfl
            refine .inl ⟨rfl, ?_⟩
            clear hs hd hx
            go_simp
            exact ⟨Ext.refl _ _, rfl⟩
        case' q7 =>
          intro vs w' hx hRR
          obtain ⟨x3, rfl⟩ := hx.ew
          have q0 : vs 0 = _ := hRR 0 (by decide)
          have q1 : vs 1 = _ := hRR 1 (by decide)
          have q2 : vs 2 = _ := hRR 2 (by decide)
          have q3 : vs 3 = _ := hRR 3 (by decide)
          have q4 : vs 4 = _ := hRR 4 (by decide)
          have q5 : vs 5 = _ := hRR 5 (by decide)
          have q6 : vs 6 = _ := hRR 6 (by decide)
          have q7 : vs 7 = _ := hRR 7 (by decide)
          have q8 : vs 8 = _ := hRR 8 (by decide)
          have q9 : vs 9 = _ := hRR 9 (by decide)
          have q10 : vs 10 = _ := hRR 10 (by decide)
          have q11 : vs 11 = _ := hRR 11 (by decide)
          have q12 : vs 12 = _ := hRR 12 (by decide)
          have q13 : vs 13 = _ := hRR 13 (by decide)
          have q14 : vs 14 = _ := hRR 14 (by decide)
          have q15 : vs 15 = _ := hRR 15 (by decide)
          have q16 : vs 16 = _ := hRR 16 (by decide)
          have q17 : vs 17 = _ := hRR 17 (by decide)
          have q18 : vs 18 = _ := hRR 18 (by decide)
          clear hRR hx
          simp only [putAll, List.take_succ_cons, List.take_zero, List.drop_succ_cons, List.drop_zero, Act.put, List.setIfInBounds_toArray, List.set_cons_zero, List.set_cons_succ, Nat.reduceAdd, Nat.zero_add]
          simp only [q0, q1, q2, q3, q4, q5, q6, q7, q8, q9, q10, q11, q12, q13, q14, q15, q16, q17, q18]
          clear q0 q1 q2 q3 q4 q5 q6 q7 q8 q9 q10 q11 q12 q13 q14 q15 q16 q17 q18 vs
        go_wp2
        go_returns
        exact ⟨ret_bool (by rw [HE.out]), X2.out.trans (by (repeat (first | with_reducible (first | exact Ext.refl _ _ | assumption | refine Ext.upN ?_ | refine Ext.alloc ?_ _ | refine Ext.drew ?_ | refine Ext.drewN ?_ _ | refine Ext.up1N (by first | omega | simp) ?_) | refine Ext.alloc ?_ _ | refine Ext.setCell ?_ (.inr (by first | omega | simp)) _)))⟩
end Go.Proofs.YtflpkoafebjfdaaGreat
