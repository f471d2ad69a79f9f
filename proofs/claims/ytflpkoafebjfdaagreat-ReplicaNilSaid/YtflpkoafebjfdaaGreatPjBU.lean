/- Joined texts: Liv1. What each proves stands at its head; no conditions beside those in its theorems. -/
import Derived.Laws.CopyOwn
import Derived.Deep.OwnRows
import Derived.Deep.RegionLaw
import Derived.Test.YtflpkoafebjfdaaGreatProg
import Derived.Shelf.SlIter.Nil
import Derived.Shelf.SortM.Plain
import Derived.Shelf.SortM.SortNone
import Derived.Ground.GgzProg
import Derived.Ground.SlgmProg
import Derived.Test.YtflpkoafebjfdaaGreatPjBT
/- What lives() needs of do: nothing is voted, nothing is committed. -/
namespace Go.Proofs.YtflpkoafebjfdaaGreat
open Go.RowKit Go.Lib F64
set_option linter.unusedSimpArgs false
set_option linter.unusedVariables false
attribute [local go_sem] run_store_float
attribute [local go_sem low] EW.cellN EW.frozN alloc_cell_or alloc_froz_or
attribute [local go_sem] relAt relUpon
section
variable {b : Nat} {col : Nat → Nat} {A : RA} {g : Rp}
set_option maxHeartbeats 1000000 in
set_option maxRecDepth 100000 in
theorem votes_Settled0 {w : World} {t : Tl} {a : Option Addr} {c m1 m2 : Nat} {vs : List (Int × (Vo × (Option Addr × Nat)))} (h : TlP w col b t a c m1 m2 vs) (h0 : t.votes = []) : Calls Tryz.prog 279 #[.pointer (some ⟨b, 0, none⟩)] w fun e w' =>
    e = .returned (.tuple #[.agg #[.string ⟨#[]⟩, .slice none 0 0, .int .i64 0, .slice none 0 0, .slice none 0 0], .bool false]) ∧ Ext Non w w' := by
  have hvs : vs = [] := by have := h.dr; rw [h0] at this; unfold dropA at this; exact List.map_eq_nil_iff.1 this
  subst hvs
  have HT := Go.Lib.hid h
  have hm10 : t.mem.length ≤ 10 := (conf_len10 h.inv.conf).2
  obtain ⟨n0, hn0⟩ : ∃ n0, n0 = w.heap.size := ⟨_, rfl⟩
  have HN0 := Go.Lib.hid hn0
  have XA := Go.Lib.hid ((Ext.refl Non w).alloc (.cells #[.string ⟨#[]⟩, .slice none 0 0, .int .i64 0, .slice none 0 0, .slice none 0 0] 106))
  have BR0 := Go.Lib.hid (Bx.newAt w [.string ⟨#[]⟩, .slice none 0 0, .int .i64 0, .slice none 0 0, .slice none 0 0] 106 n0 hn0)
  have XB := Go.Lib.hid ((Ext.refl Non (w.alloc (.cells #[.string ⟨#[]⟩, .slice none 0 0, .int .i64 0, .slice none 0 0, .slice none 0 0] 106))).alloc (.cells #[.string ⟨#[]⟩, .slice none 0 0, .int .i64 0, .slice none 0 0, .slice none 0 0] 106))
  have BO0 := Go.Lib.hid (Bx.newAt (w.alloc (.cells #[.string ⟨#[]⟩, .slice none 0 0, .int .i64 0, .slice none 0 0, .slice none 0 0] 106)) [.string ⟨#[]⟩, .slice none 0 0, .int .i64 0, .slice none 0 0, .slice none 0 0] 106 (n0 + 1) (by rw [hn0]; show _ = (w.heap.push _).size; rw [Array.size_push]))
  clear h
  go_enter Tryz.func279, Tryz.ntmps279
  go_upto_region 4 with fail
  rw [← hn0]
  clear hn0
  generalize World.alloc w _ = W0 at *
  generalize World.alloc W0 _ = W1 at *
  have X1 := Go.Lib.hid (XA.out.trans XB.out)
  have BR1 := Go.Lib.hid (BR0.out.extN XB.out)
  have BO1 := Go.Lib.hid BO0.out
  have T1 := Go.Lib.hid (HT.out.upN X1.out)
  clear XA XB BR0 BO0
  obtain ⟨q0, q1⟩ : _ ∧ _ := ⟨T1.out.h.cell (j := 0) rfl, T1.out.h.cell (j := 1) rfl⟩
  go_wp2_with fail
  clear q0 q1
  go_loopw [18] (fun iv wr => ∃ (i : Nat), i ≤ t.mem.length ∧ iv = .int .i64 i ∧ Hid (Ext Non w wr) ∧ Hid (TlP wr col b t a c m1 m2 []) ∧ Hid (Bx wr n0 [.string ⟨#[]⟩, .slice none 0 0, .int .i64 0, .slice none 0 0, .slice none 0 0] 106) ∧ Hid (Bx wr (n0 + 1) [.string ⟨#[]⟩, .slice none 0 0, .int .i64 0, .slice none 0 0, .slice none 0 0] 106)) (fun iv _ => t.mem.length - (intOf iv).toNat)
  case atStart => exact ⟨0, Nat.zero_le _, rfl, X1, T1, BR1, BO1⟩
  case round =>
    clear X1 T1 BR1 BO1
    obtain ⟨i, hi, rfl, X, T, BR, BO⟩ := hrel
    by_cases hlt : i < t.mem.length
    · obtain ⟨cb, co, hca, cx, hxi⟩ := T.out.ints.show.at_ i hlt
      generalize t.mem[i] = x at *
      clear hxi
      rw [hca]
      have hlk : (Instr.lookup 234 (.map (some m1)) (.int .i64 x) true).run Tryz.prog wr = .ok (.tuple #[voV zeroVo, .bool false]) wr :=
        MapG.lookup (E := voE) Tryz.underlying234 Tryz.underlying3 (zero_vo _) T.out.mv x
      have q2 : wr.cell? ⟨b, 2, none⟩ = some (.map (some m1)) := T.out.h.cell (j := 2) rfl
      unfold voV zeroVo at hlk
      try dsimp only [List.length_nil] at hlk
      have X2 := Go.Lib.hid ((Ext.refl Non wr).alloc (.cells #[.string ⟨#[]⟩, .string ⟨#[]⟩, .string ⟨#[]⟩, .slice none 0 0] 318))
      go_upto_region 8 with fail
      clear hlk q2 cx
      generalize World.alloc wr _ = w2 at *
      have XX2 := Go.Lib.hid (X.out.trans X2.out); have T2 := Go.Lib.hid (T.out.upN X2.out); have BR2 := Go.Lib.hid (BR.out.extN X2.out); have BO2 := Go.Lib.hid (BO.out.extN X2.out)
      clear X T BR BO X2
      apply wp_region_rel (relR [Mo.is _, Mo.is _, Mo.is _, Mo.is _, Mo.is _, Mo.is _, Mo.is _, Mo.is _, Mo.is _, Mo.is _, Mo.is _, Mo.is _, Mo.is _, Mo.is _, Mo.is _, Mo.is _, Mo.is _, Mo.is _, Mo.is _]) (by kernel_rfl) (by kernel_rfl) (by kernel_rfl) (relR_mono _) (StepD.all ?st30) ?q30
      case st30 =>
        refine ⟨?_, ?_, ?_, ?_, ?_, ?_, ?_, ?_, ?_, ?_, ?_, ?_, ?_, ?_, ?_, ?_, ?_, ?_, ?_, trivial⟩
        · intro a' w' hx hs hd
          obtain ⟨y, rfl⟩ := hx.ew
          have e8 : a'.tmps[8]?.getD undef = _ := hs 8 rfl
          simp only [List.getElem?_toArray, List.getElem?_cons_succ, List.getElem?_cons_zero, Option.getD_some, Array.getElem?_eq_some_iff] at e8
          refine .inl ⟨rfl, ?_⟩
          clear hs hd hx
          go_simp
          exact ⟨Ext.refl _ _, rfl⟩
        · intro a' w' hx hs hd
          obtain ⟨y, rfl⟩ := hx.ew
          have e31 : a'.tmps[31]?.getD undef = _ := hd 0 31 rfl rfl
          refine .inl ⟨rfl, ?_⟩
          clear hs hd hx
          go_simp
          exact ⟨Ext.refl _ _, rfl⟩
        · intro a' w' hx hs hd
          obtain ⟨y, rfl⟩ := hx.ew
          have e32 : a'.tmps[32]?.getD undef = _ := hd 1 32 rfl rfl
          refine .inl ⟨rfl, ?_⟩
          clear hs hd hx
          go_simp
          exact ⟨Ext.refl _ _, rfl⟩
        · intro a' w' hx hs hd
          obtain ⟨y, rfl⟩ := hx.ew
          have eg : a'.tmps[33]?.getD undef = _ := hd 2 33 rfl rfl
          first
          | (refine .inr ⟨unwanted_of (j := 2) (d := 33) rfl rfl eg (by rfl), ?_⟩; exact (rfl : (Mo.is undef).p undef y.on))
          | (refine .inr ⟨unwanted_und (j := 2) (d := 33) rfl rfl eg, ?_⟩; exact (rfl : (Mo.is undef).p undef y.on))
          | (have e0 : a'.tmps[0]?.getD undef = _ := hs 0 rfl; simp only [List.getElem?_toArray, List.getElem?_cons_succ, List.getElem?_cons_zero, Option.getD_some, Array.getElem?_eq_some_iff] at e0; refine .inl ⟨wanted_of (j := 2) (d := 33) rfl rfl eg, ?_⟩; clear hs hd hx eg; go_simp; exact ⟨Ext.refl _ _, rfl⟩)
        · intro a' w' hx hs hd
          obtain ⟨y, rfl⟩ := hx.ew
          have eg : a'.tmps[33]?.getD undef = _ := hd 2 33 rfl rfl
          first
          | (refine .inr ⟨unwanted_of (j := 2) (d := 33) rfl rfl eg (by rfl), ?_⟩; exact (rfl : (Mo.is undef).p undef y.on))
          | (refine .inr ⟨unwanted_und (j := 2) (d := 33) rfl rfl eg, ?_⟩; exact (rfl : (Mo.is undef).p undef y.on))
          | (have e34 : a'.tmps[34]?.getD undef = _ := hd 3 34 rfl rfl; refine .inl ⟨wanted_of (j := 2) (d := 33) rfl rfl eg, ?_⟩; clear hs hd hx eg; go_simp; exact ⟨Ext.refl _ _, rfl⟩)
        · intro a' w' hx hs hd
          obtain ⟨y, rfl⟩ := hx.ew
          have eg : a'.tmps[33]?.getD undef = _ := hd 2 33 rfl rfl
          first
          | (refine .inr ⟨unwanted_of (j := 2) (d := 33) rfl rfl eg (by rfl), ?_⟩; exact (rfl : (Mo.is undef).p undef y.on))
          | (refine .inr ⟨unwanted_und (j := 2) (d := 33) rfl rfl eg, ?_⟩; exact (rfl : (Mo.is undef).p undef y.on))
          | (have e35 : a'.tmps[35]?.getD undef = _ := hd 4 35 rfl rfl; refine .inl ⟨wanted_of (j := 2) (d := 33) rfl rfl eg, ?_⟩; clear hs hd hx eg; go_simp; exact ⟨Ext.refl _ _, rfl⟩)
        · intro a' w' hx hs hd
          obtain ⟨y, rfl⟩ := hx.ew
          have eg : a'.tmps[33]?.getD undef = _ := hd 2 33 rfl rfl
          first
          | (refine .inr ⟨unwanted_of (j := 2) (d := 33) rfl rfl eg (by rfl), ?_⟩; exact (rfl : (Mo.is undef).p undef y.on))
          | (refine .inr ⟨unwanted_und (j := 2) (d := 33) rfl rfl eg, ?_⟩; exact (rfl : (Mo.is undef).p undef y.on))
          | (have e36 : a'.tmps[36]?.getD undef = _ := hd 5 36 rfl rfl; refine .inl ⟨wanted_of (j := 2) (d := 33) rfl rfl eg, ?_⟩; clear hs hd hx eg; go_simp; exact ⟨Ext.refl _ _, rfl⟩)
        · intro a' w' hx hs hd
          obtain ⟨y, rfl⟩ := hx.ew
          have eg : a'.tmps[33]?.getD undef = _ := hd 2 33 rfl rfl
          first
          | (refine .inr ⟨unwanted_of (j := 2) (d := 33) rfl rfl eg (by rfl), ?_⟩; exact (rfl : (Mo.is undef).p undef y.on))
          | (refine .inr ⟨unwanted_und (j := 2) (d := 33) rfl rfl eg, ?_⟩; exact (rfl : (Mo.is undef).p undef y.on))
          | (have e7 : a'.tmps[7]?.getD undef = _ := hs 7 rfl; simp only [List.getElem?_toArray, List.getElem?_cons_succ, List.getElem?_cons_zero, Option.getD_some, Array.getElem?_eq_some_iff] at e7; refine .inl ⟨wanted_of (j := 2) (d := 33) rfl rfl eg, ?_⟩; clear hs hd hx eg; go_simp; exact ⟨Ext.refl _ _, rfl⟩)
        · intro a' w' hx hs hd
          obtain ⟨y, rfl⟩ := hx.ew
          have eg : a'.tmps[33]?.getD undef = _ := hd 2 33 rfl rfl
          first
          | (refine .inr ⟨unwanted_of (j := 2) (d := 33) rfl rfl eg (by rfl), ?_⟩; exact (rfl : (Mo.is undef).p undef y.on))
          | (refine .inr ⟨unwanted_und (j := 2) (d := 33) rfl rfl eg, ?_⟩; exact (rfl : (Mo.is undef).p undef y.on))
          | (have e38 : a'.tmps[38]?.getD undef = _ := hd 7 38 rfl rfl; refine .inl ⟨wanted_of (j := 2) (d := 33) rfl rfl eg, ?_⟩; clear hs hd hx eg; go_simp; exact ⟨Ext.refl _ _, rfl⟩)
        · intro a' w' hx hs hd
          obtain ⟨y, rfl⟩ := hx.ew
          have eg : a'.tmps[33]?.getD undef = _ := hd 2 33 rfl rfl
          first
          | (refine .inr ⟨unwanted_of (j := 2) (d := 33) rfl rfl eg (by rfl), ?_⟩; exact (rfl : (Mo.is undef).p undef y.on))
          | (refine .inr ⟨unwanted_und (j := 2) (d := 33) rfl rfl eg, ?_⟩; exact (rfl : (Mo.is undef).p undef y.on))
          | (have e37 : a'.tmps[37]?.getD undef = _ := hd 6 37 rfl rfl; have e39 : a'.tmps[39]?.getD undef = _ := hd 8 39 rfl rfl; refine .inl ⟨wanted_of (j := 2) (d := 33) rfl rfl eg, ?_⟩; clear hs hd hx eg; go_simp; exact ⟨Ext.refl _ _, rfl⟩)
        · intro a' w' hx hs hd
          obtain ⟨y, rfl⟩ := hx.ew
          have eg : a'.tmps[33]?.getD undef = _ := hd 2 33 rfl rfl
          first
          | (refine .inr ⟨unwanted_of (j := 2) (d := 33) rfl rfl eg (by rfl), ?_⟩; exact (rfl : (Mo.is undef).p undef y.on))
          | (refine .inr ⟨unwanted_und (j := 2) (d := 33) rfl rfl eg, ?_⟩; exact (rfl : (Mo.is undef).p undef y.on))
          | (have e0 : a'.tmps[0]?.getD undef = _ := hs 0 rfl; simp only [List.getElem?_toArray, List.getElem?_cons_succ, List.getElem?_cons_zero, Option.getD_some, Array.getElem?_eq_some_iff] at e0; refine .inl ⟨wanted_of (j := 2) (d := 33) rfl rfl eg, ?_⟩; clear hs hd hx eg; go_simp; exact ⟨Ext.refl _ _, rfl⟩)
        · intro a' w' hx hs hd
          obtain ⟨y, rfl⟩ := hx.ew
          have eg : a'.tmps[33]?.getD undef = _ := hd 2 33 rfl rfl
          first
          | (refine .inr ⟨unwanted_of (j := 2) (d := 33) rfl rfl eg (by rfl), ?_⟩; exact (rfl : (Mo.is undef).p undef y.on))
          | (refine .inr ⟨unwanted_und (j := 2) (d := 33) rfl rfl eg, ?_⟩; exact (rfl : (Mo.is undef).p undef y.on))
          | (have e41 : a'.tmps[41]?.getD undef = _ := hd 10 41 rfl rfl; refine .inl ⟨wanted_of (j := 2) (d := 33) rfl rfl eg, ?_⟩; clear hs hd hx eg; go_simp; exact ⟨Ext.refl _ _, rfl⟩)
        · intro a' w' hx hs hd
          obtain ⟨y, rfl⟩ := hx.ew
          have eg : a'.tmps[33]?.getD undef = _ := hd 2 33 rfl rfl
          first
          | (refine .inr ⟨unwanted_of (j := 2) (d := 33) rfl rfl eg (by rfl), ?_⟩; exact (rfl : (Mo.is undef).p undef y.on))
          | (refine .inr ⟨unwanted_und (j := 2) (d := 33) rfl rfl eg, ?_⟩; exact (rfl : (Mo.is undef).p undef y.on))
          | (have e42 : a'.tmps[42]?.getD undef = _ := hd 11 42 rfl rfl; refine .inl ⟨wanted_of (j := 2) (d := 33) rfl rfl eg, ?_⟩; clear hs hd hx eg; go_simp; exact ⟨Ext.refl _ _, rfl⟩)
        · intro a' w' hx hs hd
          obtain ⟨y, rfl⟩ := hx.ew
          have eg : a'.tmps[33]?.getD undef = _ := hd 2 33 rfl rfl
          first
          | (refine .inr ⟨unwanted_of (j := 2) (d := 33) rfl rfl eg (by rfl), ?_⟩; exact (rfl : (Mo.is undef).p undef y.on))
          | (refine .inr ⟨unwanted_und (j := 2) (d := 33) rfl rfl eg, ?_⟩; exact (rfl : (Mo.is undef).p undef y.on))
          | (have e43 : a'.tmps[43]?.getD undef = _ := hd 12 43 rfl rfl; refine .inl ⟨wanted_of (j := 2) (d := 33) rfl rfl eg, ?_⟩; clear hs hd hx eg; go_simp; exact ⟨Ext.refl _ _, rfl⟩)
        · intro a' w' hx hs hd
          obtain ⟨y, rfl⟩ := hx.ew
          have eg : a'.tmps[33]?.getD undef = _ := hd 2 33 rfl rfl
          first
          | (refine .inr ⟨unwanted_of (j := 2) (d := 33) rfl rfl eg (by rfl), ?_⟩; exact (rfl : (Mo.is undef).p undef y.on))
          | (refine .inr ⟨unwanted_und (j := 2) (d := 33) rfl rfl eg, ?_⟩; exact (rfl : (Mo.is undef).p undef y.on))
          | (have e44 : a'.tmps[44]?.getD undef = _ := hd 13 44 rfl rfl; refine .inl ⟨wanted_of (j := 2) (d := 33) rfl rfl eg, ?_⟩; clear hs hd hx eg; go_simp; exact ⟨Ext.refl _ _, rfl⟩)
        · intro a' w' hx hs hd
          obtain ⟨y, rfl⟩ := hx.ew
          have eg : a'.tmps[33]?.getD undef = _ := hd 2 33 rfl rfl
          first
          | (refine .inr ⟨unwanted_of (j := 2) (d := 33) rfl rfl eg (by rfl), ?_⟩; exact (rfl : (Mo.is undef).p undef y.on))
          | (refine .inr ⟨unwanted_und (j := 2) (d := 33) rfl rfl eg, ?_⟩; exact (rfl : (Mo.is undef).p undef y.on))
          | (have e45 : a'.tmps[45]?.getD undef = _ := hd 14 45 rfl rfl; refine .inl ⟨wanted_of (j := 2) (d := 33) rfl rfl eg, ?_⟩; clear hs hd hx eg; go_simp; exact ⟨Ext.refl _ _, rfl⟩)
        · intro a' w' hx hs hd
          obtain ⟨y, rfl⟩ := hx.ew
          have eg : a'.tmps[33]?.getD undef = _ := hd 2 33 rfl rfl
          first
          | (refine .inr ⟨unwanted_of (j := 2) (d := 33) rfl rfl eg (by rfl), ?_⟩; exact (rfl : (Mo.is undef).p undef y.on))
          | (refine .inr ⟨unwanted_und (j := 2) (d := 33) rfl rfl eg, ?_⟩; exact (rfl : (Mo.is undef).p undef y.on))
          | (have e46 : a'.tmps[46]?.getD undef = _ := hd 15 46 rfl rfl; refine .inl ⟨wanted_of (j := 2) (d := 33) rfl rfl eg, ?_⟩; clear hs hd hx eg; go_simp; exact ⟨Ext.refl _ _, rfl⟩)
        · intro a' w' hx hs hd
          obtain ⟨y, rfl⟩ := hx.ew
          have eg : a'.tmps[33]?.getD undef = _ := hd 2 33 rfl rfl
          first
          | (refine .inr ⟨unwanted_of (j := 2) (d := 33) rfl rfl eg (by rfl), ?_⟩; exact (rfl : (Mo.is undef).p undef y.on))
          | (refine .inr ⟨unwanted_und (j := 2) (d := 33) rfl rfl eg, ?_⟩; exact (rfl : (Mo.is undef).p undef y.on))
          | (have e40 : a'.tmps[40]?.getD undef = _ := hd 9 40 rfl rfl; have e47 : a'.tmps[47]?.getD undef = _ := hd 16 47 rfl rfl; refine .inl ⟨wanted_of (j := 2) (d := 33) rfl rfl eg, ?_⟩; clear hs hd hx eg; go_simp; exact ⟨Ext.refl _ _, rfl⟩)
        · intro a' w' hx hs hd
          obtain ⟨y, rfl⟩ := hx.ew
          have e33 : a'.tmps[33]?.getD undef = _ := hd 2 33 rfl rfl
          have e48 : a'.tmps[48]?.getD undef = _ := hd 17 48 rfl rfl
          refine .inl ⟨rfl, ?_⟩
          clear hs hd hx
          go_simp
          exact ⟨Ext.refl _ _, rfl⟩
      case' q30 =>
        intro vs w' hx hRR
        obtain ⟨x3, rfl⟩ := hx.ew
        have q0 : vs 0 = _ := hRR 0 (by decide)
        have q1 : vs 1 = _ := hRR 1 (by decide)
        have q2 : vs 2 = _ := hRR 2 (by decide)
        have q3 : vs 3 = _ := hRR 3 (by decide)
        have q4 : vs 4 = _ := hRR 4 (by decide)
        have q5 : vs 5 = _ := hRR 5 (by decide)
        have q6 : vs 6 = _ := hRR 6 (by decide)
        have q7 : vs 7 = _ := hRR 7 (by decide)
        have q8 : vs 8 = _ := hRR 8 (by decide)
        have q9 : vs 9 = _ := hRR 9 (by decide)
        have q10 : vs 10 = _ := hRR 10 (by decide)
        have q11 : vs 11 = _ := hRR 11 (by decide)
        have q12 : vs 12 = _ := hRR 12 (by decide)
        have q13 : vs 13 = _ := hRR 13 (by decide)
        have q14 : vs 14 = _ := hRR 14 (by decide)
        have q15 : vs 15 = _ := hRR 15 (by decide)
        have q16 : vs 16 = _ := hRR 16 (by decide)
        have q17 : vs 17 = _ := hRR 17 (by decide)
        have q18 : vs 18 = _ := hRR 18 (by decide)
        clear hRR hx
        simp only [putAll, List.take_succ_cons, List.take_zero, List.drop_succ_cons, List.drop_zero, Act.put, List.setIfInBounds_toArray, List.set_cons_zero, List.set_cons_succ, Nat.reduceAdd, Nat.zero_add]
        simp only [q0, q1, q2, q3, q4, q5, q6, q7, q8, q9, q10, q11, q12, q13, q14, q15, q16, q17, q18]
        clear q0 q1 q2 q3 q4 q5 q6 q7 q8 q9 q10 q11 q12 q13 q14 q15 q16 q17 q18 vs
      have X3 := Go.Lib.hid (by (repeat (first | with_reducible (first | exact Ext.refl _ _ | assumption | refine Ext.upN ?_ | refine Ext.alloc ?_ _ | refine Ext.drew ?_ | refine Ext.drewN ?_ _ | refine Ext.up1N (by first | omega | simp) ?_) | refine Ext.alloc ?_ _ | refine Ext.setCell ?_ (.inr (by first | omega | simp)) _)) : Ext Non w2 x3.on)
      have XX3 := Go.Lib.hid (XX2.out.trans X3.out); have T3 := Go.Lib.hid (T2.out.upN X3.out); have BR3 := Go.Lib.hid (BR2.out.extN X3.out); have BO3 := Go.Lib.hid (BO2.out.extN X3.out)
      clear XX2 T2 BR2 BO2 X3
      generalize x3.on = w3 at *
      go_wp2_with fail
      go_roundw
      case rel => exact ⟨i + 1, hlt, by go_num, XX3, by rw [← hca]; exact T3, BR3, BO3⟩
      case measure => simp [intOf]; omega
    · have hie : i = t.mem.length := by omega
      subst hie
      obtain ⟨c0, c1, c2, c3, c4⟩ : _ ∧ _ ∧ _ ∧ _ ∧ _ := ⟨BO.out.cell (j := 0) rfl, BO.out.cell (j := 1) rfl, BO.out.cell (j := 2) rfl, BO.out.cell (j := 3) rfl, BO.out.cell (j := 4) rfl⟩
      obtain ⟨r0, r1, r2, r3, r4⟩ : _ ∧ _ ∧ _ ∧ _ ∧ _ := ⟨BR.out.cell (j := 0) rfl, BR.out.cell (j := 1) rfl, BR.out.cell (j := 2) rfl, BR.out.cell (j := 3) rfl, BR.out.cell (j := 4) rfl⟩
      obtain ⟨f0, f1, f2, f3, f4⟩ : _ ∧ _ ∧ _ ∧ _ ∧ _ := ⟨BR.out.frozen 0, BR.out.frozen 1, BR.out.frozen 2, BR.out.frozen 3, BR.out.frozen 4⟩
      go_upto_region 14 with fail
      go_cut [3] (fun v3 wx => v3 = .bool false ∧ Hid (Bx wx n0 [.string ⟨#[]⟩, .slice none 0 0, .int .i64 0, .slice none 0 0, .slice none 0 0] 106) ∧ Hid (Ext (One n0) wr wx))
      case first =>
        go_region
        all_goals
          go_wp2_with fail
          go_meet
          have B := ((((BR.out.set (j := 0) (.string ⟨#[]⟩)).set (j := 1) (.slice none 0 0)).set (j := 2) (.int .i64 0)).set (j := 3) (.slice none 0 0)).set (j := 4) (.slice none 0 0)
          simp only [List.set_cons_zero, List.set_cons_succ] at B
          exact ⟨rfl, Go.Lib.hid B.drew, Go.Lib.hid ((((((Ext.refl (One n0) wr).set1 _).set1 _).set1 _).set1 _).set1 _).drew⟩
      obtain ⟨rfl, BF, XF⟩ := hcut
      clear c0 c1 c2 c3 c4 r0 r1 r2 r3 r4 f0 f1 f2 f3 f4
      obtain ⟨r0, r1, r2, r3, r4⟩ : _ ∧ _ ∧ _ ∧ _ ∧ _ := ⟨BF.out.cell (j := 0) rfl, BF.out.cell (j := 1) rfl, BF.out.cell (j := 2) rfl, BF.out.cell (j := 3) rfl, BF.out.cell (j := 4) rfl⟩
      go_wp2
      (try simp only [Exit.inBlock, Exit.then])
      refine bodyPost_ret (by simp [results, Tryz.results279, go_sem, r0, r1, r2, r3, r4]; try rfl) rfl ?_
      exact ⟨rfl, X.out.step XF.out (fun j hj q => by have q : j = n0 := q; have := HN0.out; omega)⟩
set_option maxHeartbeats 1000000 in
set_option maxRecDepth 100000 in
theorem rep_goOver0 (w : World) (h : RepW w b col A g) (h0 : g.tally.votes = []) : Calls Tryz.prog 204 #[.pointer (some ⟨b, 0, none⟩)] w fun e w' => e = .returned (.tuple #[]) ∧ Ext Non w w' := by
  obtain ⟨ta, tc, m1, m2, vs, T⟩ := h.tal id
  have HSt := Go.Lib.hid (votes_Settled0 T h0)
  obtain ⟨e0, e1⟩ : _ ∧ _ := ⟨h.t0 id, h.ttal id⟩
  clear h T
  go_enter Tryz.func204, Tryz.ntmps204
  go_wp2_with fail
  refine HSt.out.mono ?_
  rintro e w1 ⟨rfl, x1⟩
  have X1 := Go.Lib.hid x1
  clear HSt e0 e1 x1
  go_wp2
  go_returns
  exact ⟨rfl, X1.out.alloc _⟩
/-- There is nothing to do. -/
def IdleB (g : Rp) : Prop := fullB g.book = false ∧ committedO g.log (g.book.done + 1) = none ∧ g.tally.votes = [] ∧ g.halted = false
set_option maxHeartbeats 1000000 in
set_option maxRecDepth 100000 in
theorem rep_do0 (w : World) (h : RepW w b col A g) (hi : RInv g) (h0 : IdleB g) : Calls Tryz.prog 276 #[.pointer (some ⟨b, 0, none⟩)] w fun e w' => e = .returned (.tuple #[]) ∧ Ext Non w w' := by
  obtain ⟨hfu, hco, hvo, hha⟩ := h0
  have HR := Go.Lib.hid h; have HI := Go.Lib.hid hi; have HVo := Go.Lib.hid hvo
  have HFu := Go.Lib.hid (fun wx (x : Ext Non w wx) => Y.ledger_Full _ _ _ HI.out.b.bk _ ((HR.out.extN x).book id).h)
  rw [hfu] at HFu
  have hdb : 0 ≤ g.book.done ∧ g.book.done ≤ 244 := by have := hi.b.bk.dn; have := hi.b.bk.ep; omega
  have hw1 : IntKind.i64.wrap (g.book.done + 1) = g.book.done + 1 := IntWalk.i64_in _ (by omega)
  have HDn := Go.Lib.hid (fun w' (y : Ext Non w w') => ledger_Done A.bk A.mb g.book w' ((HR.out.book id).h.extN y).to)
  have HGo := Go.Lib.hid (fun w' (y : Ext Non w w') => rep_goOver0 w' (HR.out.extN y) hvo)
  obtain ⟨G, hL, hG⟩ := (h.log id).ex
  have HCm := Go.Lib.hid (fun w' (y : Ext Non w w') => log_Committed A.bl G g.log (g.book.done + 1) (by unfold I64; omega) w' (hL.extN y))
  rw [hco] at HCm
  unfold toldV reqV at HCm
  try dsimp only [Option.getD_none, Option.isSome_none, nullR] at HCm
  have e0 := h.rbk id
  generalize g.book.done = dn at *
  clear h hi hL hG hfu hco hvo
  go_enter Tryz.func276, Tryz.ntmps276
  go_wp2_with fail
  refine (HDn.out _ (Ext.refl _ _)).mono ?_
  rintro e w1 ⟨rfl, rfl⟩
  go_wp2_with fail
  clear e0
  go_loopw [] (fun wr => Hid (Ext Non w wr)) (fun _ => 0)
  case atStart => exact Go.Lib.hid (Ext.refl _ _)
  case round =>
    have X1 : Hid (Ext Non w wr) := hrel
    have R1 := Go.Lib.hid (HR.out.extN X1.out)
    clear hrel
    have e0 := R1.out.rbk id
    go_wp2_with fail
    refine (HFu.out _ X1.out).mono ?_
    rintro e w2 ⟨rfl, n2, rfl⟩
    have X2 := Go.Lib.hid (X1.out.drewN n2)
    clear e0 R1 X1
    generalize World.drewN _ n2 = w2 at *
    have R2 := Go.Lib.hid (HR.out.extN X2.out)
    obtain ⟨e0, e1, e2⟩ : _ ∧ _ ∧ _ := ⟨R2.out.rbk id, R2.out.t0 id, R2.out.tlog id⟩
    go_upto_region 2 with fail
    go_cut [4] (fun v4 wx => v4 = .bool false ∧ Hid (Ext Non w wx))
    case first =>
      apply wp_region_rel_late 18 16 (relR [Mo.is _, Mo.is _, Mo.is _, Mo.is _, Mo.is _, Mo.is _, Mo.is _, Mo.is _, Mo.is _, Mo.is _, Mo.is _, Mo.is _, Mo.is _, Mo.is _, Mo.is _, Mo.is _, Mo.is _, moPt w2.heap.size [.int .i64 0, .int .i64 0, .int .i64 0, .string ⟨#[]⟩, .float .f64 0, .int .i64 0] 37]) (by kernel_rfl) (by kernel_rfl) (by kernel_rfl) (by kernel_rfl) (by kernel_rfl) (by decide) (by decide) (by kernel_rfl) (by kernel_rfl) (by kernel_rfl) (relR_mono _) (StepD.all ?st31) ?q31 ?l31
      case st31 =>
        refine ⟨?_, ?_, ?_, ?_, ?_, ?_, ?_, ?_, ?_, ?_, ?_, ?_, ?_, ?_, ?_, ?_, ?_, ?_, trivial⟩
        · intro a' w' hx hs hd
          obtain ⟨y, rfl⟩ := hx.ew
          have e0 : a'.tmps[0]?.getD undef = _ := hs 0 rfl
          simp only [List.getElem?_toArray, List.getElem?_cons_succ, List.getElem?_cons_zero, Option.getD_some, Array.getElem?_eq_some_iff] at e0
          refine .inl ⟨rfl, ?_⟩
          clear hs hd hx
          go_simp
          exact ⟨Ext.refl _ _, rfl⟩
        · intro a' w' hx hs hd
          obtain ⟨y, rfl⟩ := hx.ew
          have e17 : a'.tmps[17]?.getD undef = _ := hd 0 17 rfl rfl
          refine .inl ⟨rfl, ?_⟩
          clear hs hd hx
          go_simp
          exact ⟨Ext.refl _ _, rfl⟩
        · intro a' w' hx hs hd
          obtain ⟨y, rfl⟩ := hx.ew
          have e18 : a'.tmps[18]?.getD undef = _ := hd 1 18 rfl rfl
          refine .inl ⟨rfl, ?_⟩
          clear hs hd hx
          go_simp
          exact ⟨Ext.refl _ _, rfl⟩
        · intro a' w' hx hs hd
          obtain ⟨y, rfl⟩ := hx.ew
          have e19 : a'.tmps[19]?.getD undef = _ := hd 2 19 rfl rfl
          refine .inl ⟨rfl, ?_⟩
          clear hs hd hx
          go_simp
          exact ⟨Ext.refl _ _, rfl⟩
        · intro a' w' hx hs hd
          obtain ⟨y, rfl⟩ := hx.ew
          have e20 : a'.tmps[20]?.getD undef = _ := hd 3 20 rfl rfl
          refine .inl ⟨rfl, ?_⟩
          clear hs hd hx
          go_simp
          exact ⟨Ext.refl _ _, rfl⟩
        · intro a' w' hx hs hd
          obtain ⟨y, rfl⟩ := hx.ew
          have e21 : a'.tmps[21]?.getD undef = _ := hd 4 21 rfl rfl
          refine .inl ⟨rfl, ?_⟩
          clear hs hd hx
          go_simp
          exact ⟨Ext.refl _ _, rfl⟩
        · intro a' w' hx hs hd
          obtain ⟨y, rfl⟩ := hx.ew
          have e22 : a'.tmps[22]?.getD undef = _ := hd 5 22 rfl rfl
          refine .inl ⟨rfl, ?_⟩
          clear hs hd hx
          go_simp
          exact ⟨Ext.refl _ _, rfl⟩
        · intro a' w' hx hs hd
          obtain ⟨y, rfl⟩ := hx.ew
          have e0 : a'.tmps[0]?.getD undef = _ := hs 0 rfl
          simp only [List.getElem?_toArray, List.getElem?_cons_succ, List.getElem?_cons_zero, Option.getD_some, Array.getElem?_eq_some_iff] at e0
          refine .inl ⟨rfl, ?_⟩
          clear hs hd hx
          go_simp
          exact ⟨Ext.refl _ _, rfl⟩
        · intro a' w' hx hs hd
          obtain ⟨y, rfl⟩ := hx.ew
          have e24 : a'.tmps[24]?.getD undef = _ := hd 7 24 rfl rfl
          refine .inl ⟨rfl, ?_⟩
          clear hs hd hx
          go_simp
          exact ⟨Ext.refl _ _, rfl⟩
        · intro a' w' hx hs hd
          obtain ⟨y, rfl⟩ := hx.ew
          have e25 : a'.tmps[25]?.getD undef = _ := hd 8 25 rfl rfl
          refine .inl ⟨rfl, ?_⟩
          clear hs hd hx
          go_simp
          exact ⟨Ext.refl _ _, rfl⟩
        · intro a' w' hx hs hd
          obtain ⟨y, rfl⟩ := hx.ew
          have e26 : a'.tmps[26]?.getD undef = _ := hd 9 26 rfl rfl
          refine .inl ⟨rfl, ?_⟩
          clear hs hd hx
          go_simp
          exact ⟨Ext.refl _ _, rfl⟩
        · intro a' w' hx hs hd
          obtain ⟨y, rfl⟩ := hx.ew
          have e27 : a'.tmps[27]?.getD undef = _ := hd 10 27 rfl rfl
          refine .inl ⟨rfl, ?_⟩
          clear hs hd hx
          go_simp
          exact (HDn.out _ (X2.out.trans (by (repeat (first | with_reducible (first | exact Ext.refl _ _ | assumption | refine Ext.upN ?_ | refine Ext.alloc ?_ _ | refine Ext.drew ?_ | refine Ext.drewN ?_ _ | refine Ext.up1N (by first | omega | simp) ?_) | refine Ext.alloc ?_ _ | refine Ext.setCell ?_ (.inr (by first | omega | simp)) _))))).mono (fun e w'' ⟨he, hx⟩ => ⟨_, he, hx ▸ Ext.refl _ _, rfl⟩)
        · intro a' w' hx hs hd
          obtain ⟨y, rfl⟩ := hx.ew
          have e28 : a'.tmps[28]?.getD undef = _ := hd 11 28 rfl rfl
          refine .inl ⟨rfl, ?_⟩
          clear hs hd hx
          go_simp
          exact ⟨Ext.refl _ _, rfl⟩
        · intro a' w' hx hs hd
          obtain ⟨y, rfl⟩ := hx.ew
          have e23 : a'.tmps[23]?.getD undef = _ := hd 6 23 rfl rfl
          have e29 : a'.tmps[29]?.getD undef = _ := hd 12 29 rfl rfl
          refine .inl ⟨rfl, ?_⟩
          clear hs hd hx
          go_simp
          exact (HCm.out _ (X2.out.trans (by (repeat (first | with_reducible (first | exact Ext.refl _ _ | assumption | refine Ext.upN ?_ | refine Ext.alloc ?_ _ | refine Ext.drew ?_ | refine Ext.drewN ?_ _ | refine Ext.up1N (by first | omega | simp) ?_) | refine Ext.alloc ?_ _ | refine Ext.setCell ?_ (.inr (by first | omega | simp)) _))))).mono (fun e w'' ⟨he, hx⟩ => ⟨_, he, hx, rfl⟩)
        · intro a' w' hx hs hd
          obtain ⟨y, rfl⟩ := hx.ew
          have e30 : a'.tmps[30]?.getD undef = _ := hd 13 30 rfl rfl
          refine .inl ⟨rfl, ?_⟩
          clear hs hd hx
          go_simp
          exact ⟨Ext.refl _ _, rfl⟩
        · intro a' w' hx hs hd
          obtain ⟨y, rfl⟩ := hx.ew
          have e16 : a'.tmps[16]?.getD undef = _ := hd 14 16 rfl rfl
          refine .inl ⟨rfl, ?_⟩
          clear hs hd hx
          go_simp
          exact ⟨Ext.refl _ _, rfl⟩
        · intro a' w' hx hs hd
          obtain ⟨y, rfl⟩ := hx.ew
          have e16 : a'.tmps[16]?.getD undef = _ := hd 14 16 rfl rfl
          refine .inl ⟨rfl, ?_⟩
          clear hs hd hx
          go_simp
          exact ⟨Ext.refl _ _, rfl⟩
        · intro a' w' hx hs hd
          obtain ⟨y, rfl⟩ := hx.ew
          refine .inl ⟨rfl, ?_⟩
          clear hs hd hx
          go_simp
          exact ⟨(Ext.refl _ _).alloc _, _, rfl, y.ext.size, Bx.newAt _ [.int .i64 0, .int .i64 0, .int .i64 0, .string ⟨#[]⟩, .float .f64 0, .int .i64 0] _ _ rfl⟩
      case' q31 =>
        intro vs w' hx hRR
        obtain ⟨x2, rfl⟩ := hx.ew
        have q0 : vs 0 = _ := hRR 0 (by decide)
        have q1 : vs 1 = _ := hRR 1 (by decide)
        have q2 : vs 2 = _ := hRR 2 (by decide)
        have q3 : vs 3 = _ := hRR 3 (by decide)
        have q4 : vs 4 = _ := hRR 4 (by decide)
        have q5 : vs 5 = _ := hRR 5 (by decide)
        have q6 : vs 6 = _ := hRR 6 (by decide)
        have q7 : vs 7 = _ := hRR 7 (by decide)
        have q8 : vs 8 = _ := hRR 8 (by decide)
        have q9 : vs 9 = _ := hRR 9 (by decide)
        have q10 : vs 10 = _ := hRR 10 (by decide)
        have q11 : vs 11 = _ := hRR 11 (by decide)
        have q12 : vs 12 = _ := hRR 12 (by decide)
        have q13 : vs 13 = _ := hRR 13 (by decide)
        have q14 : vs 14 = _ := hRR 14 (by decide)
        have q15 : vs 15 = _ := hRR 15 (by decide)
        have q16 : vs 16 = _ := hRR 16 (by decide)
        obtain ⟨k9, q17, hk9, hB9⟩ : ∃ k, vs 17 = .pointer (some ⟨k, 0, none⟩) ∧ w2.heap.size ≤ k ∧ Bx x2.on k [.int .i64 0, .int .i64 0, .int .i64 0, .string ⟨#[]⟩, .float .f64 0, .int .i64 0] 37 := hRR 17 (by decide)
        clear hRR hx
        simp only [putAll, List.take_succ_cons, List.take_zero, List.drop_succ_cons, List.drop_zero, Act.put, List.setIfInBounds_toArray, List.set_cons_zero, List.set_cons_succ, Nat.reduceAdd, Nat.zero_add]
        simp only [q0, q1, q2, q3, q4, q5, q6, q7, q8, q9, q10, q11, q12, q13, q14, q15, q16, q17]
        clear q0 q1 q2 q3 q4 q5 q6 q7 q8 q9 q10 q11 q12 q13 q14 q15 q16 q17 vs
      case' l31 =>
        intro vs w' hx hRR hpp
        obtain ⟨x2, rfl⟩ := hx.ew
        have q0 : vs 0 = _ := hRR 0 (by decide) (by decide)
        have q1 : vs 1 = _ := hRR 1 (by decide) (by decide)
        have q2 : vs 2 = _ := hRR 2 (by decide) (by decide)
        have q3 : vs 3 = _ := hRR 3 (by decide) (by decide)
        have q4 : vs 4 = _ := hRR 4 (by decide) (by decide)
        have q5 : vs 5 = _ := hRR 5 (by decide) (by decide)
        have q6 : vs 6 = _ := hRR 6 (by decide) (by decide)
        have q7 : vs 7 = _ := hRR 7 (by decide) (by decide)
        have q8 : vs 8 = _ := hRR 8 (by decide) (by decide)
        have q9 : vs 9 = _ := hRR 9 (by decide) (by decide)
        have q10 : vs 10 = _ := hRR 10 (by decide) (by decide)
        have q11 : vs 11 = _ := hRR 11 (by decide) (by decide)
        have q12 : vs 12 = _ := hRR 12 (by decide) (by decide)
        have q13 : vs 13 = _ := hRR 13 (by decide) (by decide)
        have q14 : vs 14 = _ := hRR 14 (by decide) (by decide)
        have q15 : vs 15 = _ := hRR 15 (by decide) (by decide)
        have q16 : vs 16 = _ := hpp 32 rfl
        simp only [List.getElem?_toArray, List.getElem?_cons_succ, List.getElem?_cons_zero, Option.getD_some, Array.getElem?_eq_some_iff] at q16
        obtain ⟨k9, q17, hk9, hB9⟩ : ∃ k, vs 17 = .pointer (some ⟨k, 0, none⟩) ∧ w2.heap.size ≤ k ∧ Bx x2.on k [.int .i64 0, .int .i64 0, .int .i64 0, .string ⟨#[]⟩, .float .f64 0, .int .i64 0] 37 := hRR 17 (by decide) (by decide)
        clear hRR hx hpp
        simp only [List.cons_append, List.nil_append, putAll, List.take_succ_cons, List.take_zero, List.drop_succ_cons, List.drop_zero, Act.put, List.setIfInBounds_toArray, List.set_cons_zero, List.set_cons_succ, Nat.reduceAdd, Nat.zero_add]
        simp only [q0, q1, q2, q3, q4, q5, q6, q7, q8, q9, q10, q11, q12, q13, q14, q15, q16, q17]
        clear q0 q1 q2 q3 q4 q5 q6 q7 q8 q9 q10 q11 q12 q13 q14 q15 q16 q17 vs
      all_goals
        have HB9 := Go.Lib.hid hB9
        have HX2 := Go.Lib.hid (by (repeat (first | with_reducible (first | exact Ext.refl _ _ | assumption | refine Ext.upN ?_ | refine Ext.alloc ?_ _ | refine Ext.drew ?_ | refine Ext.drewN ?_ _ | refine Ext.up1N (by first | omega | simp) ?_) | refine Ext.alloc ?_ _ | refine Ext.setCell ?_ (.inr (by first | omega | simp)) _)) : Ext Non w2 x2.on)
        have HK9 := Go.Lib.hid hk9
        clear hB9 hk9
        go_wp2_with (refine wpList_store_box rfl 37 _ _ rfl k9 _ [.int .i64 0, .int .i64 0, .int .i64 0, .string ⟨#[]⟩, .float .f64 0, .int .i64 0] _ rfl rfl HB9.out rfl (by kernel_rfl) (by simp [Value.oneCell']) (fun W hB => ?_))
        go_meet
        exact ⟨rfl, Go.Lib.hid (X2.out.trans (HX2.out.step W.ext (fun i hi q => by have q : i = k9 := q; have := HK9.out; omega)))⟩
    obtain ⟨rfl, X3⟩ := hcut
    clear e0 e1 e2 R2 X2
    have R3 := Go.Lib.hid (HR.out.extN X3.out)
    have e0 := R3.out.rbk id
    go_wp2_with fail
    refine (HDn.out _ X3.out).mono ?_
    rintro e wd ⟨rfl, rfl⟩
    go_wp2_with fail
    refine (HFu.out _ X3.out).mono ?_
    rintro e wf ⟨rfl, nf, rfl⟩
    have X4 := Go.Lib.hid (X3.out.drewN nf)
    clear e0 R3 X3
    generalize World.drewN _ nf = wf at *
    have R4 := Go.Lib.hid (HR.out.extN X4.out)
    obtain ⟨e0, e1, e2⟩ : _ ∧ _ ∧ _ := ⟨R4.out.rhal id, R4.out.t0 id, R4.out.tvot id⟩
    rw [hha] at e0
    go_wp2_with fail
    refine (HGo.out _ X4.out).mono ?_
    rintro e wg ⟨rfl, xg⟩
    have X5 := Go.Lib.hid (X4.out.trans xg)
    clear e0 e1 e2 xg
    go_wp2
    go_returns
    exact ⟨rfl, X5.out⟩
set_option maxHeartbeats 1000000 in
set_option maxRecDepth 100000 in
theorem rep_goOn0 (slot : Int) (hsl : I64 slot) (w : World) (h : RepW w b col A g) (hi : RInv g) (h0 : IdleB g) (hp : preparedB g.log slot = false) : Calls Tryz.prog 201 #[.pointer (some ⟨b, 0, none⟩), .int .i64 slot] w fun e w' => e = .returned (.tuple #[]) ∧ Ext Non w w' := by
  have HR := Go.Lib.hid h; have HI := Go.Lib.hid hi; have H0 := Go.Lib.hid h0
  obtain ⟨G, hL, hG⟩ := (h.log id).ex
  have HL := Go.Lib.hid hL
  have HPr := Go.Lib.hid (log_Proposed A.bl G g.log slot hsl w hL)
  have HPp := Go.Lib.hid (fun w' (x : Ext Non w w') => log_Prepared A.bl G g.log slot hsl w' (hL.extN x))
  unfold toldV at HPr
  rw [hp] at HPp
  obtain ⟨q0, q1⟩ : _ ∧ _ := ⟨h.t0 id, h.tlog id⟩
  clear h hi hsl hL hG hp h0
  generalize (proposedO g.log slot).isSome = ps at *
  generalize (proposedO g.log slot).getD nullR = q at *
  obtain ⟨rc, rs, ⟨rk, rkey, rx, rid⟩⟩ := q
  unfold reqV at HPr
  dsimp only at HPr
  go_enter Tryz.func201, Tryz.ntmps201
  go_wp2_with fail
  refine HPr.out.mono ?_
  rintro e w1 ⟨rfl, x1⟩
  have X2 := Go.Lib.hid (x1.alloc (.cells #[.int .i64 rc, .int .i64 rs, .int .i64 rk, .string rkey, .float .f64 rx, .int .i64 rid] 37))
  have B2 := Go.Lib.hid (Bx.new w1 [.int .i64 rc, .int .i64 rs, .int .i64 rk, .string rkey, .float .f64 rx, .int .i64 rid] 37)
  clear x1 q0 q1 HPr
  go_upto_region 1 with fail
  obtain ⟨kq, hkq⟩ : ∃ kq, kq = w1.heap.size := ⟨_, rfl⟩
  rw [← hkq] at B2 ⊢
  clear hkq
  generalize World.alloc _ _ = W2 at *
  have R2 := Go.Lib.hid (HR.out.extN X2.out)
  obtain ⟨c0, c1, c2, c3, c4, c5⟩ := B2.out.six
  obtain ⟨q0, q1, q2⟩ : _ ∧ _ ∧ _ := ⟨R2.out.t0 id, R2.out.tlog id, R2.out.rid id⟩
  apply wp_region_rel (relR [Mo.is _, Mo.is _, Mo.is _, Mo.is _, Mo.is _, Mo.is _, Mo.is _, Mo.is _, Mo.is _, Mo.is _, Mo.is _, Mo.is _, Mo.is _, Mo.is _, Mo.is _, Mo.is _, Mo.is _, Mo.is _, Mo.is _, Mo.is _, Mo.is _, Mo.is _, Mo.is _, Mo.is _, Mo.is _, Mo.is _]) (by kernel_rfl) (by kernel_rfl) (by kernel_rfl) (relR_mono _) (StepD.all ?st32) ?q32
  case st32 =>
    refine ⟨?_, ?_, ?_, ?_, ?_, ?_, ?_, ?_, ?_, ?_, ?_, ?_, ?_, ?_, ?_, ?_, ?_, ?_, ?_, ?_, ?_, ?_, ?_, ?_, ?_, ?_, trivial⟩
    · intro a' w' hx hs hd
      obtain ⟨y, rfl⟩ := hx.ew
      have e0 : a'.tmps[0]?.getD undef = _ := hs 0 rfl
      simp only [List.getElem?_toArray, List.getElem?_cons_succ, List.getElem?_cons_zero, Option.getD_some, Array.getElem?_eq_some_iff] at e0
      refine .inl ⟨rfl, ?_⟩
      clear hs hd hx
      go_simp
      exact ⟨Ext.refl _ _, rfl⟩
    · intro a' w' hx hs hd
      obtain ⟨y, rfl⟩ := hx.ew
      have e18 : a'.tmps[18]?.getD undef = _ := hd 0 18 rfl rfl
      refine .inl ⟨rfl, ?_⟩
      clear hs hd hx
      go_simp
      exact ⟨Ext.refl _ _, rfl⟩
    · intro a' w' hx hs hd
      obtain ⟨y, rfl⟩ := hx.ew
      have e19 : a'.tmps[19]?.getD undef = _ := hd 1 19 rfl rfl
      refine .inl ⟨rfl, ?_⟩
      clear hs hd hx
      go_simp
      exact ⟨Ext.refl _ _, rfl⟩
    · intro a' w' hx hs hd
      obtain ⟨y, rfl⟩ := hx.ew
      have e20 : a'.tmps[20]?.getD undef = _ := hd 2 20 rfl rfl
      refine .inl ⟨rfl, ?_⟩
      clear hs hd hx
      go_simp
      exact ⟨Ext.refl _ _, rfl⟩
    · intro a' w' hx hs hd
      obtain ⟨y, rfl⟩ := hx.ew
      have e21 : a'.tmps[21]?.getD undef = _ := hd 3 21 rfl rfl
      refine .inl ⟨rfl, ?_⟩
      clear hs hd hx
      go_simp
      exact ⟨Ext.refl _ _, rfl⟩
    · intro a' w' hx hs hd
      obtain ⟨y, rfl⟩ := hx.ew
      have e22 : a'.tmps[22]?.getD undef = _ := hd 4 22 rfl rfl
      refine .inl ⟨rfl, ?_⟩
      clear hs hd hx
      go_simp
      exact ⟨Ext.refl _ _, rfl⟩
    · intro a' w' hx hs hd
      obtain ⟨y, rfl⟩ := hx.ew
      have e23 : a'.tmps[23]?.getD undef = _ := hd 5 23 rfl rfl
      refine .inl ⟨rfl, ?_⟩
      clear hs hd hx
      go_simp
      exact ⟨Ext.refl _ _, rfl⟩
    · intro a' w' hx hs hd
      obtain ⟨y, rfl⟩ := hx.ew
      have e1 : a'.tmps[1]?.getD undef = _ := hs 1 rfl
      simp only [List.getElem?_toArray, List.getElem?_cons_succ, List.getElem?_cons_zero, Option.getD_some, Array.getElem?_eq_some_iff] at e1
      refine .inl ⟨rfl, ?_⟩
      clear hs hd hx
      go_simp
      exact ⟨Ext.refl _ _, rfl⟩
    · intro a' w' hx hs hd
      obtain ⟨y, rfl⟩ := hx.ew
      have e24 : a'.tmps[24]?.getD undef = _ := hd 6 24 rfl rfl
      have e25 : a'.tmps[25]?.getD undef = _ := hd 7 25 rfl rfl
      refine .inl ⟨rfl, ?_⟩
      clear hs hd hx
      go_simp
      exact (HPp.out _ (X2.out.trans (by (repeat (first | with_reducible (first | exact Ext.refl _ _ | assumption | refine Ext.upN ?_ | refine Ext.alloc ?_ _ | refine Ext.drew ?_ | refine Ext.drewN ?_ _ | refine Ext.up1N (by first | omega | simp) ?_) | refine Ext.alloc ?_ _ | refine Ext.setCell ?_ (.inr (by first | omega | simp)) _))))).mono (fun e w'' ⟨he, hx⟩ => ⟨_, he, hx, rfl⟩)
    · intro a' w' hx hs hd
      obtain ⟨y, rfl⟩ := hx.ew
      have e26 : a'.tmps[26]?.getD undef = _ := hd 8 26 rfl rfl
      refine .inl ⟨rfl, ?_⟩
      clear hs hd hx
      go_simp
      exact ⟨Ext.refl _ _, rfl⟩
    · intro a' w' hx hs hd
      obtain ⟨y, rfl⟩ := hx.ew
      have eg : a'.tmps[27]?.getD undef = _ := hd 9 27 rfl rfl
      first
      | (refine .inr ⟨unwanted_of (j := 9) (d := 27) rfl rfl eg (by rfl), ?_⟩; exact (rfl : (Mo.is undef).p undef y.on))
      | (refine .inr ⟨unwanted_und (j := 9) (d := 27) rfl rfl eg, ?_⟩; exact (rfl : (Mo.is undef).p undef y.on))
      | (have e0 : a'.tmps[0]?.getD undef = _ := hs 0 rfl; simp only [List.getElem?_toArray, List.getElem?_cons_succ, List.getElem?_cons_zero, Option.getD_some, Array.getElem?_eq_some_iff] at e0; refine .inl ⟨wanted_of (j := 9) (d := 27) rfl rfl eg, ?_⟩; clear hs hd hx eg; go_simp; exact ⟨Ext.refl _ _, rfl⟩)
    · intro a' w' hx hs hd
      obtain ⟨y, rfl⟩ := hx.ew
      have eg : a'.tmps[27]?.getD undef = _ := hd 9 27 rfl rfl
      first
      | (refine .inr ⟨unwanted_of (j := 9) (d := 27) rfl rfl eg (by rfl), ?_⟩; exact (rfl : (Mo.is undef).p undef y.on))
      | (refine .inr ⟨unwanted_und (j := 9) (d := 27) rfl rfl eg, ?_⟩; exact (rfl : (Mo.is undef).p undef y.on))
      | (have e28 : a'.tmps[28]?.getD undef = _ := hd 10 28 rfl rfl; refine .inl ⟨wanted_of (j := 9) (d := 27) rfl rfl eg, ?_⟩; clear hs hd hx eg; go_simp; exact ⟨Ext.refl _ _, rfl⟩)
    · intro a' w' hx hs hd
      obtain ⟨y, rfl⟩ := hx.ew
      have eg : a'.tmps[27]?.getD undef = _ := hd 9 27 rfl rfl
      first
      | (refine .inr ⟨unwanted_of (j := 9) (d := 27) rfl rfl eg (by rfl), ?_⟩; exact (rfl : (Mo.is undef).p undef y.on))
      | (refine .inr ⟨unwanted_und (j := 9) (d := 27) rfl rfl eg, ?_⟩; exact (rfl : (Mo.is undef).p undef y.on))
      | (have e29 : a'.tmps[29]?.getD undef = _ := hd 11 29 rfl rfl; refine .inl ⟨wanted_of (j := 9) (d := 27) rfl rfl eg, ?_⟩; clear hs hd hx eg; go_simp; exact ⟨Ext.refl _ _, rfl⟩)
    · intro a' w' hx hs hd
      obtain ⟨y, rfl⟩ := hx.ew
      have eg : a'.tmps[27]?.getD undef = _ := hd 9 27 rfl rfl
      first
      | (refine .inr ⟨unwanted_of (j := 9) (d := 27) rfl rfl eg (by rfl), ?_⟩; exact (rfl : (Mo.is undef).p undef y.on))
      | (refine .inr ⟨unwanted_und (j := 9) (d := 27) rfl rfl eg, ?_⟩; exact (rfl : (Mo.is undef).p undef y.on))
      | (have e30 : a'.tmps[30]?.getD undef = _ := hd 12 30 rfl rfl; refine .inl ⟨wanted_of (j := 9) (d := 27) rfl rfl eg, ?_⟩; clear hs hd hx eg; go_simp; exact ⟨Ext.refl _ _, rfl⟩)
    · intro a' w' hx hs hd
      obtain ⟨y, rfl⟩ := hx.ew
      have eg : a'.tmps[27]?.getD undef = _ := hd 9 27 rfl rfl
      first
      | (refine .inr ⟨unwanted_of (j := 9) (d := 27) rfl rfl eg (by rfl), ?_⟩; exact (rfl : (Mo.is undef).p undef y.on))
      | (refine .inr ⟨unwanted_und (j := 9) (d := 27) rfl rfl eg, ?_⟩; exact (rfl : (Mo.is undef).p undef y.on))
      | (have e31 : a'.tmps[31]?.getD undef = _ := hd 13 31 rfl rfl; refine .inl ⟨wanted_of (j := 9) (d := 27) rfl rfl eg, ?_⟩; clear hs hd hx eg; go_simp; exact ⟨Ext.refl _ _, rfl⟩)
    · intro a' w' hx hs hd
      obtain ⟨y, rfl⟩ := hx.ew
      have eg : a'.tmps[27]?.getD undef = _ := hd 9 27 rfl rfl
      first
      | (refine .inr ⟨unwanted_of (j := 9) (d := 27) rfl rfl eg (by rfl), ?_⟩; exact (rfl : (Mo.is undef).p undef y.on))
      | (refine .inr ⟨unwanted_und (j := 9) (d := 27) rfl rfl eg, ?_⟩; exact (rfl : (Mo.is undef).p undef y.on))
      | (have e32 : a'.tmps[32]?.getD undef = _ := hd 14 32 rfl rfl; refine .inl ⟨wanted_of (j := 9) (d := 27) rfl rfl eg, ?_⟩; clear hs hd hx eg; go_simp; exact ⟨Ext.refl _ _, rfl⟩)
    · intro a' w' hx hs hd
      obtain ⟨y, rfl⟩ := hx.ew
      have eg : a'.tmps[27]?.getD undef = _ := hd 9 27 rfl rfl
      first
      | (refine .inr ⟨unwanted_of (j := 9) (d := 27) rfl rfl eg (by rfl), ?_⟩; exact (rfl : (Mo.is undef).p undef y.on))
      | (refine .inr ⟨unwanted_und (j := 9) (d := 27) rfl rfl eg, ?_⟩; exact (rfl : (Mo.is undef).p undef y.on))
      | (have e33 : a'.tmps[33]?.getD undef = _ := hd 15 33 rfl rfl; refine .inl ⟨wanted_of (j := 9) (d := 27) rfl rfl eg, ?_⟩; clear hs hd hx eg; go_simp; exact ⟨Ext.refl _ _, rfl⟩)
    · intro a' w' hx hs hd
      obtain ⟨y, rfl⟩ := hx.ew
      have eg : a'.tmps[27]?.getD undef = _ := hd 9 27 rfl rfl
      first
      | (refine .inr ⟨unwanted_of (j := 9) (d := 27) rfl rfl eg (by rfl), ?_⟩; exact (rfl : (Mo.is undef).p undef y.on))
      | (refine .inr ⟨unwanted_und (j := 9) (d := 27) rfl rfl eg, ?_⟩; exact (rfl : (Mo.is undef).p undef y.on))
      | (have e0 : a'.tmps[0]?.getD undef = _ := hs 0 rfl; simp only [List.getElem?_toArray, List.getElem?_cons_succ, List.getElem?_cons_zero, Option.getD_some, Array.getElem?_eq_some_iff] at e0; refine .inl ⟨wanted_of (j := 9) (d := 27) rfl rfl eg, ?_⟩; clear hs hd hx eg; go_simp; exact ⟨Ext.refl _ _, rfl⟩)
    · intro a' w' hx hs hd
      obtain ⟨y, rfl⟩ := hx.ew
      have eg : a'.tmps[27]?.getD undef = _ := hd 9 27 rfl rfl
      first
      | (refine .inr ⟨unwanted_of (j := 9) (d := 27) rfl rfl eg (by rfl), ?_⟩; exact (rfl : (Mo.is undef).p undef y.on))
      | (refine .inr ⟨unwanted_und (j := 9) (d := 27) rfl rfl eg, ?_⟩; exact (rfl : (Mo.is undef).p undef y.on))
      | (have e35 : a'.tmps[35]?.getD undef = _ := hd 17 35 rfl rfl; refine .inl ⟨wanted_of (j := 9) (d := 27) rfl rfl eg, ?_⟩; clear hs hd hx eg; go_simp; exact ⟨Ext.refl _ _, rfl⟩)
    · intro a' w' hx hs hd
      obtain ⟨y, rfl⟩ := hx.ew
      have eg : a'.tmps[27]?.getD undef = _ := hd 9 27 rfl rfl
      first
      | (refine .inr ⟨unwanted_of (j := 9) (d := 27) rfl rfl eg (by rfl), ?_⟩; exact (rfl : (Mo.is undef).p undef y.on))
      | (refine .inr ⟨unwanted_und (j := 9) (d := 27) rfl rfl eg, ?_⟩; exact (rfl : (Mo.is undef).p undef y.on))
      | (have e36 : a'.tmps[36]?.getD undef = _ := hd 18 36 rfl rfl; refine .inl ⟨wanted_of (j := 9) (d := 27) rfl rfl eg, ?_⟩; clear hs hd hx eg; go_simp; exact ⟨Ext.refl _ _, rfl⟩)
    · intro a' w' hx hs hd
      obtain ⟨y, rfl⟩ := hx.ew
      have eg : a'.tmps[27]?.getD undef = _ := hd 9 27 rfl rfl
      first
      | (refine .inr ⟨unwanted_of (j := 9) (d := 27) rfl rfl eg (by rfl), ?_⟩; exact (rfl : (Mo.is undef).p undef y.on))
      | (refine .inr ⟨unwanted_und (j := 9) (d := 27) rfl rfl eg, ?_⟩; exact (rfl : (Mo.is undef).p undef y.on))
      | (have e37 : a'.tmps[37]?.getD undef = _ := hd 19 37 rfl rfl; refine .inl ⟨wanted_of (j := 9) (d := 27) rfl rfl eg, ?_⟩; clear hs hd hx eg; go_simp; exact ⟨Ext.refl _ _, rfl⟩)
    · intro a' w' hx hs hd
      obtain ⟨y, rfl⟩ := hx.ew
      have eg : a'.tmps[27]?.getD undef = _ := hd 9 27 rfl rfl
      first
      | (refine .inr ⟨unwanted_of (j := 9) (d := 27) rfl rfl eg (by rfl), ?_⟩; exact (rfl : (Mo.is undef).p undef y.on))
      | (refine .inr ⟨unwanted_und (j := 9) (d := 27) rfl rfl eg, ?_⟩; exact (rfl : (Mo.is undef).p undef y.on))
      | (have e1 : a'.tmps[1]?.getD undef = _ := hs 1 rfl; simp only [List.getElem?_toArray, List.getElem?_cons_succ, List.getElem?_cons_zero, Option.getD_some, Array.getElem?_eq_some_iff] at e1; refine .inl ⟨wanted_of (j := 9) (d := 27) rfl rfl eg, ?_⟩; clear hs hd hx eg; go_simp; exact ⟨Ext.refl _ _, rfl⟩)
    · intro a' w' hx hs hd
      obtain ⟨y, rfl⟩ := hx.ew
      have eg : a'.tmps[27]?.getD undef = _ := hd 9 27 rfl rfl
      first
      | (refine .inr ⟨unwanted_of (j := 9) (d := 27) rfl rfl eg (by rfl), ?_⟩; exact (rfl : (Mo.is undef).p undef y.on))
      | (refine .inr ⟨unwanted_und (j := 9) (d := 27) rfl rfl eg, ?_⟩; exact (rfl : (Mo.is undef).p undef y.on))
      | (have e4 : a'.tmps[4]?.getD undef = _ := hs 4 rfl; simp only [List.getElem?_toArray, List.getElem?_cons_succ, List.getElem?_cons_zero, Option.getD_some, Array.getElem?_eq_some_iff] at e4; refine .inl ⟨wanted_of (j := 9) (d := 27) rfl rfl eg, ?_⟩; clear hs hd hx eg; go_simp; exact ⟨Ext.refl _ _, rfl⟩)
    · intro a' w' hx hs hd
      obtain ⟨y, rfl⟩ := hx.ew
      have eg : a'.tmps[27]?.getD undef = _ := hd 9 27 rfl rfl
      first
      | (refine .inr ⟨unwanted_of (j := 9) (d := 27) rfl rfl eg (by rfl), ?_⟩; exact (rfl : (Mo.is undef).p undef y.on))
      | (refine .inr ⟨unwanted_und (j := 9) (d := 27) rfl rfl eg, ?_⟩; exact (rfl : (Mo.is undef).p undef y.on))
      | (have e34 : a'.tmps[34]?.getD undef = _ := hd 16 34 rfl rfl; have e38 : a'.tmps[38]?.getD undef = _ := hd 20 38 rfl rfl; have e39 : a'.tmps[39]?.getD undef = _ := hd 21 39 rfl rfl; have e40 : a'.tmps[40]?.getD undef = _ := hd 22 40 rfl rfl; refine .inl ⟨wanted_of (j := 9) (d := 27) rfl rfl eg, ?_⟩; clear hs hd hx eg; go_simp; exact ⟨Ext.refl _ _, rfl⟩)
    · intro a' w' hx hs hd
      obtain ⟨y, rfl⟩ := hx.ew
      have eg : a'.tmps[27]?.getD undef = _ := hd 9 27 rfl rfl
      first
      | (refine .inr ⟨unwanted_of (j := 9) (d := 27) rfl rfl eg (by rfl), ?_⟩; exact (rfl : (Mo.is undef).p undef y.on))
      | (refine .inr ⟨unwanted_und (j := 9) (d := 27) rfl rfl eg, ?_⟩; exact (rfl : (Mo.is undef).p undef y.on))
      | (have e41 : a'.tmps[41]?.getD undef = _ := hd 23 41 rfl rfl; refine .inl ⟨wanted_of (j := 9) (d := 27) rfl rfl eg, ?_⟩; clear hs hd hx eg; go_simp; exact ⟨Ext.refl _ _, rfl⟩)
    · intro a' w' hx hs hd
      obtain ⟨y, rfl⟩ := hx.ew
      have e27 : a'.tmps[27]?.getD undef = _ := hd 9 27 rfl rfl
      have e42 : a'.tmps[42]?.getD undef = _ := hd 24 42 rfl rfl
      refine .inl ⟨rfl, ?_⟩
      clear hs hd hx
      go_simp
      exact ⟨Ext.refl _ _, rfl⟩
  case' q32 =>
    intro vs w' hx hRR
    obtain ⟨x3, rfl⟩ := hx.ew
    have q0 : vs 0 = _ := hRR 0 (by decide)
    have q1 : vs 1 = _ := hRR 1 (by decide)
    have q2 : vs 2 = _ := hRR 2 (by decide)
    have q3 : vs 3 = _ := hRR 3 (by decide)
    have q4 : vs 4 = _ := hRR 4 (by decide)
    have q5 : vs 5 = _ := hRR 5 (by decide)
    have q6 : vs 6 = _ := hRR 6 (by decide)
    have q7 : vs 7 = _ := hRR 7 (by decide)
    have q8 : vs 8 = _ := hRR 8 (by decide)
    have q9 : vs 9 = _ := hRR 9 (by decide)
    have q10 : vs 10 = _ := hRR 10 (by decide)
    have q11 : vs 11 = _ := hRR 11 (by decide)
    have q12 : vs 12 = _ := hRR 12 (by decide)
    have q13 : vs 13 = _ := hRR 13 (by decide)
    have q14 : vs 14 = _ := hRR 14 (by decide)
    have q15 : vs 15 = _ := hRR 15 (by decide)
    have q16 : vs 16 = _ := hRR 16 (by decide)
    have q17 : vs 17 = _ := hRR 17 (by decide)
    have q18 : vs 18 = _ := hRR 18 (by decide)
    have q19 : vs 19 = _ := hRR 19 (by decide)
    have q20 : vs 20 = _ := hRR 20 (by decide)
    have q21 : vs 21 = _ := hRR 21 (by decide)
    have q22 : vs 22 = _ := hRR 22 (by decide)
    have q23 : vs 23 = _ := hRR 23 (by decide)
    have q24 : vs 24 = _ := hRR 24 (by decide)
    have q25 : vs 25 = _ := hRR 25 (by decide)
    clear hRR hx
    simp only [putAll, List.take_succ_cons, List.take_zero, List.drop_succ_cons, List.drop_zero, Act.put, List.setIfInBounds_toArray, List.set_cons_zero, List.set_cons_succ, Nat.reduceAdd, Nat.zero_add]
    simp only [q0, q1, q2, q3, q4, q5, q6, q7, q8, q9, q10, q11, q12, q13, q14, q15, q16, q17, q18, q19, q20, q21, q22, q23, q24, q25]
    clear q0 q1 q2 q3 q4 q5 q6 q7 q8 q9 q10 q11 q12 q13 q14 q15 q16 q17 q18 q19 q20 q21 q22 q23 q24 q25 vs
  have X3 := Go.Lib.hid (X2.out.trans (by (repeat (first | with_reducible (first | exact Ext.refl _ _ | assumption | refine Ext.upN ?_ | refine Ext.alloc ?_ _ | refine Ext.drew ?_ | refine Ext.drewN ?_ _ | refine Ext.up1N (by first | omega | simp) ?_) | refine Ext.alloc ?_ _ | refine Ext.setCell ?_ (.inr (by first | omega | simp)) _)) : Ext Non W2 x3.on))
  clear c0 c1 c2 c3 c4 c5 q0 q1 q2 X2 B2 R2
  go_wp2_with fail
  refine (rep_do0 _ (HR.out.extN X3.out) HI.out H0.out).mono ?_
  rintro e w4 ⟨rfl, x4⟩
  have X4 := Go.Lib.hid (X3.out.trans x4)
  clear x4
  go_wp2
  go_returns
  exact ⟨rfl, X4.out⟩
end
end Go.Proofs.YtflpkoafebjfdaaGreat
