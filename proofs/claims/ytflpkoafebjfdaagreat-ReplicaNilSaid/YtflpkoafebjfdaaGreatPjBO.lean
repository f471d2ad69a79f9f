/- Joined texts: Rep2, Rep3, Rep4. What each proves stands at its head; no conditions beside those in its theorems. -/
import Derived.Laws.CopyOwn
import Derived.Deep.OwnRows
import Derived.Deep.RegionLaw
import Derived.Test.YtflpkoafebjfdaaGreatProg
import Derived.Shelf.SlIter.Nil
import Derived.Shelf.SortM.Plain
import Derived.Shelf.SortM.SortNone
import Derived.Ground.GgzProg
import Derived.Ground.SlgmProg
import Derived.Test.YtflpkoafebjfdaaGreatPjBD
import Derived.Test.YtflpkoafebjfdaaGreatPjBK
/- Contracts of layer 18 (replica): sign, send. -/
namespace Go.Proofs.YtflpkoafebjfdaaGreat
open Go.RowKit Go.Lib F64
set_option linter.unusedSimpArgs false
set_option linter.unusedVariables false
attribute [local go_sem] run_store_float
attribute [local go_sem low] EW.cellN EW.frozN alloc_cell_or alloc_froz_or EW.cellF EW.frozF EW.cell1 EW.froz1
attribute [local go_sem] relAt relUpon relAtT relUponT
attribute [local go_sem low] EW.cellO EW.frozO
section
variable {b : Nat} {col : Nat → Nat} {A : RA} {g : Rp}
def sgV (g : Rp) (t : ByteArray) : Value := if signB g = true then .agg #[.int .i64 g.id, .string t] else .agg #[.int .i64 0, .string ⟨#[]⟩]
set_option maxHeartbeats 4000000 in
set_option maxRecDepth 100000 in
theorem rep_sign (text : ByteArray) (w : World) (h : RepW w b col A g) (hl : 0 ≤ g.left ∧ g.left ≤ 64) : Calls Tryz.prog 169 #[.pointer (some ⟨b, 0, none⟩), .string text] w fun e w' =>
    e = .returned (.tuple #[sgV g text, .bool (signB g)]) ∧ RepW w' b col A (signG g) ∧ Ext (One b) w w' := by
  have HR := Go.Lib.hid h
  have q0 := h.rleft id; have q1 := h.rhal id; have q2 := h.rid id
  have f0 := h.rf id 83; have f1 := h.rf id 84
  have hb1 := h.b1
  have DV : Hid (sgV g text = if signB g = true then .agg #[.int .i64 g.id, .string text] else .agg #[.int .i64 0, .string ⟨#[]⟩]) := Go.Lib.hid rfl
  have DB : Hid (signB g = (decide (g.left ≠ 0) && !g.halted)) := Go.Lib.hid rfl
  have DG : Hid (signG g = if g.left = 0 then { g with halted := true } else if g.halted = true then g else { g with left := g.left - 1 }) := Go.Lib.hid rfl
  clear h
  by_cases h0 : g.left = 0
  · have S1 : Hid (RepW (w.setCell ⟨b, 84, none⟩ (.bool true)) b col A (signG g)) := Go.Lib.hid (by
      have := HR.out.setB id (l := g.left) (a := true) (nw := g.now) 84 (.bool true) (by rw [show (84 : Nat) = 77 + 7 from rfl, rowRp_set]; rfl)
      rw [DG.out, if_pos h0]; exact this)
    have D1 := Go.Lib.hid (show signB g = false by rw [DB.out, h0]; simp)
    rw [h0] at q0
    have hbe : ((0 : Int) == 0) = true := rfl
    clear h0
    go_enter Tryz.func169, Tryz.ntmps169
    go_wp2
    go_returns
    refine ⟨by rw [DV.out, D1.out]; rfl, S1.out.extN ?_, ?_⟩
    · exact (Ext.refl _ _).alloc _
    · exact ((Ext.refl _ _).set1 _).alloc _
  · have hbe : (g.left == 0) = false := by rw [beq_eq_false_iff_ne]; exact h0
    cases hh : g.halted
    · have D1 := Go.Lib.hid (show signB g = true by rw [DB.out, decide_eq_true h0, hh]; rfl)
      have S1 : Hid (RepW (w.setCell ⟨b, 83, none⟩ (.int .i64 (g.left - 1))) b col A (signG g)) := Go.Lib.hid (by
        have := HR.out.setB id (l := g.left - 1) (a := g.halted) (nw := g.now) 83 (.int .i64 (g.left - 1)) (by rw [show (83 : Nat) = 77 + 6 from rfl, rowRp_set]; rfl)
        rw [DG.out, if_neg h0, if_neg (by rw [hh]; simp)]; exact this)
      rw [hh] at q1
      have hw : IntKind.i64.wrap (g.left - 1) = g.left - 1 := IntWalk.i64_in _ (by omega)
      clear h0 hh
      go_enter Tryz.func169, Tryz.ntmps169
      go_wp2
      go_returns
      refine ⟨by rw [DV.out, D1.out]; rfl, S1.out.extN ?_, ?_⟩
      · exact (Ext.refl _ _).alloc _
      · exact ((Ext.refl _ _).set1 _).alloc _
    · have D1 := Go.Lib.hid (show signB g = false by rw [DB.out, hh]; simp)
      have S1 : Hid (RepW w b col A (signG g)) := Go.Lib.hid (by
        rw [DG.out, if_neg h0, if_pos (by rw [hh])]; exact HR.out)
      rw [hh] at q1
      clear h0 hh
      go_enter Tryz.func169, Tryz.ntmps169
      go_wp2
      go_returns
      refine ⟨by rw [DV.out, D1.out]; rfl, S1.out.extN ?_, ?_⟩
      · repeat (first | exact (Ext.refl _ _).alloc _ | refine Ext.setCell ?_ (.inr (by simp)) _)
      · repeat (first | exact (Ext.refl _ _).alloc _ | refine Ext.setCell ?_ (.inr (by simp)) _)
theorem info_packet : (Tryz.prog.info? 54).map (fun i => (i.zero, i.size, i.bytes)) = some (some (.agg #[.int .i64 0, .int .i64 0, .int .i64 0, .int .i64 0, .int .i64 0, .int .i64 0, .int .i64 0, .int .i64 0, .int .i64 0, .string ⟨#[]⟩, .float .f64 0, .int .i64 0, .int .i64 0, .float .f64 0, .string ⟨#[]⟩, .slice none 0 0, .slice none 0 0, .slice none 0 0, .slice none 0 0]), 19, 232) := by kernel_rfl
set_option maxHeartbeats 8000000 in
set_option maxRecDepth 100000 in
theorem rep_send (to_ : Int) (m : Ms) (M : MA) (w : World) (h : RepW w b col A g) (hm : MsW (hide col w) M m) (hto : I64 to_) (hid : I64 g.id) (hl : g.out.length ≤ 1000000) : Calls Tryz.prog 172 #[.pointer (some ⟨b, 0, none⟩), .int .i64 to_, .agg (m.cells M).toArray] w fun e w' =>
    e = .returned (.tuple #[]) ∧ RPost w b col A g w' (sendG g to_ m) := by
  obtain ⟨xr, hown, hrows⟩ := (h.out id).ex
  have HR := Go.Lib.hid h; have HM := Go.Lib.hid hm; have HO := Go.Lib.hid hown; have HX := Go.Lib.hid hrows
  have HI := Go.Lib.hid (And.intro hto (And.intro hid hl))
  have HC := Go.Lib.hid (fun k (q : Row A.ov k) => (h.out id).c k q)
  have hb1 := h.b1
  have q0 := h.rid id; have q1 := h.rout id; have f1 := h.rf id 86
  obtain ⟨L, hL⟩ : ∃ L : List Value, L = m.cells M := ⟨_, rfl⟩
  have HL := Go.Lib.hid hL
  rw [← hL]
  clear h hm hown hrows hto hid hl
  have hLl : L.length = 17 := by rw [hL]; rfl
  have HLl := Go.Lib.hid hLl
  have hB1 : Hid (∀ u ∈ L, u.oneCell' = true) := Go.Lib.hid (by rw [hL]; unfold Ms.cells; simp [Value.oneCell'])
  generalize hgi : g.id = gid at *
  generalize hov : A.ov = ov at *
  generalize hgn : g.out.length = n1 at *
  have HE := Go.Lib.hid (And.intro hgi (And.intro hov hgn))
  clear hgi hov hgn
  have BD := Go.Lib.hid (show Tryz.prog.built 54 [(0, .int .i64 gid), (1, .int .i64 to_), (2, .agg L.toArray)] = some (.int .i64 gid :: .int .i64 to_ :: L).toArray by rw [hL]; unfold Ms.cells; kernel_rfl)
  have BF := Go.Lib.hid (show Instr.fill (fun i => some (i * 19, 19)) ((Array.range (1 * 19)).map ((Value.agg #[.int .i64 0, .int .i64 0, .int .i64 0, .int .i64 0, .int .i64 0, .int .i64 0, .int .i64 0, .int .i64 0, .int .i64 0, .string ⟨#[]⟩, .float .f64 0, .int .i64 0, .int .i64 0, .float .f64 0, .string ⟨#[]⟩, .slice none 0 0, .slice none 0 0, .slice none 0 0, .slice none 0 0]).cells[· % (Value.agg #[.int .i64 0, .int .i64 0, .int .i64 0, .int .i64 0, .int .i64 0, .int .i64 0, .int .i64 0, .int .i64 0, .int .i64 0, .string ⟨#[]⟩, .float .f64 0, .int .i64 0, .int .i64 0, .float .f64 0, .string ⟨#[]⟩, .slice none 0 0, .slice none 0 0, .slice none 0 0, .slice none 0 0]).cells.size]!)) [(0, .agg (.int .i64 gid :: .int .i64 to_ :: L).toArray)] = some (.int .i64 gid :: .int .i64 to_ :: L).toArray by rw [hL]; unfold Ms.cells; kernel_rfl)
  have HSz := Go.Lib.hid (show (Tryz.prog.info? 43).map (·.size) = some L.length by rw [hL]; kernel_rfl)
  clear hL hLl
  obtain ⟨kb, hkb⟩ : ∃ kb, kb = w.heap.size := ⟨_, rfl⟩
  have BL := Go.Lib.hid (Bx.newAt w L 43 kb hkb)
  have X := Go.Lib.hid ((Ext.refl Non w).alloc (.cells L.toArray 43))
  have HKB := Go.Lib.hid hkb
  have q0' : (w.alloc (.cells L.toArray 43)).cell? ⟨b, 1, none⟩ = some (.int .i64 gid) := by rw [X.out.cell (p := ⟨b, 1, none⟩) hb1 (fun f => f)]; exact q0
  have q1' : (w.alloc (.cells L.toArray 43)).cell? ⟨b, 86, none⟩ = some ov := by rw [X.out.cell (p := ⟨b, 86, none⟩) hb1 (fun f => f)]; exact q1
  clear q0 q1 f1
  go_enter Tryz.func172, Tryz.ntmps172
  go_upto_region 1 with fail
  rw [← hkb]
  clear hkb
  generalize World.alloc _ _ = W1 at *
  have HO1 := Go.Lib.hid (ownR_extN HO.out X.out)
  have nb1 : Row ov b = False := eq_false (fun q => by have := HC.out b q; rw [HR.out.c1] at this; cases this)
  have nb2 : Row ov kb = False := eq_false (fun q => by have := (own_row HO.out kb q).2; have := HKB.out; omega)
  have nn1 : Non b = False := rfl
  have nn2 : Non kb = False := rfl
  have HR1 : Hid (∀ k, Row ov k → k < W1.heap.size) := Go.Lib.hid (fun k q => (own_row HO1.out k q).2)
  apply wp_region_wr 14 [Mo.is _, Mo.is _, Mo.is _, Mo.is _, Mo.is _, Mo.is _, Mo.is _, Mo.is _, Mo.is _, Mo.is _, Mo.is _, Mo.is (.agg (.int .i64 gid :: .int .i64 to_ :: L).toArray), moOne W1.heap.size (.int .i64 gid :: .int .i64 to_ :: L) 54, moRow ov W1.heap.size 0 54 19 (n1 + 1) (xr ++ (.int .i64 gid :: .int .i64 to_ :: L))] (Row ov) 13 (fun w' => w'.ownsRow 0 54 19 ov n1 xr) (Non) 9999 (fun _ => True) (by kernel_rfl) (by kernel_rfl) (by kernel_rfl) (by kernel_rfl) (by kernel_rfl) (by decide) (by kernel_rfl) (by decide) ?ta5 ?tb5 ?ha5 ?hb5 ?hc5 ?hd5 ?ma5 ?mb5 ?st5 ?q5
  case ta5 => exact HO1.out
  case tb5 => exact trivial
  case ha5 => exact fun _ _ x h => ownR_extN h x
  case hb5 => exact fun _ _ x h => ownR_extN h x
  case hc5 => exact fun _ _ _ _ => trivial
  case hd5 => exact fun _ _ _ _ => trivial
  case st5 =>
    refine ⟨?_, ?_, ?_, ?_, ?_, ?_, ?_, ?_, ?_, ?_, ?_, ?_, ?_, ?_, trivial⟩
    · refine .inl ⟨by decide, by decide, ?_⟩
      intro a' w' hx hs hd
      obtain ⟨y, rfl⟩ := hx.ew
      have e0 : a'.tmps[0]?.getD undef = _ := hs 0 rfl
      simp only [List.getElem?_toArray, List.getElem?_cons_succ, List.getElem?_cons_zero, Option.getD_some, Array.getElem?_eq_some_iff] at e0
      refine .inl ⟨rfl, ?_⟩
      clear hs hd hx
      go_simp
      exact ⟨Ext.refl _ _, rfl⟩
    · refine .inl ⟨by decide, by decide, ?_⟩
      intro a' w' hx hs hd
      obtain ⟨y, rfl⟩ := hx.ew
      have e0 : a'.tmps[0]?.getD undef = _ := hs 0 rfl
      simp only [List.getElem?_toArray, List.getElem?_cons_succ, List.getElem?_cons_zero, Option.getD_some, Array.getElem?_eq_some_iff] at e0
      refine .inl ⟨rfl, ?_⟩
      clear hs hd hx
      go_simp
      exact ⟨Ext.refl _ _, rfl⟩
    · refine .inl ⟨by decide, by decide, ?_⟩
      intro a' w' hx hs hd
      obtain ⟨y, rfl⟩ := hx.ew
      have e7 : a'.tmps[7]?.getD undef = _ := hd 1 7 rfl rfl
      refine .inl ⟨rfl, ?_⟩
      clear hs hd hx
      go_simp
      exact ⟨Ext.refl _ _, rfl⟩
    · refine .inl ⟨by decide, by decide, ?_⟩
      intro a' w' hx hs hd
      obtain ⟨y, rfl⟩ := hx.ew
      have e8 : a'.tmps[8]?.getD undef = _ := hd 2 8 rfl rfl
      refine .inl ⟨rfl, ?_⟩
      clear hs hd hx
      go_simp
      exact ⟨Ext.refl _ _, rfl⟩
    · refine .inl ⟨by decide, by decide, ?_⟩
      intro a' w' hx hs hd
      obtain ⟨y, rfl⟩ := hx.ew
      have e9 : a'.tmps[9]?.getD undef = _ := hd 3 9 rfl rfl
      refine .inl ⟨rfl, ?_⟩
      clear hs hd hx
      go_simp
      exact ⟨Ext.refl _ _, rfl⟩
    · refine .inl ⟨by decide, by decide, ?_⟩
      intro a' w' hx hs hd
      obtain ⟨y, rfl⟩ := hx.ew
      have e0 : a'.tmps[0]?.getD undef = _ := hs 0 rfl
      simp only [List.getElem?_toArray, List.getElem?_cons_succ, List.getElem?_cons_zero, Option.getD_some, Array.getElem?_eq_some_iff] at e0
      refine .inl ⟨rfl, ?_⟩
      clear hs hd hx
      go_simp
      exact ⟨Ext.refl _ _, rfl⟩
    · refine .inl ⟨by decide, by decide, ?_⟩
      intro a' w' hx hs hd
      obtain ⟨y, rfl⟩ := hx.ew
      have e11 : a'.tmps[11]?.getD undef = _ := hd 5 11 rfl rfl
      refine .inl ⟨rfl, ?_⟩
      clear hs hd hx
      go_simp
      exact ⟨Ext.refl _ _, rfl⟩
    · refine .inl ⟨by decide, by decide, ?_⟩
      intro a' w' hx hs hd
      obtain ⟨y, rfl⟩ := hx.ew
      have e12 : a'.tmps[12]?.getD undef = _ := hd 6 12 rfl rfl
      refine .inl ⟨rfl, ?_⟩
      clear hs hd hx
      go_simp
      exact ⟨Ext.refl _ _, rfl⟩
    · refine .inl ⟨by decide, by decide, ?_⟩
      intro a' w' hx hs hd
      obtain ⟨y, rfl⟩ := hx.ew
      have e13 : a'.tmps[13]?.getD undef = _ := hd 7 13 rfl rfl
      refine .inl ⟨rfl, ?_⟩
      clear hs hd hx
      go_simp
      exact ⟨Ext.refl _ _, rfl⟩
    · refine .inl ⟨by decide, by decide, ?_⟩
      intro a' w' hx hs hd
      obtain ⟨y, rfl⟩ := hx.ew
      have e1 : a'.tmps[1]?.getD undef = _ := hs 1 rfl
      simp only [List.getElem?_toArray, List.getElem?_cons_succ, List.getElem?_cons_zero, Option.getD_some, Array.getElem?_eq_some_iff] at e1
      refine .inl ⟨rfl, ?_⟩
      clear hs hd hx
      go_simp
      exact ⟨Ext.refl _ _, rfl⟩
    · refine .inl ⟨by decide, by decide, ?_⟩
      intro a' w' hx hs hd
      obtain ⟨y, rfl⟩ := hx.ew
      have e5 : a'.tmps[5]?.getD undef = _ := hs 5 rfl
      simp only [List.getElem?_toArray, List.getElem?_cons_succ, List.getElem?_cons_zero, Option.getD_some, Array.getElem?_eq_some_iff] at e5
      refine .inl ⟨rfl, ?_⟩
      clear hs hd hx
      exact rel_load_row 43 _ rfl kb 0 ((eval_tmp _ _).trans e5) L _ (BL.out.ext y.ext (fun q => q.elim (fun q => by rw [nb2] at q; exact q) (fun q => q))).range Tryz.underlying43 rfl HSz.out rfl
    · refine .inl ⟨by decide, by decide, ?_⟩
      intro a' w' hx hs hd
      obtain ⟨y, rfl⟩ := hx.ew
      have e14 : a'.tmps[14]?.getD undef = _ := hd 8 14 rfl rfl
      have e15 : a'.tmps[15]?.getD undef = _ := hd 9 15 rfl rfl
      have e16 : a'.tmps[16]?.getD undef = _ := hd 10 16 rfl rfl
      refine .inl ⟨rfl, ?_⟩
      clear hs hd hx
      exact rel_build_is 54 _ rfl (.int .i64 gid :: .int .i64 to_ :: L).toArray (by simp only [List.map_toArray, List.map_cons, List.map_nil, eval_tmp, e14, e15, e16]; exact BD.out) (by first | exact rfl | (show (_ : Value) = _; rfl) | (unfold relR; trace_state; rfl))
    · refine .inl ⟨by decide, by decide, ?_⟩
      intro a' w' hx hs hd
      obtain ⟨y, rfl⟩ := hx.ew
      have e17 : a'.tmps[17]?.getD undef = _ := hd 11 17 rfl rfl
      refine .inl ⟨rfl, ?_⟩
      clear hs hd hx
      exact rel_slice_one 50 54 _ rfl (.int .i64 gid :: .int .i64 to_ :: L) 19 _ ((eval_tmp _ _).trans e17) Tryz.underlying50 (by kernel_rfl) (by omega) (by omega) BF.out (fun k w'' hk x hB => ⟨k, rfl, by rw [hk]; exact y.ext.size, hB⟩)
    · refine .inr (.inl ⟨rfl, ?_⟩)
      intro a' w' hx hst hs hd
      obtain ⟨y, rfl⟩ := hx.ew
      have e10 : a'.tmps[10]?.getD undef = _ := hd 4 10 rfl rfl
      obtain ⟨k4, e18, hk4, hB4⟩ : ∃ k, a'.tmps[18]?.getD undef = .slice (some ⟨k, 0, none⟩) 1 1 ∧ W1.heap.size ≤ k ∧ Bx y.on k (.int .i64 gid :: .int .i64 to_ :: L) 54 := hd 12 18 rfl rfl
      refine ⟨rfl, ?_⟩
      clear hs hd hx
      exact rel_append_row _ _ 50 rfl 0 54 19 232 _ Tryz.underlying50 info_packet (by rfl) (by omega) (by omega) ov n1 xr ((eval_tmp _ _).trans e10) hst k4 _ _ ((eval_tmp _ _).trans e18) hB4 (by rw [List.length_cons, List.length_cons, HLl.out]) (by intro u hu; rcases List.mem_cons.1 hu with rfl | hu; rfl; rcases List.mem_cons.1 hu with rfl | hu; rfl; exact hB1.out u hu) HI.out.2.2 (Nat.zero_le _) (fun v' w' x o r => ⟨v', rfl, o, fun k hk => (r k hk).imp id (fun z => Nat.le_trans y.ext.size z)⟩)
  case ma5 => exact ⟨.inr (Mo.is_still _ _), .inr (Mo.is_still _ _), .inr (Mo.is_still _ _), .inr (Mo.is_still _ _), .inr (Mo.is_still _ _), .inr (Mo.is_still _ _), .inr (Mo.is_still _ _), .inr (Mo.is_still _ _), .inr (Mo.is_still _ _), .inr (Mo.is_still _ _), .inr (Mo.is_still _ _), .inr (Mo.is_still _ _), .inr (moOne_still (fun k q => by have := HR1.out k q; omega)), .inl rfl, trivial⟩
  case mb5 => exact ⟨.inr (Mo.mono _), .inr (Mo.mono _), .inr (Mo.mono _), .inr (Mo.mono _), .inr (Mo.mono _), .inr (Mo.mono _), .inr (Mo.mono _), .inr (Mo.mono _), .inr (Mo.mono _), .inr (Mo.mono _), .inr (Mo.mono _), .inr (Mo.mono _), .inr (Mo.mono _), .inr (Mo.mono _), trivial⟩
  case' q5 =>
    intro vs w' hx hRR
    obtain ⟨x2, rfl⟩ := hx.ew
    have q0 : vs 0 = _ := hRR 0 (by decide)
    have q1 : vs 1 = _ := hRR 1 (by decide)
    have q2 : vs 2 = _ := hRR 2 (by decide)
    have q3 : vs 3 = _ := hRR 3 (by decide)
    have q4 : vs 4 = _ := hRR 4 (by decide)
    have q5 : vs 5 = _ := hRR 5 (by decide)
    have q6 : vs 6 = _ := hRR 6 (by decide)
    have q7 : vs 7 = _ := hRR 7 (by decide)
    have q8 : vs 8 = _ := hRR 8 (by decide)
    have q9 : vs 9 = _ := hRR 9 (by decide)
    have q10 : vs 10 = _ := hRR 10 (by decide)
    have q11 : vs 11 = _ := hRR 11 (by decide)
    obtain ⟨k4, q12, hk4, hB4⟩ : ∃ k, vs 12 = .slice (some ⟨k, 0, none⟩) 1 1 ∧ W1.heap.size ≤ k ∧ Bx x2.on k (.int .i64 gid :: .int .i64 to_ :: L) 54 := hRR 12 (by decide)
    obtain ⟨u5, q13, hO5, hr5⟩ : ∃ u, vs 13 = u ∧ x2.on.ownsRow 0 54 19 u (n1 + 1) (xr ++ (.int .i64 gid :: .int .i64 to_ :: L)) ∧ (∀ k, Row u k → Row ov k ∨ W1.heap.size ≤ k) := hRR 13 (by decide)
    clear hRR hx
    simp only [putAll, List.take_succ_cons, List.take_zero, List.drop_succ_cons, List.drop_zero, Act.put, List.setIfInBounds_toArray, List.set_cons_zero, List.set_cons_succ, Nat.reduceAdd, Nat.zero_add]
    simp only [q0, q1, q2, q3, q4, q5, q6, q7, q8, q9, q10, q11, q12, q13]
    clear q0 q1 q2 q3 q4 q5 q6 q7 q8 q9 q10 q11 q12 q13 vs
  obtain ⟨ua, uc, hus⟩ := row_slice hO5
  subst hus
  have hx2 : Ext (Row ov) W1 x2.on := x2.ext.mono (fun k _ q => q.elim id (fun q => q.elim))
  have z1 : x2.on.cell? ⟨b, 86, none⟩ = some ov := by rw [hx2.cell (p := ⟨b, 86, none⟩) (Nat.lt_of_lt_of_le hb1 X.out.size) (fun q => by rw [nb1] at q; exact q)]; exact q1'
  have zf : x2.on.frozen? ⟨b, 86, none⟩ = false := by
    have e1 : W1.frozen? ⟨b, 86, none⟩ = w.frozen? ⟨b, 86, none⟩ := X.out.froz (p := ⟨b, 86, none⟩) hb1 (fun f => f)
    rw [hx2.froz (p := ⟨b, 86, none⟩) (Nat.lt_of_lt_of_le hb1 X.out.size) (fun q => by rw [nb1] at q; exact q), e1]
    exact HR.out.rf id 86
  have P := Go.Lib.hid (HR.out.sent (x := ⟨g.id, to_, m⟩) id id X.out (by rw [HE.out.2.1]; exact hx2) (by rw [HE.out.2.2]; exact hO5) HX.out (by rw [HE.out.2.1]; exact hr5) (by rw [HE.out.1, HL.out]; exact ⟨M, rfl, HM.out, HI.out.2.1, HI.out.1⟩))
  clear hO5 hr5 hk4 hB4 hx2 q0' q1'
  go_wp2_with fail
  go_returns
  obtain ⟨col', hr, hc, hx⟩ := P.out
  exact ⟨rfl, ⟨col', _, hr, hc, .inl ⟨rfl, rfl⟩⟩, hx.1, hx.2⟩
end
end Go.Proofs.YtflpkoafebjfdaaGreat

/- Contracts of layer 18 (replica): tell. -/
namespace Go.Proofs.YtflpkoafebjfdaaGreat
open Go.RowKit Go.Lib F64
set_option linter.unusedSimpArgs false
set_option linter.unusedVariables false
attribute [local go_sem] run_store_float
def tellN (g : Rp) (m : Ms) (i : Nat) : Rp := { g with out := g.out ++ ((g.log.mem.take i).filter (fun t => decide (t ≠ g.id))).map (fun t => (⟨g.id, t, m⟩ : Pk)) }
theorem tellN_zero (g : Rp) (m : Ms) : tellN g m 0 = g := by unfold tellN; simp
theorem tellN_end (g : Rp) (m : Ms) (i : Nat) (h : g.log.mem.length ≤ i) : tellN g m i = tellG g m := by unfold tellN tellG othersR; rw [List.take_of_length_le h]
theorem tellN_yes (g : Rp) (m : Ms) (i : Nat) (h : i < g.log.mem.length) (hn : g.log.mem[i] ≠ g.id) : tellN g m (i + 1) = sendG (tellN g m i) g.log.mem[i] m := by
  unfold tellN sendG
  rw [List.take_succ_eq_append_getElem h, List.filter_append, List.map_append]
  simp [hn]
theorem tellN_no (g : Rp) (m : Ms) (i : Nat) (h : i < g.log.mem.length) (hn : g.log.mem[i] = g.id) : tellN g m (i + 1) = tellN g m i := by
  unfold tellN
  rw [List.take_succ_eq_append_getElem h, List.filter_append, List.map_append]
  simp [hn]
theorem tellN_len (g : Rp) (m : Ms) (i : Nat) : (tellN g m i).out.length ≤ g.out.length + g.log.mem.length := by
  unfold tellN
  rw [List.length_append, List.length_map]
  have h1 := List.length_filter_le (fun t => decide (t ≠ g.id)) (g.log.mem.take i)
  have h2 := List.length_take_le i g.log.mem
  have h3 : (g.log.mem.take i).length ≤ g.log.mem.length := by rw [List.length_take]; omega
  omega
section
variable {b : Nat} {col : Nat → Nat} {A : RA} {g : Rp}
set_option maxHeartbeats 8000000 in
set_option maxRecDepth 100000 in
theorem rep_tell (m : Ms) (M : MA) (w : World) (h : RepW w b col A g) (hm : MsW (hide col w) M m) (hid : I64 g.id) (hl : g.out.length + g.log.mem.length ≤ 1000000) : Calls Tryz.prog 95 #[.pointer (some ⟨b, 0, none⟩), .agg (m.cells M).toArray] w fun e w' =>
    e = .returned (.tuple #[]) ∧ RPost w b col A g w' (tellG g m) := by
  obtain ⟨L, hL⟩ : ∃ L : List Value, L = m.cells M := ⟨_, rfl⟩
  have HL := Go.Lib.hid hL
  have HSz := Go.Lib.hid (show (Tryz.prog.info? 43).map (·.size) = some L.length by rw [hL]; kernel_rfl)
  rw [← hL]
  clear hL
  have X := Go.Lib.hid ((Ext.refl Non w).alloc (.cells L.toArray 43))
  obtain ⟨kb, hkb⟩ : ∃ kb, kb = w.heap.size := ⟨_, rfl⟩
  have BL : Hid (Loc (w.alloc (.cells L.toArray 43)) col kb L 43) := Go.Lib.hid ⟨Bx.newAt w L 43 kb hkb, by rw [hkb]; exact h.new _ (Nat.le_refl _)⟩
  have N := Go.Lib.hid ((Nw.start h).extN X.out)
  have HM := Go.Lib.hid (hm.extN (hide_extN (col := col) X.out))
  have HC := Go.Lib.hid (h.conf.extN (hide_extN (col := col) X.out))
  have hcl := h.conf.le; have hcs := h.conf.small
  have HI := Go.Lib.hid (And.intro hid hl)
  have q0 := h.t0 id; have q1 := h.tmem id
  clear h hm hid hl
  go_enter Tryz.func95, Tryz.ntmps95
  go_upto_region 1 with fail
  rw [← hkb]
  have HKB := Go.Lib.hid hkb
  clear hkb
  generalize hW1 : World.alloc _ _ = W1 at *
  have e0 : W1.cell? ⟨b, 0, none⟩ = some (.pointer (some ⟨A.bt, 0, none⟩)) := N.out.r.t0 id
  have e1 : W1.cell? ⟨A.bt, 4, none⟩ = some (.slice A.ca g.log.mem.length A.cc) := N.out.r.tmem id
  clear q0 q1 hW1
  go_wp2_with fail
  go_loopw [15] (fun iv wr => ∃ (i : Nat) (col' : Nat → Nat) (A' : RA), i ≤ g.log.mem.length ∧ iv = .int .i64 i ∧ Hid (Nw w b col A g wr col' A' (tellN g m i)) ∧ Hid (Loc wr col' kb L 43) ∧ Hid (MsW (hide col' wr) M m) ∧ Hid (Ints (hide col' wr) A.ca A.cc g.log.mem)) (fun iv _ => g.log.mem.length - (intOf iv).toNat)
  case atStart => exact ⟨0, col, A, Nat.zero_le _, rfl, Go.Lib.hid (by rw [tellN_zero]; exact N.out), BL, HM, HC⟩
  case round =>
    clear N BL HM HC e0 e1 X
    obtain ⟨i, col1, A1, hi, rfl, N1, B1, M1, C1⟩ := hrel
    by_cases hlt : i < g.log.mem.length
    · obtain ⟨cb, co, hca, cx, hxi⟩ := C1.out.show.at_ i hlt
      have HY := Go.Lib.hid (tellN_yes g m i hlt); have HN := Go.Lib.hid (tellN_no g m i hlt)
      have HLn := Go.Lib.hid (tellN_len g m i)
      generalize g.log.mem[i] = x at *
      have z0 : wr.cell? ⟨b, 1, none⟩ = some (.int .i64 g.id) := N1.out.r.rid id
      rw [hca]
      by_cases hx : x = g.id
      · have hb2 : (x != g.id) = false := by rw [hx]; simp
        have HQ := Go.Lib.hid (HN.out hx)
        rw [hx] at cx
        have hb3 : (g.id != g.id) = false := by simp
        clear hx
        go_wp2_with fail
        go_roundw
        case rel => exact ⟨i + 1, col1, A1, hlt, by go_num, by rw [HQ.out]; exact N1, B1, M1, by rw [← hca]; exact C1⟩
        case measure => simp [intOf]; omega
      · have hb2 : (x != g.id) = true := by simpa using hx
        have HQ := Go.Lib.hid (HY.out hx)
        have HXI := Go.Lib.hid hxi
        clear hx hxi
        have RG := Go.Lib.hid B1.out.h.range
        go_wp2_with (refine wpList_load_mid rfl 43 _ rfl kb 0 rfl L _ RG.out Tryz.underlying43 rfl HSz.out ?_)
        have P := rep_send x m M _ N1.out.r M1.out HXI.out HI.out.1 (Nat.le_trans HLn.out HI.out.2)
        rw [← HL.out] at P
        refine Calls.mono P ?_
        clear P
        rintro e w2 ⟨rfl, p⟩
        obtain ⟨col2, A2, N2, hc2, x2, -⟩ := N1.out.step p
        have N3 := Go.Lib.hid N2; have B3 := Go.Lib.hid (B1.out.ext x2 hc2); have M3 := Go.Lib.hid (M1.out.step x2 hc2); have C3 := Go.Lib.hid (ints_step C1.out x2 hc2)
        clear p N2 hc2 x2 N1 B1 M1 C1
        go_wp2_with fail
        go_roundw
        case rel => exact ⟨i + 1, col2, A2, hlt, by go_num, by rw [HQ.out]; exact N3, B3, M3, by rw [← hca]; exact C3⟩
        case measure => simp [intOf]; omega
    · have hil : g.log.mem.length ≤ i := by omega
      have HQ := Go.Lib.hid (tellN_end g m i hil)
      go_wp2
      go_returns
      exact ⟨rfl, by rw [← HQ.out]; exact N1.out.post⟩
end
end Go.Proofs.YtflpkoafebjfdaaGreat

/- Contracts of layer 18 (replica): say. -/
namespace Go.Proofs.YtflpkoafebjfdaaGreat
open Go.RowKit Go.Lib F64
set_option linter.unusedSimpArgs false
set_option linter.unusedVariables false
attribute [local go_sem] run_store_float
attribute [local go_sem low] EW.cellN EW.frozN alloc_cell_or alloc_froz_or EW.cellF EW.frozF EW.cell1 EW.froz1
attribute [local go_sem] relAt relUpon relAtT relUponT
attribute [local go_sem low] EW.cellO EW.frozO
theorem info_msg : (Tryz.prog.info? 43).map (fun i => (i.zero, i.size, i.bytes)) = some (some (.agg #[.int .i64 0, .int .i64 0, .int .i64 0, .int .i64 0, .int .i64 0, .int .i64 0, .int .i64 0, .string ⟨#[]⟩, .float .f64 0, .int .i64 0, .int .i64 0, .float .f64 0, .string ⟨#[]⟩, .slice none 0 0, .slice none 0 0, .slice none 0 0, .slice none 0 0]), 17, 216) := by kernel_rfl
theorem MsW.withEp {w : World} {M : MA} {m : Ms} (h : MsW w M m) {ep : Int} (he : I64 ep) : MsW w M (withEp m ep) := ⟨h.n, h.s, h.c, h.l, { h.ok with e := he }⟩
theorem cells_ep (m : Ms) (M : MA) (ep : Int) : (m.cells M).set 1 (.int .i64 ep) = (withEp m ep).cells M := rfl
section
variable {b : Nat} {col : Nat → Nat} {A : RA} {g : Rp}
set_option maxHeartbeats 8000000 in
set_option maxRecDepth 100000 in
theorem rep_say (m : Ms) (M : MA) (w : World) (h : RepW w b col A g) (hm : MsW (hide col w) M m) (hid : I64 g.id) (hep : I64 g.log.ep) (hl : g.out.length + g.log.mem.length ≤ 1000000) (hl2 : g.says.length ≤ 1000000) : Calls Tryz.prog 170 #[.pointer (some ⟨b, 0, none⟩), .agg (m.cells M).toArray] w fun e w' =>
    e = .returned (.tuple #[]) ∧ RPost w b col A g w' (sayG g m) := by
  obtain ⟨L, hL⟩ : ∃ L : List Value, L = m.cells M := ⟨_, rfl⟩
  have HL := Go.Lib.hid hL
  have HLl := Go.Lib.hid (show (L.set 1 (.int .i64 g.log.ep)).length = 17 by rw [hL]; rfl)
  have HSz := Go.Lib.hid (show (Tryz.prog.info? 43).map (·.size) = some (L.set 1 (.int .i64 g.log.ep)).length by rw [hL]; kernel_rfl)
  have hB1 : Hid (∀ u ∈ (L.set 1 (.int .i64 g.log.ep)), u.oneCell' = true) := Go.Lib.hid (by rw [hL, cells_ep]; unfold Ms.cells; simp [Value.oneCell'])
  have BF := Go.Lib.hid (show Instr.fill (fun i => some (i * 17, 17)) ((Array.range (1 * 17)).map ((Value.agg #[.int .i64 0, .int .i64 0, .int .i64 0, .int .i64 0, .int .i64 0, .int .i64 0, .int .i64 0, .string ⟨#[]⟩, .float .f64 0, .int .i64 0, .int .i64 0, .float .f64 0, .string ⟨#[]⟩, .slice none 0 0, .slice none 0 0, .slice none 0 0, .slice none 0 0]).cells[· % (Value.agg #[.int .i64 0, .int .i64 0, .int .i64 0, .int .i64 0, .int .i64 0, .int .i64 0, .int .i64 0, .string ⟨#[]⟩, .float .f64 0, .int .i64 0, .int .i64 0, .float .f64 0, .string ⟨#[]⟩, .slice none 0 0, .slice none 0 0, .slice none 0 0, .slice none 0 0]).cells.size]!)) [(0, .agg (L.set 1 (.int .i64 g.log.ep)).toArray)] = some (L.set 1 (.int .i64 g.log.ep)).toArray by rw [hL, cells_ep]; unfold Ms.cells; kernel_rfl)
  rw [← hL]
  have hLlen : L.length = 17 := by rw [hL]; rfl
  clear hL
  have X := Go.Lib.hid ((Ext.refl Non w).alloc (.cells L.toArray 43))
  obtain ⟨kb, hkb⟩ : ∃ kb, kb = w.heap.size := ⟨_, rfl⟩
  have B0 := Go.Lib.hid (Bx.newAt w L 43 kb hkb)
  have HNW := Go.Lib.hid h.new
  have HR := Go.Lib.hid h
  have HI := Go.Lib.hid (And.intro hid (And.intro hep (And.intro hl hl2)))
  have HM := Go.Lib.hid hm
  have q0 := h.t0 id; have q1 := h.tep id
  clear h hm hid hep hl hl2
  go_enter Tryz.func170, Tryz.ntmps170
  go_upto_region 1 with fail
  rw [← hkb]
  have HKB := Go.Lib.hid hkb
  clear hkb
  generalize hW1 : World.alloc _ _ = W1 at *
  have R1 := Go.Lib.hid (HR.out.extN X.out)
  have e0 : W1.cell? ⟨b, 0, none⟩ = some (.pointer (some ⟨A.bt, 0, none⟩)) := R1.out.t0 id
  have e1 : W1.cell? ⟨A.bt, 3, none⟩ = some (.int .i64 g.log.ep) := R1.out.tep id
  have e2 : W1.cell? ⟨kb, 1, none⟩ = some (.int .i64 m.ep) := B0.out.cell (j := 1) (by rw [HL.out]; rfl)
  have e3 : W1.frozen? ⟨kb, 1, none⟩ = false := froz_of_heap B0.out.h
  have hkb0 : kb < W1.heap.size := B0.out.lt
  have hnb : kb ≠ b := by have := HKB.out; have := HR.out.b1; omega
  have hnt : kb ≠ A.bt := by have := HKB.out; have := HR.out.b2; omega
  have XN : Hid (Ext Non w (W1.setCell ⟨kb, 1, none⟩ (.int .i64 g.log.ep))) := Go.Lib.hid (X.out.setCell (.inr (by have := HKB.out; show w.heap.size ≤ kb; omega)) _)
  have B1 := Go.Lib.hid (B0.out.set (j := 1) (.int .i64 g.log.ep))
  go_upto_region 2 with fail
  clear e0 e1 e2 e3 hkb0 hnb hnt R1 B0 hLlen X
  generalize W1.setCell _ _ = W2 at *
  have HL2 : Hid (L.set 1 (.int .i64 g.log.ep) = (withEp m g.log.ep).cells M) := Go.Lib.hid (by rw [HL.out]; rfl)
  generalize hL2 : L.set 1 (.int .i64 g.log.ep) = L2 at *
  clear hL2
  have N2 := Go.Lib.hid ((Nw.start HR.out).extN XN.out)
  have L2' : Hid (Loc W2 col kb L2 43) := Go.Lib.hid ⟨B1.out, HNW.out _ (by have := HKB.out; omega)⟩
  have M2 := Go.Lib.hid ((HM.out.extN (hide_extN (col := col) XN.out)).withEp HI.out.2.1)
  have RG := Go.Lib.hid B1.out.range
  go_wp2_with (refine wpList_load_mid rfl 43 _ rfl kb 0 rfl L2 _ RG.out Tryz.underlying43 rfl HSz.out ?_)
  have P := rep_tell (withEp m g.log.ep) M _ N2.out.r M2.out HI.out.1 HI.out.2.2.1
  rw [← HL2.out] at P
  refine Calls.mono P ?_
  clear P
  rintro e w3 ⟨rfl, p⟩
  obtain ⟨col3, A3, N3', hc3, x3, -⟩ := N2.out.step p
  have N3 := Go.Lib.hid N3'; have B3 := Go.Lib.hid (L2'.out.ext x3 hc3); have M3 := Go.Lib.hid (M2.out.step x3 hc3)
  clear p N3' hc3 x3 N2 L2' M2 RG B1 XN
  have DS : Hid (sayG g m = { tellG g (withEp m g.log.ep) with says := g.says ++ [withEp m g.log.ep] }) := Go.Lib.hid rfl
  obtain ⟨xr, hown, hrows⟩ := (N3.out.r.says id).row
  have HO := Go.Lib.hid (show RowZ w3 43 17 A3.sv g.says.length xr from hown)
  have HX := Go.Lib.hid hrows
  have HC := Go.Lib.hid (fun k (q : Row A3.sv k) => (N3.out.r.says id).c k q)
  have HLt := Go.Lib.hid (fun k (q : Row A3.sv k) => (N3.out.r.says id).lt k q)
  clear hown hrows
  have q1 : w3.cell? ⟨b, 77, none⟩ = some A3.sv := N3.out.r.rsay id
  generalize hov : A3.sv = ov at *
  generalize hgn : g.says.length = n1 at *
  have HE := Go.Lib.hid (And.intro hov hgn)
  clear hov hgn
  have nb1 : Row ov b = False := eq_false (fun q => by have := HC.out b q; rw [N3.out.r.c1] at this; cases this)
  have nb2 : Row ov kb = False := eq_false (fun q => by have := HC.out kb q; rw [B3.out.c] at this; cases this)
  have nn1 : Non b = False := rfl
  have nn2 : Non kb = False := rfl
  go_upto_region 3 with fail
  apply wp_region_wr 8 [Mo.is _, Mo.is _, Mo.is _, Mo.is _, Mo.is _, Mo.is _, moOne w3.heap.size L2 43, moRow ov w3.heap.size 0 43 17 (n1 + 1) (xr ++ L2)] (Row ov) 7 (fun w' => RowZ w' 43 17 ov n1 xr) (Non) 9999 (fun _ => True) (by kernel_rfl) (by kernel_rfl) (by kernel_rfl) (by kernel_rfl) (by kernel_rfl) (by decide) (by kernel_rfl) (by decide) ?ta6 ?tb6 ?ha6 ?hb6 ?hc6 ?hd6 ?ma6 ?mb6 ?st6 ?q6
  case ta6 => exact HO.out
  case tb6 => exact trivial
  case ha6 => exact fun _ _ x h => h.extN x
  case hb6 => exact fun _ _ x h => h.extN x
  case hc6 => exact fun _ _ _ _ => trivial
  case hd6 => exact fun _ _ _ _ => trivial
  case st6 =>
    refine ⟨?_, ?_, ?_, ?_, ?_, ?_, ?_, ?_, trivial⟩
    · refine .inl ⟨by decide, by decide, ?_⟩
      intro a' w' hx hs hd
      obtain ⟨y, rfl⟩ := hx.ew
      have e0 : a'.tmps[0]?.getD undef = _ := hs 0 rfl
      simp only [List.getElem?_toArray, List.getElem?_cons_succ, List.getElem?_cons_zero, Option.getD_some, Array.getElem?_eq_some_iff] at e0
      refine .inl ⟨rfl, ?_⟩
      clear hs hd hx
      go_simp
      exact ⟨Ext.refl _ _, rfl⟩
    · refine .inl ⟨by decide, by decide, ?_⟩
      intro a' w' hx hs hd
      obtain ⟨y, rfl⟩ := hx.ew
      have e0 : a'.tmps[0]?.getD undef = _ := hs 0 rfl
      simp only [List.getElem?_toArray, List.getElem?_cons_succ, List.getElem?_cons_zero, Option.getD_some, Array.getElem?_eq_some_iff] at e0
      refine .inl ⟨rfl, ?_⟩
      clear hs hd hx
      go_simp
      exact ⟨Ext.refl _ _, rfl⟩
    · refine .inl ⟨by decide, by decide, ?_⟩
      intro a' w' hx hs hd
      obtain ⟨y, rfl⟩ := hx.ew
      have e17 : a'.tmps[17]?.getD undef = _ := hd 1 17 rfl rfl
      refine .inl ⟨rfl, ?_⟩
      clear hs hd hx
      go_simp
      exact ⟨Ext.refl _ _, rfl⟩
    · refine .inl ⟨by decide, by decide, ?_⟩
      intro a' w' hx hs hd
      obtain ⟨y, rfl⟩ := hx.ew
      have e18 : a'.tmps[18]?.getD undef = _ := hd 2 18 rfl rfl
      refine .inl ⟨rfl, ?_⟩
      clear hs hd hx
      go_simp
      exact ⟨Ext.refl _ _, rfl⟩
    · refine .inl ⟨by decide, by decide, ?_⟩
      intro a' w' hx hs hd
      obtain ⟨y, rfl⟩ := hx.ew
      have e19 : a'.tmps[19]?.getD undef = _ := hd 3 19 rfl rfl
      refine .inl ⟨rfl, ?_⟩
      clear hs hd hx
      go_simp
      exact ⟨Ext.refl _ _, rfl⟩
    · refine .inl ⟨by decide, by decide, ?_⟩
      intro a' w' hx hs hd
      obtain ⟨y, rfl⟩ := hx.ew
      have e3 : a'.tmps[3]?.getD undef = _ := hs 3 rfl
      simp only [List.getElem?_toArray, List.getElem?_cons_succ, List.getElem?_cons_zero, Option.getD_some, Array.getElem?_eq_some_iff] at e3
      refine .inl ⟨rfl, ?_⟩
      clear hs hd hx
      exact rel_load_row 43 _ rfl kb 0 ((eval_tmp _ _).trans e3) L2 _ (B3.out.h.ext y.ext (fun q => q.elim (fun q => by rw [nb2] at q; exact q) (fun q => q))).range Tryz.underlying43 rfl HSz.out rfl
    · refine .inl ⟨by decide, by decide, ?_⟩
      intro a' w' hx hs hd
      obtain ⟨y, rfl⟩ := hx.ew
      have e21 : a'.tmps[21]?.getD undef = _ := hd 5 21 rfl rfl
      refine .inl ⟨rfl, ?_⟩
      clear hs hd hx
      exact rel_slice_one 32 43 _ rfl L2 17 _ ((eval_tmp _ _).trans e21) Tryz.underlying32 (by kernel_rfl) (by omega) (by omega) BF.out (fun k w'' hk x hB => ⟨k, rfl, by rw [hk]; exact y.ext.size, hB⟩)
    · refine .inr (.inl ⟨rfl, ?_⟩)
      intro a' w' hx hst hs hd
      obtain ⟨y, rfl⟩ := hx.ew
      have e20 : a'.tmps[20]?.getD undef = _ := hd 4 20 rfl rfl
      obtain ⟨k4, e22, hk4, hB4⟩ : ∃ k, a'.tmps[22]?.getD undef = .slice (some ⟨k, 0, none⟩) 1 1 ∧ w3.heap.size ≤ k ∧ Bx y.on k L2 43 := hd 6 22 rfl rfl
      refine ⟨rfl, ?_⟩
      clear hs hd hx
      exact rel_append_z _ _ 32 rfl 43 17 216 _ Tryz.underlying32 info_msg (by rfl) (by omega) (by omega) ov n1 xr ((eval_tmp _ _).trans e20) hst k4 _ _ ((eval_tmp _ _).trans e22) hB4 HLl.out hB1.out HI.out.2.2.2 (fun v' w' x o r => ⟨v', rfl, o, fun k hk => (r k hk).imp id (fun z => Nat.le_trans y.ext.size z)⟩)
  case ma6 => exact ⟨.inr (Mo.is_still _ _), .inr (Mo.is_still _ _), .inr (Mo.is_still _ _), .inr (Mo.is_still _ _), .inr (Mo.is_still _ _), .inr (Mo.is_still _ _), .inr (moOne_still (fun k q => by have := HLt.out k q; omega)), .inl rfl, trivial⟩
  case mb6 => exact ⟨.inr (Mo.mono _), .inr (Mo.mono _), .inr (Mo.mono _), .inr (Mo.mono _), .inr (Mo.mono _), .inr (Mo.mono _), .inr (Mo.mono _), .inr (Mo.mono _), trivial⟩
  case' q6 =>
    intro vs w' hx hRR
    obtain ⟨x4, rfl⟩ := hx.ew
    have q0 : vs 0 = _ := hRR 0 (by decide)
    have q1 : vs 1 = _ := hRR 1 (by decide)
    have q2 : vs 2 = _ := hRR 2 (by decide)
    have q3 : vs 3 = _ := hRR 3 (by decide)
    have q4 : vs 4 = _ := hRR 4 (by decide)
    have q5 : vs 5 = _ := hRR 5 (by decide)
    obtain ⟨k4, q6, hk4, hB4⟩ : ∃ k, vs 6 = .slice (some ⟨k, 0, none⟩) 1 1 ∧ w3.heap.size ≤ k ∧ Bx x4.on k L2 43 := hRR 6 (by decide)
    obtain ⟨u5, q7, hO5, hr5⟩ : ∃ u, vs 7 = u ∧ x4.on.ownsRow 0 43 17 u (n1 + 1) (xr ++ L2) ∧ (∀ k, Row u k → Row ov k ∨ w3.heap.size ≤ k) := hRR 7 (by decide)
    clear hRR hx
    simp only [putAll, List.take_succ_cons, List.take_zero, List.drop_succ_cons, List.drop_zero, Act.put, List.setIfInBounds_toArray, List.set_cons_zero, List.set_cons_succ, Nat.reduceAdd, Nat.zero_add]
    simp only [q0, q1, q2, q3, q4, q5, q6, q7]
    clear q0 q1 q2 q3 q4 q5 q6 q7 vs
  obtain ⟨ua, uc, hus⟩ := row_slice hO5
  subst hus
  have hx2 : Ext (Row ov) w3 x4.on := x4.ext.mono (fun k _ q => q.elim id (fun q => q.elim))
  have z1 : x4.on.cell? ⟨b, 77, none⟩ = some ov := by rw [hx2.cell (p := ⟨b, 77, none⟩) N3.out.r.b1 (fun q => by rw [nb1] at q; exact q)]; exact q1
  have zf : x4.on.frozen? ⟨b, 77, none⟩ = false := by
    rw [hx2.froz (p := ⟨b, 77, none⟩) N3.out.r.b1 (fun q => by rw [nb1] at q; exact q)]
    exact N3.out.r.rf id 77
  have P := Go.Lib.hid (N3.out.r.said (x := withEp m g.log.ep) id id (Ext.refl Non w3) (by rw [HE.out.1]; exact hx2) (by rw [show (tellG g (withEp m g.log.ep)).says.length = n1 from HE.out.2]; exact hO5) HX.out (by rw [HE.out.1]; exact hr5) (by rw [HL2.out]; exact ⟨M, rfl, M3.out⟩))
  clear hO5 hr5 hk4 hB4 hx2 q1
  go_wp2_with fail
  go_returns
  obtain ⟨col', hr, hc, hx⟩ := P.out
  exact ⟨rfl, by rw [DS.out]; exact (N3.out.same hr rfl rfl hc hx).post⟩
end
end Go.Proofs.YtflpkoafebjfdaaGreat
