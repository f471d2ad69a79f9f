/- Joined texts: RdG. What each proves stands at its head; no conditions beside those in its theorems. -/
import Derived.Test.YtfefeepljbfcdaaGreatPjBB
/- Layer 1 (pack): the program's reader. -/
namespace Go.Proofs.YtfefeepljbfcdaaGreat
open Go.RowKit Go.Lib
set_option linter.unusedSimpArgs false
set_option linter.unusedVariables false
attribute [local go_sem] run_store_float
attribute [local go_sem low] EW.cellN EW.frozN alloc_cell_or alloc_froz_or EW.cellF EW.frozF EW.cell1 EW.froz1
attribute [local go_sem] relAt relUpon
def Byt (w : World) (k : Nat) (s : List UInt8) : Prop := k < w.heap.size ∧ ∀ i (h : i < s.length), w.cell? ⟨k, i, none⟩ = some (.int .u8 (s[i].toNat : Int))
theorem Byt.extN {w w' : World} {k : Nat} {s : List UInt8} (h : Byt w k s) (x : Ext Non w w') : Byt w' k s := ⟨Nat.lt_of_lt_of_le h.1 x.size, fun i hi => by rw [x.cell (p := ⟨k, i, none⟩) h.1 (fun f => f)]; exact h.2 i hi⟩
theorem Byt.ext {S : Nat → Prop} {w w' : World} {k : Nat} {s : List UInt8} (h : Byt w k s) (x : Ext S w w') (hk : ¬ S k) : Byt w' k s := ⟨Nat.lt_of_lt_of_le h.1 x.size, fun i hi => by rw [x.cell (p := ⟨k, i, none⟩) h.1 hk]; exact h.2 i hi⟩
theorem bytes_run (w : World) (l : List UInt8) : ∃ cap w', (convert 9 120 (.string (sB l))).run Tryz.prog w = .ok (.slice (some ⟨w.heap.size, 0, none⟩) l.length cap) w' ∧ Ext Non w w' ∧ Byt w' w.heap.size l := by
 refine ⟨_, _, run_bytes_of_string w 9 120 5 (sB l) Tryz.underlying9 Tryz.underlying120 Tryz.underlying5, ((Ext.refl _ _).drew).alloc _, ?_⟩
 refine ⟨by simp, fun i hi => ?_⟩
 have hs : i < (sB l).size := by rw [sB_size]; exact hi
 have hd := heap_alloc_new w.drew (.cells (bytesRow (sB l) (grownCap w (sB l).size 0 5)) 5 ((bytesRow (sB l) (grownCap w (sB l).size 0 5)).size, (bytesRow (sB l) (grownCap w (sB l).size 0 5)).size + 1))
 have hd2 : w.drew.heap.size = w.heap.size := rfl
 rw [hd2] at hd
 unfold World.cell?
 rw [hd]
 simp [bytesRow, Array.getElem?_append, sB, hi]
def moByt (n : Nat) (l : List UInt8) : Mo := ⟨fun v w => ∃ k cap, v = .slice (some ⟨k, 0, none⟩) l.length cap ∧ Byt w k l ∧ n ≤ k, fun _ _ _ x ⟨k, c, e, h, q⟩ => ⟨k, c, e, h.extN x, q⟩⟩
theorem rel_bytes {o : Oper} {a : Act} {w : World} {R : Value → World → Prop} (x : Operand) (ho : o.op = .convert 9 120 x) (l : List UInt8) (hx : a.eval x = .string (sB l))
  (h : ∀ cap w', Ext Non w w' → Byt w' w.heap.size l → R (.slice (some ⟨w.heap.size, 0, none⟩) l.length cap) w') : relAt Tryz.prog o a w R := by
 obtain ⟨cap, w', hr, hx3, hb⟩ := bytes_run w l
 unfold relAt execOp
 simp only [ho, resolve, Sem.run_bind, Sem.run_pure, Result.andThen_ok, List.map_toArray, List.map_cons, List.map_nil, hx, hr]
 exact ⟨hx3, h _ _ hx3 hb⟩
structure RdG (w : World) (b : Nat) (r : Rd) : Prop where
 box : ∃ (T : List UInt8) (a : Nat), a ≤ T.length ∧ r.s = T.drop a ∧ T.length ≤ 4611686018427387904 ∧ Bx w b [.string (sB T), .int .i64 a, .bool r.bad] 119
theorem RdG.extN {w w' : World} {b : Nat} {r : Rd} (h : RdG w b r) (x : Ext Non w w') : RdG w' b r := by obtain ⟨T, a, h1, h2, h3, h4⟩ := h.box; exact ⟨T, a, h1, h2, h3, h4.extN x⟩
theorem RdG.ext {S : Nat → Prop} {w w' : World} {b : Nat} {r : Rd} (h : RdG w b r) (x : Ext S w w') (hs : ¬ S b) : RdG w' b r := by obtain ⟨T, a, h1, h2, h3, h4⟩ := h.box; exact ⟨T, a, h1, h2, h3, h4.ext x hs⟩
theorem RdG.lt {w : World} {b : Nat} {r : Rd} (h : RdG w b r) : b < w.heap.size := by obtain ⟨T, a, h1, h2, h3, h4⟩ := h.box; exact h4.lt
theorem RdG.small {w : World} {b : Nat} {r : Rd} (h : RdG w b r) : r.s.length ≤ 4611686018427387904 := by obtain ⟨T, a, h1, h2, h3, h4⟩ := h.box; rw [h2, List.length_drop]; omega
theorem rdg_Read (t : List UInt8) (hs : t.length ≤ 4611686018427387904) (w : World) : Calls Tryz.prog 34 #[.string (sB t)] w fun e w' =>
  ∃ b, e = .returned (.pointer (some ⟨b, 0, none⟩)) ∧ Ext Non w w' ∧ RdG w' b ⟨t, false⟩ ∧ w.heap.size ≤ b := by
 generalize hg : sB t = s
 have HG := hI_ hg
 clear hg
 go_enter Tryz.func34, Tryz.ntmps34
 go_wp2
 go_returns
 exact ⟨w.heap.size, rfl, exG0, ⟨t, 0, Nat.zero_le _, rfl, hs, by rw [HG.out]; exact Bx.newAt _ _ _ _ rfl⟩, Nat.le_refl _⟩
theorem rdg_Left (b : Nat) (r : Rd) (w : World) (h : RdG w b r) : Calls Tryz.prog 75 #[.pointer (some ⟨b, 0, none⟩)] w fun e w' => e = .returned (.int .i64 (r.s.length : Int)) ∧ ∃ n, w' = w.drewN n := by
 obtain ⟨l, bad⟩ := r
 obtain ⟨T, a, ha, hl, hT, hB⟩ := h.box
 have hll : (l.length : Int) = (T.length : Int) - (a : Int) := by have h2 : l = T.drop a := hl; rw [h2, List.length_drop]; omega
 have q0 : w.cell? ⟨b, 0, none⟩ = some (.string (sB T)) := hB.cell rfl
 have q1 : w.cell? ⟨b, 1, none⟩ = some (.int .i64 a) := hB.cell rfl
 have hsz : ((sB T).size : Int) = (T.length : Int) := by rw [sB_size]
 have w1 : IntKind.i64.wrap (((sB T).size : Int) - (a : Int)) = (l.length : Int) := (IntWalk.i64_in _ (by omega)).trans (by omega)
 have W1 : Hid (wrap64 (((sB T).size : Int) - (a : Int)) = (l.length : Int)) := hI_ ((IntWalk.wrap64_in _ (by omega)).trans (by omega))
 clear hl h hB hll hsz
 show Calls Tryz.prog 75 #[.pointer (some ⟨b, 0, none⟩)] w fun e w' => e = .returned (.int .i64 (l.length : Int)) ∧ ∃ n, w' = w.drewN n
 obtain ⟨ln, hln⟩ : ∃ ln : Int, ln = (l.length : Int) := ⟨_, rfl⟩
 rw [← hln] at w1 W1 ⊢
 clear hln
 generalize sB T = s at *
 go_enter Tryz.func75, Tryz.ntmps75
 go_wp2_with fail
 go_quiet (fail)
 go_wp2
 go_returns
 exact ⟨rfl, _, rfl⟩
theorem or8 (n c : Nat) (hn : n ≤ 72057594037927935) (hc : c < 256) : bits .or .u64 ((n : Int) * 256) (c : Int) = ((n * 256 + c : Nat) : Int) := by
 have e : bits .or .u64 ((n : Int) * 256) (c : Int) = IntKind.u64.wrap ((BitVec.ofInt 64 ((n : Int) * 256) ||| BitVec.ofInt 64 (c : Int)).toNat : Int) := rfl
 have e1 : (BitVec.ofInt 64 ((n : Int) * 256)).toNat = n * 256 := by
  rw [BitVec.toNat_ofInt]; omega
 have e2 : (BitVec.ofInt 64 (c : Int)).toNat = c := by
  rw [BitVec.toNat_ofInt]; omega
 rw [e, BitVec.toNat_or, e1, e2, Nat.mul_comm n 256]
 have := Nat.two_pow_add_eq_or_of_lt (i := 8) (b := c) hc n
 have h8 : (2 : Nat) ^ 8 = 256 := by decide
 rw [h8] at this
 rw [← this]
 show ((256 * n + c : Nat) : Int) % 18446744073709551616 = _
 omega
theorem cut_run (s : ByteArray) (a k : Nat) (h : a + k ≤ s.size) (W : World) : (Instr.slice 9 (.string s) (some (.int .i64 (a : Int))) (some (.int .i64 ((a : Int) + (k : Int)))) none).run Tryz.prog W = .ok (.string (s.extract a (a + k))) W := by
 rw [run_slice_string W 9 s .i64 .i64 (a : Int) ((a : Int) + (k : Int)) Tryz.underlying9 (by omega) (by omega) (by omega)]
 rw [show ((a : Int) + (k : Int)).toNat = a + k by omega, Int.toNat_natCast]
set_option maxHeartbeats 2000000 in
set_option maxRecDepth 100000 in
theorem rdg_number0 (b : Nat) (r : Rd) (k : Nat) (hk : k ≤ 8) (w : World) (h : RdG w b r) : Calls Tryz.prog 107 #[.pointer (some ⟨b, 0, none⟩), .int .i64 (k : Int)] w fun e w' =>
  e = .returned (.int .u64 (numV k r : Nat)) ∧ Ext (One b) w w' ∧ RdG w' b (numR k r) ∧ w'.cell? ⟨b, 0, none⟩ = w.cell? ⟨b, 0, none⟩ := by
 obtain ⟨l, bad⟩ := r
 have HH := hI_ h
 obtain ⟨T, a, ha, hl, hT, hB⟩ := h.box
 clear h
 replace hl : l = T.drop a := hl
 replace hB : Bx w b [.string (sB T), .int .i64 (a : Int), .bool bad] 119 := hB
 have HB := hI_ hB
 have HL := hI_ hl
 have hll : l.length = T.length - a := by rw [hl, List.length_drop]
 have HT := hI_ hT
 have q0 : w.cell? ⟨b, 0, none⟩ = some (.string (sB T)) := hB.cell rfl
 have q1 : w.cell? ⟨b, 1, none⟩ = some (.int .i64 a) := hB.cell rfl
 have q2 : w.cell? ⟨b, 2, none⟩ = some (.bool bad) := hB.cell rfl
 have z1 : w.frozen? ⟨b, 1, none⟩ = false := froz_of_heap hB.h
 have z2 : w.frozen? ⟨b, 2, none⟩ = false := froz_of_heap hB.h
 have hsz := sB_size T
 clear hB hl
 cases bad
 ·have w1 : IntKind.i64.wrap (((sB T).size : Int) - (a : Int)) = ((l.length : Nat) : Int) := (IntWalk.i64_in _ (by omega)).trans (by omega)
  have W1 : Hid (wrap64 (((sB T).size : Int) - (a : Int)) = ((l.length : Nat) : Int)) := hI_ ((IntWalk.wrap64_in _ (by omega)).trans (by omega))
  by_cases hkl : l.length < k
  ·as_aux_lemma =>
   have HV : Hid (numV k ⟨l, false⟩ = 0 ∧ numR k ⟨l, false⟩ = ⟨l, true⟩) := hI_ (by
    have hc : canR k ⟨l, false⟩ = false := by unfold canR; simp; omega
    unfold numV numR; rw [hc]; exact ⟨rfl, rfl⟩)
   have dd : decide (l.length < k) = true := decide_eq_true (by omega)
   clear hll hsz hkl
   generalize hse : sB T = s at *
   have HSE := hI_ hse
   clear hse
   generalize l.length = ln at *
   go_enter Tryz.func107, Tryz.ntmps107
   go_wp2_with fail
   go_quiet (fail)
   go_wp2
   go_returns
   rw [HV.out.1, HV.out.2]
   have HB2 := (HB.out.extN ((Ext.refl _ _).drewN nq)).set (j := 2) (.bool true)
   exact ⟨rfl, ((Ext.refl _ _).drewN _).set1 _, ⟨T, a, ha, HL.out, HT.out, by rw [HSE.out]; exact HB2⟩, by rw [q0]; exact HB2.cell rfl⟩
  ·have HV : Hid (numV k ⟨l, false⟩ = beN (l.take k) ∧ numR k ⟨l, false⟩ = ⟨l.drop k, false⟩) := hI_ (by
    have hc : canR k ⟨l, false⟩ = true := by unfold canR; simp; omega
    unfold numV numR; rw [hc]; exact ⟨rfl, rfl⟩)
   have dd : decide (l.length < k) = false := decide_eq_false (by omega)
   have hcr := cut_run (sB T) a k (by omega)
   have HDR : Hid (l.drop k = T.drop (a + k)) := hI_ (by rw [HL.out, List.drop_drop])
   have hak : a + k ≤ T.length := by omega
   have hex : (sB T).extract a (a + k) = sB (l.take k) := by rw [sB_extract, HL.out, Nat.add_sub_cancel_left]
   rw [hex] at hcr
   have hpl : (l.take k).length = k := by rw [List.length_take]; omega
   have w2 : IntKind.i64.wrap ((a : Int) + (k : Int)) = (a : Int) + (k : Int) := IntWalk.i64_in _ (by omega)
   have W2 : Hid (wrap64 ((a : Int) + (k : Int)) = ((a + k : Nat) : Int)) := hI_ ((IntWalk.wrap64_in _ (by omega)).trans (by omega))
   have HK := hI_ hk
   have HAK := hI_ hak
   have HPL := hI_ hpl
   clear hll hsz hkl hex hk hak ha hT
   generalize hse : sB T = s at *
   have HSE := hI_ hse
   clear hse
   generalize l.length = ln at *
   generalize hp : l.take k = p at *
   have HP := hI_ hp
   clear hp
   go_enter Tryz.func107, Tryz.ntmps107
   go_wp2_with fail
   go_quiet (fail)
   go_wp2_with fail
   apply wp_region_rel (relR [Mo.is _, Mo.is _, Mo.is _, Mo.is _, Mo.is _, Mo.is _, Mo.is _, Mo.is _, Mo.is _, Mo.is _, Mo.is _, Mo.is _, Mo.is _, Mo.is _, Mo.is _, moByt w.heap.size p, Mo.is _, Mo.is _]) (by kernel_rfl) (by kernel_rfl) (by kernel_rfl) (relR_mono _) (StepD.all ?st2) ?q2
   case st2 =>
    refine ⟨?_, ?_, ?_, ?_, ?_, ?_, ?_, ?_, ?_, ?_, ?_, ?_, ?_, ?_, ?_, ?_, ?_, ?_, trivial⟩
    ·intro a' w' hx hs hd
     obtain ⟨y, rfl⟩ := hx.ew
     have e0 : a'.tmps[0]?.getD undef = _ := hs 0 rfl
     simp only [aL, aS, aZ] at e0
     refine .inl ⟨rfl, ?_⟩
     clear hs hd hx
     go_simp
     exact ⟨Ext.refl _ _, rfl⟩
    ·intro a' w' hx hs hd
     obtain ⟨y, rfl⟩ := hx.ew
     have e31 : a'.tmps[31]?.getD undef = _ := hd 0 31 rfl rfl
     refine .inl ⟨rfl, ?_⟩
     clear hs hd hx
     go_simp
     exact ⟨Ext.refl _ _, rfl⟩
    ·intro a' w' hx hs hd
     obtain ⟨y, rfl⟩ := hx.ew
     have e32 : a'.tmps[32]?.getD undef = _ := hd 1 32 rfl rfl
     refine .inl ⟨rfl, ?_⟩
     clear hs hd hx
     go_simp
     exact ⟨Ext.refl _ _, rfl⟩
    ·intro a' w' hx hs hd
     obtain ⟨y, rfl⟩ := hx.ew
     have e33 : a'.tmps[33]?.getD undef = _ := hd 2 33 rfl rfl
     refine .inl ⟨rfl, ?_⟩
     clear hs hd hx
     go_simp
     exact ⟨Ext.refl _ _, rfl⟩
    ·intro a' w' hx hs hd
     obtain ⟨y, rfl⟩ := hx.ew
     have e0 : a'.tmps[0]?.getD undef = _ := hs 0 rfl
     simp only [aL, aS, aZ] at e0
     refine .inl ⟨rfl, ?_⟩
     clear hs hd hx
     go_simp
     exact ⟨Ext.refl _ _, rfl⟩
    ·intro a' w' hx hs hd
     obtain ⟨y, rfl⟩ := hx.ew
     have e35 : a'.tmps[35]?.getD undef = _ := hd 4 35 rfl rfl
     refine .inl ⟨rfl, ?_⟩
     clear hs hd hx
     go_simp
     exact ⟨Ext.refl _ _, rfl⟩
    ·intro a' w' hx hs hd
     obtain ⟨y, rfl⟩ := hx.ew
     have e36 : a'.tmps[36]?.getD undef = _ := hd 5 36 rfl rfl
     refine .inl ⟨rfl, ?_⟩
     clear hs hd hx
     go_simp
     exact ⟨Ext.refl _ _, rfl⟩
    ·intro a' w' hx hs hd
     obtain ⟨y, rfl⟩ := hx.ew
     have e37 : a'.tmps[37]?.getD undef = _ := hd 6 37 rfl rfl
     refine .inl ⟨rfl, ?_⟩
     clear hs hd hx
     go_simp
     exact ⟨Ext.refl _ _, rfl⟩
    ·intro a' w' hx hs hd
     obtain ⟨y, rfl⟩ := hx.ew
     have e0 : a'.tmps[0]?.getD undef = _ := hs 0 rfl
     simp only [aL, aS, aZ] at e0
     refine .inl ⟨rfl, ?_⟩
     clear hs hd hx
     go_simp
     exact ⟨Ext.refl _ _, rfl⟩
    ·intro a' w' hx hs hd
     obtain ⟨y, rfl⟩ := hx.ew
     have e39 : a'.tmps[39]?.getD undef = _ := hd 8 39 rfl rfl
     refine .inl ⟨rfl, ?_⟩
     clear hs hd hx
     go_simp
     exact ⟨Ext.refl _ _, rfl⟩
    ·intro a' w' hx hs hd
     obtain ⟨y, rfl⟩ := hx.ew
     have e40 : a'.tmps[40]?.getD undef = _ := hd 9 40 rfl rfl
     refine .inl ⟨rfl, ?_⟩
     clear hs hd hx
     go_simp
     exact ⟨Ext.refl _ _, rfl⟩
    ·intro a' w' hx hs hd
     obtain ⟨y, rfl⟩ := hx.ew
     have e41 : a'.tmps[41]?.getD undef = _ := hd 10 41 rfl rfl
     refine .inl ⟨rfl, ?_⟩
     clear hs hd hx
     go_simp
     exact ⟨Ext.refl _ _, rfl⟩
    ·intro a' w' hx hs hd
     obtain ⟨y, rfl⟩ := hx.ew
     have e1 : a'.tmps[1]?.getD undef = _ := hs 1 rfl
     simp only [aL, aS, aZ] at e1
     refine .inl ⟨rfl, ?_⟩
     clear hs hd hx
     go_simp
     exact ⟨Ext.refl _ _, rfl⟩
    ·intro a' w' hx hs hd
     obtain ⟨y, rfl⟩ := hx.ew
     have e42 : a'.tmps[42]?.getD undef = _ := hd 11 42 rfl rfl
     have e43 : a'.tmps[43]?.getD undef = _ := hd 12 43 rfl rfl
     refine .inl ⟨rfl, ?_⟩
     clear hs hd hx
     go_simp
     exact ⟨Ext.refl _ _, rfl⟩
    ·intro a' w' hx hs hd
     obtain ⟨y, rfl⟩ := hx.ew
     have e34 : a'.tmps[34]?.getD undef = _ := hd 3 34 rfl rfl
     have e38 : a'.tmps[38]?.getD undef = _ := hd 7 38 rfl rfl
     have e44 : a'.tmps[44]?.getD undef = _ := hd 13 44 rfl rfl
     refine .inl ⟨rfl, ?_⟩
     clear hs hd hx
     go_simp
     exact ⟨Ext.refl _ _, rfl⟩
    ·intro a' w' hx hs hd
     obtain ⟨y, rfl⟩ := hx.ew
     have e45 : a'.tmps[45]?.getD undef = _ := hd 14 45 rfl rfl
     refine .inl ⟨rfl, ?_⟩
     clear hs hd hx
     exact rel_bytes _ rfl p ((eval_tmp _ _).trans e45) (fun cap w' x h => ⟨_, _, rfl, h, (y.ext.size : w.heap.size ≤ y.on.heap.size)⟩)
    ·intro a' w' hx hs hd
     obtain ⟨y, rfl⟩ := hx.ew
     obtain ⟨kb, cp, e46, hb, hkb⟩ : ∃ k cap, a'.tmps[46]?.getD undef = .slice (some ⟨k, 0, none⟩) p.length cap ∧ Byt y.on k p ∧ w.heap.size ≤ k := hd 15 46 rfl rfl
     refine .inl ⟨rfl, ?_⟩
     clear hs hd hx
     go_simp
     exact ⟨Ext.refl _ _, rfl⟩
    ·intro a' w' hx hs hd
     obtain ⟨y, rfl⟩ := hx.ew
     refine .inl ⟨rfl, ?_⟩
     clear hs hd hx
     go_simp
     exact ⟨Ext.refl _ _, rfl⟩
   case' q2 =>
    intro vs w' hx hRR
    obtain ⟨x1, rfl⟩ := hx.ew
    have q0 : vs 0 = _ := hRR 0 (by decide)
    have q1 : vs 1 = _ := hRR 1 (by decide)
    have q2 : vs 2 = _ := hRR 2 (by decide)
    have q3 : vs 3 = _ := hRR 3 (by decide)
    have q4 : vs 4 = _ := hRR 4 (by decide)
    have q5 : vs 5 = _ := hRR 5 (by decide)
    have q6 : vs 6 = _ := hRR 6 (by decide)
    have q7 : vs 7 = _ := hRR 7 (by decide)
    have q8 : vs 8 = _ := hRR 8 (by decide)
    have q9 : vs 9 = _ := hRR 9 (by decide)
    have q10 : vs 10 = _ := hRR 10 (by decide)
    have q11 : vs 11 = _ := hRR 11 (by decide)
    have q12 : vs 12 = _ := hRR 12 (by decide)
    have q13 : vs 13 = _ := hRR 13 (by decide)
    have q14 : vs 14 = _ := hRR 14 (by decide)
    obtain ⟨kb, cp, q15, hb, hkb⟩ : ∃ k cap, vs 15 = .slice (some ⟨k, 0, none⟩) p.length cap ∧ Byt x1.on k p ∧ w.heap.size ≤ k := hRR 15 (by decide)
    have q16 : vs 16 = _ := hRR 16 (by decide)
    have q17 : vs 17 = _ := hRR 17 (by decide)
    clear hRR hx
    simp only [putAll, List.take_succ_cons, List.take_zero, List.drop_succ_cons, List.drop_zero, Act.put, List.setIfInBounds_toArray, List.set_cons_zero, List.set_cons_succ, Nat.reduceAdd, Nat.zero_add]
    simp only [q0, q1, q2, q3, q4, q5, q6, q7, q8, q9, q10, q11, q12, q13, q14, q15, q16, q17]
    clear q0 q1 q2 q3 q4 q5 q6 q7 q8 q9 q10 q11 q12 q13 q14 q15 q16 q17 vs
   have HBY := hI_ hb
   have HX1 := hI_ (exG0 : Ext Non w x1.on)
   clear hb
   generalize x1.on = w1 at *
   go_wp2_with fail
   rw [hpl]
   go_loopg [5, 7, 48] k (fun g nv cv iv wr => ∃ i : Nat, i ≤ k ∧ g = k - i ∧ nv = .int .u64 (beN (p.take i) : Nat) ∧ iv = .int .i64 i ∧ w1 = wr)
   case atStart => exact ⟨0, Nat.zero_le _, rfl, rfl, rfl, rfl⟩
   case round =>
    obtain ⟨i, hi, hg, rfl, rfl, rfl⟩ := hrel
    have HG := hI_ hg; clear hg
    by_cases hlt : i < k
    ·have hil : i < p.length := by omega
     have hcell : w1.cell? ⟨kb, i, none⟩ = some (.int .u8 (p[i].toNat : Int)) := HBY.out.2 i hil
     have HTK := hI_ (beN_take hil)
     have hb8 := beN_lt i (p.take i) (by rw [List.length_take]; omega)
     have hp7 : 256 ^ i ≤ 256 ^ 7 := Nat.pow_le_pow_right (by decide) (by have := HK.out; omega)
     have hp77 : (256 : Nat) ^ 7 = 72057594037927936 := by decide
     have hcl : (p[i]).toNat < 256 := UInt8.toNat_lt _
     generalize beN (p.take i) = n at *
     generalize (p[i]).toNat = c at *
     have wi : wrap64 ((i : Int) + 1) = (i : Int) + 1 := IntWalk.wrap64_in _ (by have := HK.out; omega)
     clear hil hpl
     go_wp2_with fail
     rw [or8 n c (by omega) hcl]
     obtain ⟨v, hv⟩ : ∃ v, v = n * 256 + c := ⟨_, rfl⟩
     rw [← hv] at HTK ⊢
     clear hv hcell hcl hb8 hp7 hp77
     go_roundg (k - (i + 1))
     case measure => have := HG.out; omega
     case rel => exact ⟨i + 1, hlt, rfl, congrArg (fun x : Nat => Value.int .u64 (x : Int)) HTK.out.symm, by go_num, rfl⟩
    ·obtain rfl : i = k := by omega
     have HPT : Hid (p.take i = p) := hI_ (List.take_of_length_le (by omega))
     clear hpl
     rw [HPT.out]
     generalize hbp : beN p = n at *
     have HBP := hI_ hbp
     clear hbp
     have d1 : w1.cell? ⟨b, 1, none⟩ = some (.int .i64 a) := (HB.out.extN HX1.out).cell rfl
     have f1 : w1.frozen? ⟨b, 1, none⟩ = false := froz_of_heap (HB.out.extN HX1.out).h
     go_wp2
     go_returns
     rw [HV.out.1, HV.out.2]
     refine ⟨rfl, (HX1.out.ofNon : Ext (One b) w w1).setCell (p := ⟨b, 1, none⟩) (.inl rfl) _, ⟨T, a + i, HAK.out, HDR.out, HT.out, ?_⟩, ?_⟩
     ·rw [HSE.out]
      exact (HB.out.extN HX1.out).set (j := 1) (.int .i64 ((a : Int) + (i : Int)))
     ·rw [q0]
      exact ((HB.out.extN HX1.out).set (j := 1) (.int .i64 ((a : Int) + (i : Int)))).cell rfl
 ·as_aux_lemma =>
  have HV : Hid (numV k ⟨l, true⟩ = 0 ∧ numR k ⟨l, true⟩ = ⟨l, true⟩) := hI_ (by
   unfold numV numR canR; exact ⟨rfl, rfl⟩)
  clear hll hsz
  generalize sB T = s at *
  go_enter Tryz.func107, Tryz.ntmps107
  go_wp2
  go_returns
  rw [HV.out.1, HV.out.2]
  exact ⟨rfl, Ext.refl _ _, HH.out, rfl⟩
theorem rdg_number (b : Nat) (r : Rd) (k : Nat) (hk : k ≤ 8) (w : World) (h : RdG w b r) : Calls Tryz.prog 107 #[.pointer (some ⟨b, 0, none⟩), .int .i64 (k : Int)] w fun e w' =>
  e = .returned (.int .u64 (numV k r : Nat)) ∧ Ext (One b) w w' ∧ RdG w' b (numR k r) := (rdg_number0 b r k hk w h).mono fun _ _ ⟨h1, h2, h3, _⟩ => ⟨h1, h2, h3⟩
theorem sB_inj {a b : List UInt8} (h : sB a = sB b) : a = b := by rw [← sB_toList a, h, sB_toList]
theorem RdG.at_ {w : World} {b : Nat} {r : Rd} (h : RdG w b r) {T : List UInt8} {k : Nat} (hc : w.cell? ⟨b, 0, none⟩ = some (.string (sB T))) (hk : k ≤ T.length) (hs : r.s = T.drop k) : Bx w b [.string (sB T), .int .i64 k, .bool r.bad] 119 := by
 obtain ⟨T2, a2, h1, h2, h3, h4⟩ := h.box
 have e : w.cell? ⟨b, 0, none⟩ = some (.string (sB T2)) := h4.cell rfl
 rw [hc] at e
 injection e with e; injection e with e
 have e := sB_inj e
 subst e
 have hl : (T.drop a2).length = (T.drop k).length := by rw [← h2, ← hs]
 rw [List.length_drop, List.length_drop] at hl
 obtain rfl : a2 = k := by omega
 exact h4
theorem rdg_Byte (b : Nat) (r : Rd) (w : World) (h : RdG w b r) : Calls Tryz.prog 72 #[.pointer (some ⟨b, 0, none⟩)] w fun e w' =>
  e = .returned (.int .i64 (numV 1 r : Nat)) ∧ Ext (One b) w w' ∧ RdG w' b (numR 1 r) := by
 have HH := hI_ h
 have KN := hI_ (rdg_number b r 1 (by decide) w h)
 have hv := numV_lt 1 r
 generalize hn : numV 1 r = n at *
 have hw1 : IntKind.i64.wrap (n : Int) = (n : Int) := IntWalk.i64_in _ (by omega)
 clear h hv hn
 go_enter Tryz.func72, Tryz.ntmps72
 go_wp2_with fail
 refine KN.out.mono ?_
 rintro e w2 ⟨rfl, hx, hr⟩
 go_wp2
 go_returns
 exact ⟨rfl, hx, hr⟩
theorem rdg_Word (b : Nat) (r : Rd) (w : World) (h : RdG w b r) : Calls Tryz.prog 108 #[.pointer (some ⟨b, 0, none⟩)] w fun e w' =>
  e = .returned (.int .i64 (numV 2 r : Nat)) ∧ Ext (One b) w w' ∧ RdG w' b (numR 2 r) := by
 have HH := hI_ h
 have KN := hI_ (rdg_number b r 2 (by decide) w h)
 have hv := numV_lt 2 r
 generalize hn : numV 2 r = n at *
 have hw1 : IntKind.i64.wrap (n : Int) = (n : Int) := IntWalk.i64_in _ (by omega)
 clear h hv hn
 go_enter Tryz.func108, Tryz.ntmps108
 go_wp2_with fail
 refine KN.out.mono ?_
 rintro e w2 ⟨rfl, hx, hr⟩
 go_wp2
 go_returns
 exact ⟨rfl, hx, hr⟩
theorem rdg_Long (b : Nat) (r : Rd) (w : World) (h : RdG w b r) : Calls Tryz.prog 76 #[.pointer (some ⟨b, 0, none⟩)] w fun e w' =>
  e = .returned (.int .i64 (numV 4 r : Nat)) ∧ Ext (One b) w w' ∧ RdG w' b (numR 4 r) := by
 have HH := hI_ h
 have KN := hI_ (rdg_number b r 4 (by decide) w h)
 have hv := numV_lt 4 r
 generalize hn : numV 4 r = n at *
 have hw1 : IntKind.i64.wrap (n : Int) = (n : Int) := IntWalk.i64_in _ (by omega)
 clear h hv hn
 go_enter Tryz.func76, Tryz.ntmps76
 go_wp2_with fail
 refine KN.out.mono ?_
 rintro e w2 ⟨rfl, hx, hr⟩
 go_wp2
 go_returns
 exact ⟨rfl, hx, hr⟩
theorem rdg_Bits (b : Nat) (r : Rd) (w : World) (h : RdG w b r) : Calls Tryz.prog 78 #[.pointer (some ⟨b, 0, none⟩)] w fun e w' =>
  e = .returned (.int .u64 (numV 8 r : Nat)) ∧ Ext (One b) w w' ∧ RdG w' b (numR 8 r) := by
 have KN := hI_ (rdg_number b r 8 (by decide) w h)
 generalize hn : numV 8 r = n at *
 clear h hn
 go_enter Tryz.func78, Tryz.ntmps78
 go_wp2_with fail
 refine KN.out.mono ?_
 rintro e w2 ⟨rfl, hx, hr⟩
 go_wp2
 go_returns
 exact ⟨rfl, hx, hr⟩
theorem rdg_End (b : Nat) (r : Rd) (w : World) (h : RdG w b r) : Calls Tryz.prog 110 #[.pointer (some ⟨b, 0, none⟩)] w fun e w' => e = .returned (.int .i64 (endE r)) ∧ ∃ n, w' = w.drewN n := by
 obtain ⟨l, bad⟩ := r
 have KL := hI_ (rdg_Left b ⟨l, bad⟩ w h)
 obtain ⟨T, a, ha, hl, hT, hB⟩ := h.box
 have q2 : w.cell? ⟨b, 2, none⟩ = some (.bool bad) := hB.cell rfl
 clear hl h hB
 cases bad
 ·have HE : Hid (endE ⟨l, false⟩ = if l = [] then 0 else 5) := hI_ rfl
  by_cases hl : l = []
  ·have HV : Hid (endE ⟨l, false⟩ = 0) := hI_ (by rw [HE.out, if_pos hl])
   have hln : l.length = 0 := by rw [hl]; rfl
   have dd : decide (0 < (0 : Nat)) = false := by decide
   replace KL : Hid (Calls Tryz.prog 75 #[.pointer (some ⟨b, 0, none⟩)] w fun e w' => e = .returned (.int .i64 0) ∧ ∃ n, w' = w.drewN n) := by have := KL.out; rw [show ((⟨l, false⟩ : Rd).s.length : Int) = 0 by show (l.length : Int) = 0; omega] at this; exact hI_ this
   clear hl hln
   go_enter Tryz.func110, Tryz.ntmps110
   go_wp2_with fail
   refine KL.out.mono ?_
   rintro e _ ⟨rfl, n, rfl⟩
   go_wp2
   go_returns
   exact ⟨by rw [HV.out]; rfl, n, rfl⟩
  ·have HV : Hid (endE ⟨l, false⟩ = 5) := hI_ (by rw [HE.out, if_neg hl])
   have hln : 0 < l.length := List.length_pos_iff.2 hl
   obtain ⟨m, hm⟩ : ∃ m : Int, m = (l.length : Int) := ⟨_, rfl⟩
   replace KL : Hid (Calls Tryz.prog 75 #[.pointer (some ⟨b, 0, none⟩)] w fun e w' => e = .returned (.int .i64 m) ∧ ∃ n, w' = w.drewN n) := by have := KL.out; rw [show ((⟨l, false⟩ : Rd).s.length : Int) = m from hm.symm] at this; exact hI_ this
   have dd : decide (0 < m) = true := decide_eq_true (by omega)
   clear hl hln hm
   go_enter Tryz.func110, Tryz.ntmps110
   go_wp2_with fail
   refine KL.out.mono ?_
   rintro e _ ⟨rfl, n, rfl⟩
   go_wp2
   go_returns
   exact ⟨by rw [HV.out]; rfl, n, rfl⟩
 ·have HV : Hid (endE ⟨l, true⟩ = 2) := hI_ rfl
  go_enter Tryz.func110, Tryz.ntmps110
  go_wp2
  go_returns
  exact ⟨by rw [HV.out]; rfl, 0, rfl⟩
set_option maxHeartbeats 2000000 in
set_option maxRecDepth 100000 in
theorem rdg_Text (b : Nat) (r : Rd) (w : World) (h : RdG w b r) : Calls Tryz.prog 74 #[.pointer (some ⟨b, 0, none⟩)] w fun e w' =>
  e = .returned (.string (sB (textV r))) ∧ Ext (One b) w w' ∧ RdG w' b (textR r) := by
 obtain ⟨l, bad⟩ := r
 have HH := hI_ h
 have KN := hI_ (rdg_number0 b ⟨l, bad⟩ 2 (by decide) w h)
 have FU := numV_lt 2 ⟨l, bad⟩
 have hv := numV_lt 2 ⟨l, bad⟩
 obtain ⟨T, a, ha, hl, hT, hB⟩ := h.box
 clear h
 replace hl : l = T.drop a := hl
 replace hB : Bx w b [.string (sB T), .int .i64 (a : Int), .bool bad] 119 := hB
 have q1 : w.cell? ⟨b, 1, none⟩ = some (.int .i64 a) := hB.cell rfl
 have HB := hI_ hB
 have HL := hI_ hl
 have HT := hI_ hT
 have HA := hI_ ha
 have hll : l.length = T.length - a := by rw [hl, List.length_drop]
 clear hB hl
 have HTV : Hid (textV ⟨l, bad⟩ = if canT ⟨l, bad⟩ = true then (l.drop 2).take (txtN ⟨l, bad⟩) else []) := hI_ rfl
 have HTR : Hid (textR ⟨l, bad⟩ = if canT ⟨l, bad⟩ = true then ⟨l.drop (2 + txtN ⟨l, bad⟩), false⟩ else ⟨l, true⟩) := hI_ rfl
 cases hc : canR 2 ⟨l, bad⟩
 ·-- not even a length
  as_aux_lemma =>
  have hct : canT ⟨l, bad⟩ = false := by unfold canT; rw [hc]; rfl
  have HV : Hid (textV ⟨l, bad⟩ = [] ∧ textR ⟨l, bad⟩ = ⟨l, true⟩) := hI_ (by rw [HTV.out, HTR.out, hct]; exact ⟨rfl, rfl⟩)
  have hR : numR 2 ⟨l, bad⟩ = ⟨l, true⟩ := by unfold numR; rw [hc]; rfl
  rw [hR] at KN
  generalize numV 2 ⟨l, bad⟩ = n at *
  have hw1 : IntKind.i64.wrap (n : Int) = (n : Int) := IntWalk.i64_in _ (by omega)
  clear hct hR HTV HTR hc hv
  go_enter Tryz.func74, Tryz.ntmps74
  go_wp2_with fail
  refine KN.out.mono ?_
  rintro e w2 ⟨rfl, hx, hr, -⟩
  obtain ⟨T2, a2, -, -, -, hB2⟩ := hr.box
  have u2 : w2.cell? ⟨b, 2, none⟩ = some (.bool true) := hB2.cell rfl
  have HX := hI_ hx; have HR := hI_ hr
  clear hx hr hB2
  go_wp2
  go_returns
  rw [HV.out.1, HV.out.2]
  exact ⟨rfl, HX.out, HR.out⟩
 ·obtain ⟨rfl, h2⟩ : bad = false ∧ 2 ≤ l.length := by unfold canR at hc; simpa using hc
  have hnv : numV 2 ⟨l, false⟩ = txtN ⟨l, false⟩ := by unfold numV; rw [if_pos hc]; rfl
  have hR : numR 2 ⟨l, false⟩ = ⟨l.drop 2, false⟩ := by unfold numR; rw [if_pos hc]
  rw [hnv] at hv
  rw [hnv, hR] at KN
  have hct : canT ⟨l, false⟩ = decide (txtN ⟨l, false⟩ ≤ l.length - 2) := by unfold canT; rw [hc]; rfl
  rw [hct] at HTV HTR
  generalize txtN ⟨l, false⟩ = n at *
  have hp16 : (256 : Nat) ^ 2 = 65536 := by decide
  have hn16 : n ≤ 65535 := by omega
  have hw1 : IntKind.i64.wrap (n : Int) = (n : Int) := IntWalk.i64_in _ (by omega)
  have hsz : (sB T).size = T.length := sB_size T
  have q0 : w.cell? ⟨b, 0, none⟩ = some (.string (sB T)) := HB.out.cell rfl
  have Q0 := hI_ q0
  have ha2 : a + 2 ≤ T.length := by omega
  have HA2 := hI_ ha2
  have w2 : IntKind.i64.wrap (((sB T).size : Int) - ((a + 2 : Nat) : Int)) = ((T.length - (a + 2) : Nat) : Int) := (IntWalk.i64_in _ (by omega)).trans (by omega)
  have W2 : Hid (wrap64 (((sB T).size : Int) - ((a + 2 : Nat) : Int)) = ((T.length - (a + 2) : Nat) : Int)) := hI_ ((IntWalk.wrap64_in _ (by omega)).trans (by omega))
  by_cases hlt : l.length - 2 < n
  ·skip
   have HV : Hid (textV ⟨l, false⟩ = [] ∧ textR ⟨l, false⟩ = ⟨l, true⟩) := hI_ (by rw [HTV.out, HTR.out, decide_eq_false (by omega : ¬ n ≤ l.length - 2)]; exact ⟨rfl, rfl⟩)
   have dd : decide (T.length - (a + 2) < n) = true := decide_eq_true (by omega)
   clear hv hnv hc hR hct hp16 hsz HTV HTR ha hT hll hlt hn16 FU
   go_enter Tryz.func74, Tryz.ntmps74
   go_wp2_with fail
   refine KN.out.mono ?_
   rintro e wz ⟨rfl, hx, hr, hc0⟩
   rw [Q0.out] at hc0
   have HB2 := hI_ (hr.at_ hc0 HA2.out (by show l.drop 2 = T.drop (a + 2); rw [HL.out, List.drop_drop]))
   have HX := hI_ hx
   have u1 : wz.cell? ⟨b, 1, none⟩ = some (.int .i64 ((a + 2 : Nat) : Int)) := HB2.out.cell rfl
   have u2 : wz.cell? ⟨b, 2, none⟩ = some (.bool false) := HB2.out.cell rfl
   have z1 : wz.frozen? ⟨b, 1, none⟩ = false := froz_of_heap HB2.out.h
   have z2 : wz.frozen? ⟨b, 2, none⟩ = false := froz_of_heap HB2.out.h
   clear hx hr ha2
   generalize hse : sB T = s at *
   have HSE := hI_ hse
   clear hse
   obtain ⟨a2, ea⟩ : ∃ a2 : Int, a2 = ((a + 2 : Nat) : Int) := ⟨_, rfl⟩
   rw [← ea] at u1 w2 W2
   have HEA := hI_ ea
   clear ea
   generalize T.length - (a + 2) = m at *
   go_wp2_with fail
   go_quiet (fail)
   go_wp2
   go_returns
   rw [HV.out.1, HV.out.2]
   exact ⟨rfl, ((HX.out.drewN nq).set1 _).set1 _, ⟨T, a, HA.out, HL.out, HT.out, by rw [HSE.out]; exact ((HB2.out.extN ((Ext.refl _ _).drewN nq)).set (j := 1) (.int .i64 (a : Int))).set (j := 2) (.bool true)⟩⟩
  ·have HV : Hid (textV ⟨l, false⟩ = (l.drop 2).take n ∧ textR ⟨l, false⟩ = ⟨l.drop (2 + n), false⟩) := hI_ (by rw [HTV.out, HTR.out, decide_eq_true (by omega : n ≤ l.length - 2)]; exact ⟨rfl, rfl⟩)
   have dd : decide (T.length - (a + 2) < n) = false := decide_eq_false (by omega)
   have HAN : Hid (a + 2 + n ≤ T.length) := hI_ (by omega)
   have hcr := cut_run (sB T) (a + 2) n (by omega)
   rw [sB_extract, Nat.add_sub_cancel_left, ← List.drop_drop, ← HL.out] at hcr
   have HD2 : Hid (l.drop (2 + n) = T.drop (a + 2 + n)) := hI_ (by rw [HL.out, List.drop_drop, Nat.add_assoc])
   have w3 : IntKind.i64.wrap (((a + 2 : Nat) : Int) + (n : Int)) = ((a + 2 : Nat) : Int) + (n : Int) := IntWalk.i64_in _ (by omega)
   have W3 : Hid (wrap64 (((a + 2 : Nat) : Int) + (n : Int)) = ((a + 2 : Nat) : Int) + (n : Int)) := hI_ (IntWalk.wrap64_in _ (by omega))
   clear hv hnv hc hR hct hp16 hsz HTV HTR ha hT hll hlt hn16 FU
   go_enter Tryz.func74, Tryz.ntmps74
   go_wp2_with fail
   refine KN.out.mono ?_
   rintro e wz ⟨rfl, hx, hr, hc0⟩
   rw [Q0.out] at hc0
   have HB2 := hI_ (hr.at_ hc0 HA2.out (by show l.drop 2 = T.drop (a + 2); rw [HL.out, List.drop_drop]))
   have HX := hI_ hx
   have u1 : wz.cell? ⟨b, 1, none⟩ = some (.int .i64 ((a + 2 : Nat) : Int)) := HB2.out.cell rfl
   have u2 : wz.cell? ⟨b, 2, none⟩ = some (.bool false) := HB2.out.cell rfl
   have z1 : wz.frozen? ⟨b, 1, none⟩ = false := froz_of_heap HB2.out.h
   clear hx hr ha2
   generalize hse : sB T = s at *
   have HSE := hI_ hse
   clear hse
   obtain ⟨a2, ea⟩ : ∃ a2 : Int, a2 = ((a + 2 : Nat) : Int) := ⟨_, rfl⟩
   rw [← ea] at u1 w2 W2 w3 W3 hcr
   have HEA := hI_ ea
   clear ea
   generalize T.length - (a + 2) = m at *
   generalize hsv : sB ((l.drop 2).take n) = sv at *
   have HSV := hI_ hsv
   clear hsv
   go_wp2_with fail
   go_quiet (fail)
   go_wp2_with fail
   go_quiet (fail)
   go_wp2
   go_returns
   rw [HV.out.1, HV.out.2, HSV.out]
   refine ⟨rfl, (HX.out.drewN _).set1 _, ⟨T, a + 2 + n, HAN.out, HD2.out, HT.out, ?_⟩⟩
   rw [HSE.out, show ((a + 2 + n : Nat) : Int) = a2 + (n : Int) by rw [HEA.out]; omega]
   exact (HB2.out.extN ((Ext.refl _ _).drewN _)).set (j := 1) (.int .i64 (a2 + (n : Int)))
end Go.Proofs.YtfefeepljbfcdaaGreat
