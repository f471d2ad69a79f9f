/- Joined texts: R12b, R12c. What each proves stands at its head; no conditions beside those in its theorems. -/
import Derived.Test.YtfefeepljbfcdaaGreatPjBA
import Derived.Test.YtfefeepljbfcdaaGreatPjBB
/- The reference of layer 12 in memory: Full, Turn; where a key stands; what is told of one. -/
namespace Go.Proofs.YtfefeepljbfcdaaGreat
open Go.RowKit Go.Lib F64
set_option linter.unusedSimpArgs false
set_option linter.unusedVariables false
attribute [local go_sem] run_store_float
attribute [local go_sem low] EW.cellN EW.frozN alloc_cell_or alloc_froz_or EW.cellF EW.frozF EW.cell1 EW.froz1
attribute [local go_sem] relAt relUpon
theorem bx_apart {w : World} {a b : Nat} {us vs : List Value} {t u : TypeId} (h : Bx w a us t) (k : Bx w b vs u) (hne : t ≠ u) : a ≠ b := fun e => by
 subst e
 have h1 := h.h
 rw [k.h] at h1
 injection h1 with h1; injection h1 with _ h1 _
 exact hne h1.symm
theorem RL.ne {w : World} {b sb rb : Nat} {g : Lg} (h : RL w b sb rb g) : b ≠ sb ∧ b ≠ rb ∧ sb ≠ rb := by
 obtain ⟨a1, c1, a2, c2, v, h1, -⟩ := h.ex
 exact ⟨bx_apart h1 h.st (by decide), bx_apart h1 h.rs (by decide), bx_apart h.st h.rs (by decide)⟩
theorem avT.noB {n b : Nat} {w : World} {a : Option Addr} {vs : List Value} (h : avT n w a) (hb : Bx w b vs 68) : ∀ k o, a = some ⟨k, o, none⟩ → ¬ One b k := fun k o e hk => by
 obtain ⟨-, us, fr, h2⟩ := h k o e
 have hk : k = b := hk
 subst hk
 have := hb.h
 rw [this] at h2; injection h2 with h2; injection h2 with _ h2 _
 exact absurd h2 (by decide)
theorem avT.ext {n : Nat} {S : Nat → Prop} {w w' : World} {a : Option Addr} (h : avT n w a) (x : Ext S w w') (hs : ∀ k o, a = some ⟨k, o, none⟩ → ¬ S k) : avT n w' a := fun k o e => by
 obtain ⟨h1, vs, fr, h2⟩ := h k o e
 exact ⟨h1, vs, fr, (x.block k (Array.getElem?_eq_some_iff.1 h2).1 (hs k o e)).trans h2⟩
theorem row_not {w : World} {base : Nat} {e : TypeId} {k : Nat} {v : Value} {n : Nat} {xs : List Value} (h : w.ownsRow base e k v n xs) {b : Nat} {vs : List Value} {t : TypeId} (hb : Bx w b vs t) (hne : e ≠ t) : ∀ j, Row v j → ¬ One b j := fun j h1 h2 => by
 have h2 : j = b := h2
 subst h2
 rcases h.2 with ⟨rfl, _⟩ | ⟨q, cap, cur, rfl, _, hg, _⟩
 ·cases h1
 ·have e1 : q = j := by unfold Row at h1; simpa [Value.ownBlock] using h1
  subst e1
  have := hb.h
  rw [hg] at this
  injection this with this; injection this with _ this _
  exact hne this
def moFresh (n : Nat) (xs : List Int) : Mo := ⟨fun v w => ∃ a cap, v = .slice a xs.length cap ∧ Ints w a cap xs ∧ fresh n w a, fun _ _ _ x ⟨a, c, e, h, t⟩ => ⟨a, c, e, h.extN x, fun k o e => ⟨(t k o e).1, t.typed.ext x (NoInts.non _) k o e⟩⟩⟩
def moConfF (n : Nat) (ep : Int) (xs : List Int) : Mo := ⟨fun v w => ∃ a cap, v = .agg #[.int .i64 ep, .slice a xs.length cap] ∧ Ints w a cap xs ∧ fresh n w a, fun _ _ _ x ⟨a, c, e, h, t⟩ => ⟨a, c, e, h.extN x, fun k o e => ⟨(t k o e).1, t.typed.ext x (NoInts.non _) k o e⟩⟩⟩
theorem fresh.av {n m : Nat} {w : World} {a : Option Addr} (h : fresh n w a) (hm : m < n) : avT m w a := fun k o e => ⟨by have := (h k o e).1; omega, (h k o e).2⟩
theorem fresh.low {n m : Nat} {w : World} {a : Option Addr} (h : fresh n w a) (hm : m ≤ n) : fresh m w a := fun k o e => ⟨by have := (h k o e).1; omega, (h k o e).2⟩
theorem RL.upd {w w' : World} {b sb rb : Nat} {g g' : Lg} (h : RL w b sb rb g) (x : Ext (One b) w w') {a1 c1 a2 c2 v} (hb : Bx w' b (lrow g' a1 c1 a2 c2 v sb rb) 68)
  (i1 : Ints w a1 c1 g'.mem) (i2 : Ints w a2 c2 g'.next) (t1 : avT sb w a1) (t2 : avT sb w a2) (hv : w'.ownsRow 0 78 2 v g'.keys.length ((sortK g'.keys).flatMap itC)) (hc : g'.cl = g.cl) (nd : NdK g'.keys) : RL w' b sb rb g' := by
 obtain ⟨n1, n2, n3⟩ := h.ne
 obtain ⟨_, _, _, _, _, h1, -⟩ := h.ex
 refine ⟨⟨a1, c1, a2, c2, v, hb, i1.ext x (t1.noB h1), i2.ext x (t2.noB h1), t1.ext x (t1.noB h1), t2.ext x (t2.noB h1), hv⟩, ?_, ?_, nd⟩
 ·rw [hc]; exact h.st.ext x (fun e => n1 e.symm)
 ·rw [hc]; exact h.rs.ext x (fun e => n2 e.symm)
theorem ref12_Full (b sb rb : Nat) (g : Lg) (I : Inv g) (w : World) (h : RL w b sb rb g) : Calls Tryz.prog 28 #[.pointer (some ⟨b, 0, none⟩)] w fun e w' => e = .returned (.bool (fullB g)) ∧ ∃ n, w' = w.drewN n := by
 obtain ⟨a1, c1, a2, c2, v, hb, -⟩ := h.ex
 have q0 : w.cell? ⟨b, 0, none⟩ = some (.int .i64 g.epoch) := hb.cell rfl
 have q3 : w.cell? ⟨b, 3, none⟩ = some (.int .i64 g.done) := hb.cell rfl
 have HF : Hid (fullB g = decide (g.done = 4 * (g.epoch + 1))) := hI_ (by unfold fullB; rw [Int.mul_comm])
 have he := I.ep
 have w1 : IntKind.i64.wrap (g.epoch + 1) = g.epoch + 1 := IntWalk.i64_in _ (by omega)
 have w2 : IntKind.i64.wrap (4 * (g.epoch + 1)) = 4 * (g.epoch + 1) := IntWalk.i64_in _ (by omega)
 clear hb he I h
 go_enter Tryz.func28, Tryz.ntmps28
 go_wp2_with fail
 go_quiet (fail)
 go_wp2
 go_ret
 exact ⟨ret_bool (by rw [HF.out]; rfl), _, rfl⟩
set_option maxHeartbeats 2000000 in
set_option maxRecDepth 100000 in
theorem ref12_Turn (b sb rb : Nat) (g : Lg) (I : Inv g) (w : World) (h : RL w b sb rb g) : Calls Tryz.prog 20 #[.pointer (some ⟨b, 0, none⟩)] w fun e w' =>
  e = .returned (.int .i64 (turnE g)) ∧ Ext (One b) w w' ∧ RL w' b sb rb (turnL g) := by
 have HH := hI_ h
 have II := hI_ I
 cases hf : fullB g
 ·have HF := hI_ hf
  have HE := hI_ (show turnE g = 18 by unfold turnE; rw [hf]; rfl)
  have HL := hI_ (show turnL g = g by unfold turnL; rw [HE.out]; rfl)
  clear h I hf
  go_enter Tryz.func20, Tryz.ntmps20
  go_wp2_with fail
  refine (ref12_Full b sb rb g II.out _ HH.out).mono ?_
  rintro e w1 ⟨rfl, n, rfl⟩
  rw [HF.out]
  go_wp2
  go_returns
  exact ⟨by rw [HE.out]; rfl, (Ext.refl _ _).drewN n, by rw [HL.out]; exact HH.out.extN ((Ext.refl _ _).drewN n)⟩
 ·have HF := hI_ hf
  obtain ⟨a1, c1, a2, c2, v, hb, i1, i2, t1, t2, hv⟩ := h.ex
  by_cases h60 : g.epoch = 60
  ·have HE := hI_ (show turnE g = 3 by unfold turnE; rw [hf, if_neg (by simp), if_pos h60])
   have HL := hI_ (show turnL g = g by unfold turnL; rw [HE.out]; rfl)
   have q0 : w.cell? ⟨b, 0, none⟩ = some (.int .i64 60) := by rw [← h60]; exact hb.cell rfl
   clear h I hf hb i1 i2 t1 t2 hv h60
   go_enter Tryz.func20, Tryz.ntmps20
   go_wp2_with fail
   refine (ref12_Full b sb rb g II.out _ HH.out).mono ?_
   rintro e w1 ⟨rfl, n, rfl⟩
   rw [HF.out]
   have q : (w.drewN n).cell? ⟨b, 0, none⟩ = some (.int .i64 60) := q0
   go_wp2
   go_returns
   exact ⟨by rw [HE.out]; rfl, (Ext.refl _ _).drewN n, by rw [HL.out]; exact HH.out.extN ((Ext.refl _ _).drewN n)⟩
  ·have HE := hI_ (show turnE g = 0 by unfold turnE; rw [hf, if_neg (by simp), if_neg h60])
   have HL := hI_ (show turnL g = ⟨g.epoch + 1, g.next, g.next, g.done, g.keys, g.cl⟩ by unfold turnL; rw [HE.out]; rfl)
   have he := I.ep
   have HMn := hI_ I.mn
   have h10 := (members_facts I.mn).2.2.2
   have h4 := (members_facts I.mn).2.2.1
   have wr : IntKind.i64.wrap (g.epoch + 1) = g.epoch + 1 := IntWalk.i64_in _ (by omega)
   have t60 : decide (60 ≤ g.epoch) = false := decide_eq_false (by omega)
   have HR := hI_ h
   have HB := hI_ hb; have I1 := hI_ i1; have I2 := hI_ i2; have T1 := hI_ t1; have T2 := hI_ t2; have HV := hI_ hv
   clear h I hf hb i1 i2 t1 t2 hv h60
   go_enter Tryz.func20, Tryz.ntmps20
   go_wp2_with fail
   refine (ref12_Full b sb rb g II.out _ HH.out).mono ?_
   rintro e w1 ⟨rfl, n, rfl⟩
   rw [HF.out]
   have XD : Ext Non w (w.drewN n) := (Ext.refl _ _).drewN n
   obtain ⟨x0, hx0⟩ := XD.ew
   rw [hx0]
   clear hx0 XD
   have HB1 := hI_ (HB.out.extN x0.ext)
   obtain ⟨kb, ko, ha2, -⟩ := I2.out.at_ 0 (by omega)
   have I2b : Hid (Ints w (some ⟨kb, ko, none⟩) c2 g.next) := hI_ (by rw [← ha2]; exact I2.out)
   have q0 : x0.on.cell? ⟨b, 0, none⟩ = some (.int .i64 g.epoch) := HB1.out.cell rfl
   have q2 : x0.on.cell? ⟨b, 2, none⟩ = some (.slice (some ⟨kb, ko, none⟩) g.next.length c2) := by rw [← ha2]; exact HB1.out.cell rfl
   have HA2 := hI_ ha2
   clear ha2
   go_upto_region 5 with fail
   apply wp_region_rel_tail 15 (relR [Mo.is _, Mo.is _, Mo.is _, Mo.is _, Mo.is _, Mo.is _, Mo.is _, Mo.is _, Mo.is _, Mo.is _, Mo.is _, moFresh w.heap.size g.next, moConfF w.heap.size (g.epoch + 1) g.next, Mo.is _, Mo.is _]) (by kernel_rfl) (by kernel_rfl) (by kernel_rfl) (by kernel_rfl) (by kernel_rfl) (by decide) (by kernel_rfl) (relR_mono _) (StepD.all ?st12) ?q12
   case st12 =>
    refine ⟨?_, ?_, ?_, ?_, ?_, ?_, ?_, ?_, ?_, ?_, ?_, ?_, ?_, ?_, ?_, trivial⟩
    ·intro a' w' hx hs hd
     obtain ⟨y, rfl⟩ := hx.ew
     have e0 : a'.tmps[0]?.getD undef = _ := hs 0 rfl
     simp only [aL, aS, aZ] at e0
     refine .inl ⟨rfl, ?_⟩
     clear hs hd hx
     go_simp
     exact ⟨Ext.refl _ _, rfl⟩
    ·intro a' w' hx hs hd
     obtain ⟨y, rfl⟩ := hx.ew
     have e0 : a'.tmps[0]?.getD undef = _ := hs 0 rfl
     simp only [aL, aS, aZ] at e0
     refine .inl ⟨rfl, ?_⟩
     clear hs hd hx
     go_simp
     exact ⟨Ext.refl _ _, rfl⟩
    ·intro a' w' hx hs hd
     obtain ⟨y, rfl⟩ := hx.ew
     have e13 : a'.tmps[13]?.getD undef = _ := hd 1 13 rfl rfl
     refine .inl ⟨rfl, ?_⟩
     clear hs hd hx
     go_simp
     exact ⟨Ext.refl _ _, rfl⟩
    ·intro a' w' hx hs hd
     obtain ⟨y, rfl⟩ := hx.ew
     have e14 : a'.tmps[14]?.getD undef = _ := hd 2 14 rfl rfl
     refine .inl ⟨rfl, ?_⟩
     clear hs hd hx
     go_simp
     exact ⟨Ext.refl _ _, rfl⟩
    ·intro a' w' hx hs hd
     obtain ⟨y, rfl⟩ := hx.ew
     have e15 : a'.tmps[15]?.getD undef = _ := hd 3 15 rfl rfl
     refine .inl ⟨rfl, ?_⟩
     clear hs hd hx
     go_simp
     exact ⟨Ext.refl _ _, rfl⟩
    ·intro a' w' hx hs hd
     obtain ⟨y, rfl⟩ := hx.ew
     have e16 : a'.tmps[16]?.getD undef = _ := hd 4 16 rfl rfl
     refine .inl ⟨rfl, ?_⟩
     clear hs hd hx
     go_simp
     exact ⟨Ext.refl _ _, rfl⟩
    ·intro a' w' hx hs hd
     obtain ⟨y, rfl⟩ := hx.ew
     have e17 : a'.tmps[17]?.getD undef = _ := hd 5 17 rfl rfl
     refine .inl ⟨rfl, ?_⟩
     clear hs hd hx
     go_simp
     exact ⟨Ext.refl _ _, rfl⟩
    ·intro a' w' hx hs hd
     obtain ⟨y, rfl⟩ := hx.ew
     have e0 : a'.tmps[0]?.getD undef = _ := hs 0 rfl
     simp only [aL, aS, aZ] at e0
     refine .inl ⟨rfl, ?_⟩
     clear hs hd hx
     go_simp
     exact ⟨Ext.refl _ _, rfl⟩
    ·intro a' w' hx hs hd
     obtain ⟨y, rfl⟩ := hx.ew
     have e19 : a'.tmps[19]?.getD undef = _ := hd 7 19 rfl rfl
     refine .inl ⟨rfl, ?_⟩
     clear hs hd hx
     go_simp
     exact ⟨Ext.refl _ _, rfl⟩
    ·intro a' w' hx hs hd
     obtain ⟨y, rfl⟩ := hx.ew
     have e20 : a'.tmps[20]?.getD undef = _ := hd 8 20 rfl rfl
     refine .inl ⟨rfl, ?_⟩
     clear hs hd hx
     go_simp
     exact ⟨Ext.refl _ _, rfl⟩
    ·intro a' w' hx hs hd
     obtain ⟨y, rfl⟩ := hx.ew
     have e21 : a'.tmps[21]?.getD undef = _ := hd 9 21 rfl rfl
     refine .inl ⟨rfl, ?_⟩
     clear hs hd hx
     go_simp
     exact ⟨Ext.refl _ _, rfl⟩
    ·intro a' w' hx hs hd
     obtain ⟨y, rfl⟩ := hx.ew
     have e22 : a'.tmps[22]?.getD undef = _ := hd 10 22 rfl rfl
     refine .inl ⟨rfl, ?_⟩
     clear hs hd hx
     exact rel_append_some _ _ 22 rfl 3 1 8 _ Tryz.underlying22 info_int (by rfl) (by omega) rfl _ g.next.length c2 (g.next.map (Value.int .i64)) ((eval_tmp _ _).trans e22) (ic_news (I2b.out.extN (exG0)) rfl) (by rw [List.length_map]; omega) (ic_one g.next) (by omega) (by omega) (fun v' w' x o => by obtain ⟨a, c, e, h1, h2⟩ := Ints.ofOwn o (members_i64 HMn.out); exact ⟨a, c, e, h1, h2.low (by have h1 := x0.ext.size; have h2 := y.ext.size; omega)⟩)
    ·intro a' w' hx hs hd
     obtain ⟨y, rfl⟩ := hx.ew
     have e18 : a'.tmps[18]?.getD undef = _ := hd 6 18 rfl rfl
     obtain ⟨a3, c3, e23, hI3, hT3⟩ : ∃ a cap, a'.tmps[23]?.getD undef = .slice a g.next.length cap ∧ Ints y.on a cap g.next ∧ fresh w.heap.size y.on a := hd 11 23 rfl rfl
     refine .inl ⟨rfl, ?_⟩
     clear hs hd hx
     go_simp
     exact ⟨Ext.refl _ _, a3, c3, rfl, hI3, hT3⟩
    ·intro a' w' hx hs hd
     obtain ⟨y, rfl⟩ := hx.ew
     have e12 : a'.tmps[12]?.getD undef = _ := hd 0 12 rfl rfl
     refine .inl ⟨rfl, ?_⟩
     clear hs hd hx
     go_simp
     exact ⟨Ext.refl _ _, rfl⟩
    ·intro a' w' hx hs hd
     obtain ⟨y, rfl⟩ := hx.ew
     have e25 : a'.tmps[25]?.getD undef = _ := hd 13 25 rfl rfl
     refine .inl ⟨rfl, ?_⟩
     clear hs hd hx
     go_simp
     exact ⟨Ext.refl _ _, rfl⟩
   case' q12 =>
    intro vs w' hx hRR
    obtain ⟨x2, rfl⟩ := hx.ew
    have q0 : vs 0 = _ := hRR 0 (by decide)
    have q1 : vs 1 = _ := hRR 1 (by decide)
    have q2 : vs 2 = _ := hRR 2 (by decide)
    have q3 : vs 3 = _ := hRR 3 (by decide)
    have q4 : vs 4 = _ := hRR 4 (by decide)
    have q5 : vs 5 = _ := hRR 5 (by decide)
    have q6 : vs 6 = _ := hRR 6 (by decide)
    have q7 : vs 7 = _ := hRR 7 (by decide)
    have q8 : vs 8 = _ := hRR 8 (by decide)
    have q9 : vs 9 = _ := hRR 9 (by decide)
    have q10 : vs 10 = _ := hRR 10 (by decide)
    obtain ⟨a3, c3, q11, hI3, hT3⟩ : ∃ a cap, vs 11 = .slice a g.next.length cap ∧ Ints x2.on a cap g.next ∧ fresh w.heap.size x2.on a := hRR 11 (by decide)
    obtain ⟨a4, c4, q12, hI4, hT4⟩ : ∃ a cap, vs 12 = .agg #[.int .i64 (g.epoch + 1), .slice a g.next.length cap] ∧ Ints x2.on a cap g.next ∧ fresh w.heap.size x2.on a := hRR 12 (by decide)
    have q13 : vs 13 = _ := hRR 13 (by decide)
    have q14 : vs 14 = _ := hRR 14 (by decide)
    clear hRR hx
    simp only [putAll, List.take_succ_cons, List.take_zero, List.drop_succ_cons, List.drop_zero, Act.put, List.setIfInBounds_toArray, List.set_cons_zero, List.set_cons_succ, Nat.reduceAdd, Nat.zero_add]
    simp only [q0, q1, q2, q3, q4, q5, q6, q7, q8, q9, q10, q11, q12, q13, q14]
    clear q0 q1 q2 q3 q4 q5 q6 q7 q8 q9 q10 q11 q12 q13 q14 vs
   have HI4 := hI_ hI4; have HT4 := hI_ hT4
   clear hI3 hT3 hI4 hT4
   have HB2 := hI_ (HB1.out.extN x2.ext)
   have XX : Ext Non w x2.on := x0.ext.trans x2.ext
   have HXX := hI_ XX
   have hsl : sb < w.heap.size := HR.out.lt.2.1
   clear XX HB1 q0 q2
   generalize x2.on = w2 at *
   have u0 : w2.cell? ⟨b, 0, none⟩ = some (.int .i64 g.epoch) := HB2.out.cell rfl
   have u1 : w2.cell? ⟨b, 1, none⟩ = some (.slice a1 g.mem.length c1) := HB2.out.cell rfl
   have f0 : w2.frozen? ⟨b, 0, none⟩ = false := froz_of_heap HB2.out.h
   have f1 : w2.frozen? ⟨b, 1, none⟩ = false := froz_of_heap HB2.out.h
   go_wp2
   go_returns
   have X3 : Ext (One b) w2 ((w2.setCell ⟨b, 0, none⟩ (.int .i64 (g.epoch + 1))).setCell ⟨b, 1, none⟩ (.slice a4 g.next.length c4)) := ((Ext.refl _ _).set1 _).set1 _
   refine ⟨by rw [HE.out]; rfl, HXX.out.ofNon.trans X3, ?_⟩
   rw [HL.out]
   exact (HR.out.extN HXX.out).upd X3 (g' := ⟨g.epoch + 1, g.next, g.next, g.done, g.keys, g.cl⟩) ((HB2.out.set (j := 0) (.int .i64 (g.epoch + 1))).set (j := 1) (.slice a4 g.next.length c4)) HI4.out (I2.out.extN HXX.out) (HT4.out.av hsl) (T2.out.extN HXX.out) (ownR_ext (ownR_extN HV.out HXX.out) X3 (row_not (ownR_extN HV.out HXX.out) HB2.out (by decide))) rfl HR.out.nd
end Go.Proofs.YtfefeepljbfcdaaGreat

/- The reference of layer 12 in memory: where a key stands; what is told of it; a key put, a key cut. -/
namespace Go.Proofs.YtfefeepljbfcdaaGreat
open Go.RowKit Go.Lib F64
set_option linter.unusedSimpArgs false
set_option linter.unusedVariables false
attribute [local go_sem] run_store_float
attribute [local go_sem low] EW.cellN EW.frozN alloc_cell_or alloc_froz_or EW.cellF EW.frozF EW.cell1 EW.froz1
attribute [local go_sem] relAt relUpon
def atI (k : ByteArray) (l : Ks) : Int := match atK k l with | some i => (i : Int) | none => -1
theorem RL.row {w : World} {b sb rb : Nat} {g : Lg} (h : RL w b sb rb g) : ∃ ia ic, w.cell? ⟨b, 4, none⟩ = some (.slice ia (sortK g.keys).length ic) ∧ (sortK g.keys).length ≤ ic ∧ ic ≤ 9223372036854775807 ∧ ∀ j (hj : j < (sortK g.keys).length), ∃ gi, ia = some ⟨gi, 0, none⟩ ∧ gi < w.heap.size ∧ w.cell? ⟨gi, j * 2, none⟩ = some (.string (sortK g.keys)[j].1) ∧ w.cell? ⟨gi, j * 2 + 1, none⟩ = some (.int .u64 (sortK g.keys)[j].2) := by
 obtain ⟨a1, c1, a2, c2, v, hb, -, -, -, -, hv⟩ := h.ex
 rw [← sortK_len] at hv
 obtain ⟨ia, ic, rfl, h1, h2, hc⟩ := ownA_rows (sortK g.keys) itC (fun _ => rfl) hv
 refine ⟨ia, ic, hb.cell rfl, h1, h2, fun j hj => ?_⟩
 obtain ⟨gi, e, hg, hcc⟩ := hc j hj
 exact ⟨gi, e, hg, by have := hcc 0 _ rfl; simpa using this, by have := hcc 1 _ rfl; simpa using this⟩
theorem str_beq_ne {a b : ByteArray} (h : a ≠ b) : (a.toList == b.toList) = false := by
 rw [beq_eq_false_iff_ne]; exact fun e => h (toList_inj e)
set_option maxHeartbeats 2000000 in
set_option maxRecDepth 100000 in
theorem ref12_at (b sb rb : Nat) (g : Lg) (hk16 : g.keys.length ≤ 16) (k : ByteArray) (w : World) (h : RL w b sb rb g) : Calls Tryz.prog 99 #[.pointer (some ⟨b, 0, none⟩), .string k] w fun e w' =>
  e = .returned (.int .i64 (atI k (sortK g.keys))) ∧ Ext Non w w' := by
 obtain ⟨ia, ic, q4, h1, h2, hc⟩ := h.row
 have hl : (sortK g.keys).length ≤ 16 := by rw [sortK_len]; exact hk16
 have HC := hI_ hc
 have HA : Hid (∀ i, atK k (sortK g.keys) = some i → atI k (sortK g.keys) = i) := hI_ (fun i e => by unfold atI; rw [e])
 have HA0 : Hid (atK k (sortK g.keys) = none → atI k (sortK g.keys) = -1) := hI_ (fun e => by unfold atI; rw [e])
 clear h hc
 generalize sortK g.keys = l at *
 generalize atI k l = res at *
 go_enter Tryz.func99, Tryz.ntmps99
 go_wp2_with fail
 go_loopg [5] l.length (fun n iv wr => ∃ (i : Nat) (z : EW Non w), i ≤ l.length ∧ n = l.length - i ∧ iv = .int .i64 i ∧ wr = z.on ∧ Hid (atK k l = (atK k (l.drop i)).map (· + i)))
 case atStart => exact ⟨0, ⟨_, exG0⟩, Nat.zero_le _, rfl, rfl, rfl, hI_ (by rw [List.drop_zero]; cases atK k l <;> rfl)⟩
 case round =>
  obtain ⟨i, z, hi, hn, rfl, rfl, HD⟩ := hrel
  have HN := hI_ hn; clear hn
  by_cases hlt : i < l.length
  ·obtain ⟨gi, rfl, hg, k0, k1⟩ := HC.out i hlt
   have HS := hI_ (atK_drop k l i hlt)
   generalize l[i] = p at *
   obtain ⟨pk, px⟩ := p
   by_cases hk : pk = k
   ·subst hk
    have HF : Hid (res = i) := hI_ (HA.out i (by rw [HD.out, HS.out, if_pos rfl]; simp))
    go_wp2
    go_ret
    exact ⟨by rw [HF.out]; rfl, exG0⟩
   ·have hb := str_beq_ne hk
    have HF : Hid (atK k l = (atK k (l.drop (i + 1))).map (· + (i + 1))) := hI_ (by
     rw [HD.out, HS.out, if_neg hk]
     cases atK k (l.drop (i + 1)) <;> simp; omega)
    go_wp2_with fail
    go_roundg (l.length - (i + 1))
    case measure => have := HN.out; omega
    case rel => exact ⟨i + 1, ⟨_, exG0⟩, hlt, rfl, by go_num, rfl, HF⟩
  ·have HF : Hid (res = -1) := hI_ (HA0.out (by rw [HD.out, List.drop_eq_nil_of_le (by omega)]; rfl))
   go_wp2
   go_ret
   exact ⟨by rw [HF.out]; rfl, exG0⟩
theorem ref12_at_some (b sb rb : Nat) (g : Lg) (hk16 : g.keys.length ≤ 16) (k : ByteArray) (i : Nat) (hi : atK k (sortK g.keys) = some i) (w : World) (h : RL w b sb rb g) : Calls Tryz.prog 99 #[.pointer (some ⟨b, 0, none⟩), .string k] w fun e w' =>
  e = .returned (.int .i64 (i : Int)) ∧ Ext Non w w' :=
 (ref12_at b sb rb g hk16 k w h).mono fun e w' ⟨he, hx⟩ => ⟨by rw [he]; unfold atI; rw [hi], hx⟩
set_option maxHeartbeats 2000000 in
set_option maxRecDepth 100000 in
theorem ref12_told (b sb rb : Nat) (g : Lg) (hk16 : g.keys.length ≤ 16) (k : ByteArray) (hh : hasK g.keys k = true) (w : World) (h : RL w b sb rb g) : Calls Tryz.prog 101 #[.pointer (some ⟨b, 0, none⟩), .string k] w fun e w' =>
  e = .returned (.agg #[.int .i64 0, .float .f64 (valK g.keys k)]) ∧ Ext Non w w' := by
 obtain ⟨ia, ic, q4, h1, h2, hc⟩ := h.row
 have HH := hI_ h
 obtain ⟨i, hi⟩ : ∃ i, atK k (sortK g.keys) = some i := by
  cases ha : atK k (sortK g.keys) with
  | none => rw [(at_sort_none h.nd).1 ha] at hh; cases hh
  | some i => exact ⟨i, rfl⟩
 obtain ⟨hlt, he, -⟩ := at_sort h.nd hi
 obtain ⟨gi, rfl, hg, k0, k1⟩ := hc i hlt
 rw [he] at k1
 have k1 : w.cell? ⟨gi, i * 2 + 1, none⟩ = some (.int .u64 (valK g.keys k)) := k1
 have HI := hI_ hi
 clear h hc hi he hh k0
 have HL := hI_ (rfl : sortK g.keys = sortK g.keys)
 generalize (sortK g.keys).length = len at *
 have bi : (i : Int) < (len : Int) := by omega
 generalize valK g.keys k = vx at *
 go_enter Tryz.func101, Tryz.ntmps101
 go_upto_region 1 with fail
 have BR := hI_ (Bx.newAt w [.int .i64 0, .float .f64 0] 48 _ rfl)
 have HKR := hI_ (rfl : w.heap.size = w.heap.size)
 apply wp_region_rel_tail 12 (relR [Mo.is _, Mo.is _, Mo.is _, Mo.is _, Mo.is _, Mo.is _, Mo.is _, Mo.is _, Mo.is _, Mo.is _, Mo.is _, Mo.is _]) (by kernel_rfl) (by kernel_rfl) (by kernel_rfl) (by kernel_rfl) (by kernel_rfl) (by decide) (by kernel_rfl) (relR_mono _) (StepD.all ?st13) ?q13
 case st13 =>
  refine ⟨?_, ?_, ?_, ?_, ?_, ?_, ?_, ?_, ?_, ?_, ?_, ?_, trivial⟩
  ·intro a' w' hx hs hd
   obtain ⟨y, rfl⟩ := hx.ew
   have e0 : a'.tmps[0]?.getD undef = _ := hs 0 rfl
   simp only [aL, aS, aZ] at e0
   refine .inl ⟨rfl, ?_⟩
   clear hs hd hx
   go_simp
   exact ⟨Ext.refl _ _, rfl⟩
  ·intro a' w' hx hs hd
   obtain ⟨y, rfl⟩ := hx.ew
   have e5 : a'.tmps[5]?.getD undef = _ := hd 0 5 rfl rfl
   refine .inl ⟨rfl, ?_⟩
   clear hs hd hx
   go_simp
   exact ⟨Ext.refl _ _, rfl⟩
  ·intro a' w' hx hs hd
   obtain ⟨y, rfl⟩ := hx.ew
   have e6 : a'.tmps[6]?.getD undef = _ := hd 1 6 rfl rfl
   refine .inl ⟨rfl, ?_⟩
   clear hs hd hx
   go_simp
   exact ⟨Ext.refl _ _, rfl⟩
  ·intro a' w' hx hs hd
   obtain ⟨y, rfl⟩ := hx.ew
   have e7 : a'.tmps[7]?.getD undef = _ := hd 2 7 rfl rfl
   refine .inl ⟨rfl, ?_⟩
   clear hs hd hx
   go_simp
   exact ⟨Ext.refl _ _, rfl⟩
  ·intro a' w' hx hs hd
   obtain ⟨y, rfl⟩ := hx.ew
   have e0 : a'.tmps[0]?.getD undef = _ := hs 0 rfl
   simp only [aL, aS, aZ] at e0
   refine .inl ⟨rfl, ?_⟩
   clear hs hd hx
   go_simp
   exact ⟨Ext.refl _ _, rfl⟩
  ·intro a' w' hx hs hd
   obtain ⟨y, rfl⟩ := hx.ew
   have e1 : a'.tmps[1]?.getD undef = _ := hs 1 rfl
   simp only [aL, aS, aZ] at e1
   refine .inl ⟨rfl, ?_⟩
   clear hs hd hx
   go_simp
   exact ⟨Ext.refl _ _, rfl⟩
  ·intro a' w' hx hs hd
   obtain ⟨y, rfl⟩ := hx.ew
   have e9 : a'.tmps[9]?.getD undef = _ := hd 4 9 rfl rfl
   have e10 : a'.tmps[10]?.getD undef = _ := hd 5 10 rfl rfl
   refine .inl ⟨rfl, ?_⟩
   clear hs hd hx
   go_simp
   exact (ref12_at_some b sb rb g hk16 k i HI.out _ (HH.out.extN (exG0))).mono (fun e w'' ⟨he, hx⟩ => ⟨_, he, hx, rfl⟩)
  ·intro a' w' hx hs hd
   obtain ⟨y, rfl⟩ := hx.ew
   have e8 : a'.tmps[8]?.getD undef = _ := hd 3 8 rfl rfl
   have e11 : a'.tmps[11]?.getD undef = _ := hd 6 11 rfl rfl
   refine .inl ⟨rfl, ?_⟩
   clear hs hd hx
   go_simp
   exact ⟨Ext.refl _ _, rfl⟩
  ·intro a' w' hx hs hd
   obtain ⟨y, rfl⟩ := hx.ew
   have e12 : a'.tmps[12]?.getD undef = _ := hd 7 12 rfl rfl
   refine .inl ⟨rfl, ?_⟩
   clear hs hd hx
   go_simp
   exact ⟨Ext.refl _ _, rfl⟩
  ·intro a' w' hx hs hd
   obtain ⟨y, rfl⟩ := hx.ew
   have e13 : a'.tmps[13]?.getD undef = _ := hd 8 13 rfl rfl
   refine .inl ⟨rfl, ?_⟩
   clear hs hd hx
   go_simp
   exact ⟨Ext.refl _ _, rfl⟩
  ·intro a' w' hx hs hd
   obtain ⟨y, rfl⟩ := hx.ew
   have e14 : a'.tmps[14]?.getD undef = _ := hd 9 14 rfl rfl
   refine .inl ⟨rfl, ?_⟩
   clear hs hd hx
   go_simp
   exact ⟨Ext.refl _ _, rfl⟩
  ·intro a' w' hx hs hd
   obtain ⟨y, rfl⟩ := hx.ew
   have e15 : a'.tmps[15]?.getD undef = _ := hd 10 15 rfl rfl
   refine .inl ⟨rfl, ?_⟩
   clear hs hd hx
   go_simp
   exact ⟨Ext.refl _ _, rfl⟩
 case' q13 =>
  intro vs w' hx hRR
  obtain ⟨x2, rfl⟩ := hx.ew
  have q0 : vs 0 = _ := hRR 0 (by decide)
  have q1 : vs 1 = _ := hRR 1 (by decide)
  have q2 : vs 2 = _ := hRR 2 (by decide)
  have q3 : vs 3 = _ := hRR 3 (by decide)
  have q4 : vs 4 = _ := hRR 4 (by decide)
  have q5 : vs 5 = _ := hRR 5 (by decide)
  have q6 : vs 6 = _ := hRR 6 (by decide)
  have q7 : vs 7 = _ := hRR 7 (by decide)
  have q8 : vs 8 = _ := hRR 8 (by decide)
  have q9 : vs 9 = _ := hRR 9 (by decide)
  have q10 : vs 10 = _ := hRR 10 (by decide)
  have q11 : vs 11 = _ := hRR 11 (by decide)
  clear hRR hx
  simp only [putAll, List.take_succ_cons, List.take_zero, List.drop_succ_cons, List.drop_zero, Act.put, List.setIfInBounds_toArray, List.set_cons_zero, List.set_cons_succ, Nat.reduceAdd, Nat.zero_add]
  simp only [q0, q1, q2, q3, q4, q5, q6, q7, q8, q9, q10, q11]
  clear q0 q1 q2 q3 q4 q5 q6 q7 q8 q9 q10 q11 vs
 have B2 := hI_ (BR.out.extN x2.ext)
 have XX : Ext Non w x2.on := exG0
 generalize x2.on = w2 at *
 have u0 : w2.cell? ⟨w.heap.size, 0, none⟩ = some (.int .i64 0) := B2.out.cell rfl
 have u1 : w2.cell? ⟨w.heap.size, 1, none⟩ = some (.float .f64 0) := B2.out.cell rfl
 have f0 : w2.frozen? ⟨w.heap.size, 0, none⟩ = false := froz_of_heap B2.out.h
 have f1 : w2.frozen? ⟨w.heap.size, 1, none⟩ = false := froz_of_heap B2.out.h
 go_wp2
 have B3 := (B2.out.set (j := 0) (.int .i64 0)).set (j := 1) (.float .f64 vx)
 have r0 : ((w2.setCell ⟨w.heap.size, 0, none⟩ (.int .i64 0)).setCell ⟨w.heap.size, 1, none⟩ (.float .f64 vx)).cell? ⟨w.heap.size, 0, none⟩ = some (.int .i64 0) := B3.cell rfl
 have r1 : ((w2.setCell ⟨w.heap.size, 0, none⟩ (.int .i64 0)).setCell ⟨w.heap.size, 1, none⟩ (.float .f64 vx)).cell? ⟨w.heap.size, 1, none⟩ = some (.float .f64 vx) := B3.cell rfl
 have XF : Ext Non w ((w2.setCell ⟨w.heap.size, 0, none⟩ (.int .i64 0)).setCell ⟨w.heap.size, 1, none⟩ (.float .f64 vx)) := exG0
 generalize (w2.setCell ⟨w.heap.size, 0, none⟩ (.int .i64 0)).setCell ⟨w.heap.size, 1, none⟩ (.float .f64 vx) = w6 at *
 refine bodyPost_ret (v := .agg #[.int .i64 0, .float .f64 vx]) (by simp [results, Tryz.results101, go_sem, r0, r1]) rfl ?_
 exact ⟨rfl, XF⟩
end Go.Proofs.YtfefeepljbfcdaaGreat
