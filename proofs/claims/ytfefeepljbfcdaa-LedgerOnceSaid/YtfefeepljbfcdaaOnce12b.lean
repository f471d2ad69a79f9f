/- The law LedgerOnce, walked. -/
import Derived.Test.YtfefeepljbfcdaaOnce12
namespace Go.Proofs.Ytfefeepljbfcdaa
open Go.RowKit F64
set_option linter.unusedSimpArgs false
set_option linter.unusedVariables false
attribute [local go_sem] run_store_float

theorem once_plain (g : Lg) (r : Req) (hr : rightB r = true) (h0 : doE g r = 0) (h1 : doE (doL g r) r = 0) :
    doL (doL g r) r = tick (doL g r) ∧ doR (doL g r) r = doR g r ∧ ((doR g r).code ≠ 7 → ((doL g r).cl (idxR r)).stamp = r.stamp ∧ ((doL g r).cl (idxR r)).code = (doR g r).code ∧ ((doL g r).cl (idxR r)).real = (doR g r).real) := by
  have hn : ¬ nullB r = true := fun h => by have := null_not_right h; rw [hr] at this; cases this
  have a0 : ¬ doE g r ≠ 0 := by simp [h0]
  by_cases c1 : r.stamp < (g.cl (idxR r)).stamp
  · have e1 : doL g r = tick g := by unfold doL; rw [if_neg a0, if_neg hn, if_pos c1]
    have e2 : doR g r = ⟨7, 0⟩ := by unfold doR; rw [if_neg a0, if_neg hn, if_pos c1]
    rw [e1] at h1 ⊢
    have a1 : ¬ doE (tick g) r ≠ 0 := by simp [h1]
    have c1' : r.stamp < ((tick g).cl (idxR r)).stamp := c1
    refine ⟨by unfold doL; rw [if_neg a1, if_neg hn, if_pos c1'], by rw [e2]; unfold doR; rw [if_neg a1, if_neg hn, if_pos c1'], fun h => absurd (by rw [e2]) h⟩
  · by_cases c2 : (g.cl (idxR r)).stamp < r.stamp
    · have e1 : doL g r = setCl (applyL (tick g) r.op) (idxR r) ⟨r.stamp, (applyR (tick g) r.op).code, (applyR (tick g) r.op).real⟩ := by unfold doL; rw [if_neg a0, if_neg hn, if_neg c1, if_pos c2]
      have e2 : doR g r = applyR (tick g) r.op := by unfold doR; rw [if_neg a0, if_neg hn, if_neg c1, if_pos c2]
      have ec : (doL g r).cl (idxR r) = ⟨r.stamp, (applyR (tick g) r.op).code, (applyR (tick g) r.op).real⟩ := by rw [e1]; unfold setCl; simp
      have a1 : ¬ doE (doL g r) r ≠ 0 := by simp [h1]
      have d1 : ¬ r.stamp < ((doL g r).cl (idxR r)).stamp := by rw [ec]; simp
      have d2 : ¬ ((doL g r).cl (idxR r)).stamp < r.stamp := by rw [ec]; simp
      refine ⟨?_, ?_, fun _ => ?_⟩
      · generalize doL g r = G at *
        unfold doL; rw [if_neg a1, if_neg hn, if_neg d1, if_neg d2]
      · rw [e2]
        generalize doL g r = G at *
        unfold doR; rw [if_neg a1, if_neg hn, if_neg d1, if_neg d2, ec]
      · rw [ec, e2]; exact ⟨rfl, rfl, rfl⟩
    · have e1 : doL g r = tick g := by unfold doL; rw [if_neg a0, if_neg hn, if_neg c1, if_neg c2]
      have e2 : doR g r = ⟨(g.cl (idxR r)).code, (g.cl (idxR r)).real⟩ := by unfold doR; rw [if_neg a0, if_neg hn, if_neg c1, if_neg c2]
      rw [e1] at h1 ⊢
      have a1 : ¬ doE (tick g) r ≠ 0 := by simp [h1]
      have c1' : ¬ r.stamp < ((tick g).cl (idxR r)).stamp := c1
      have c2' : ¬ ((tick g).cl (idxR r)).stamp < r.stamp := c2
      refine ⟨by unfold doL; rw [if_neg a1, if_neg hn, if_neg c1', if_neg c2'], ?_, fun _ => ?_⟩
      · rw [e2]; unfold doR; rw [if_neg a1, if_neg hn, if_neg c1', if_neg c2']; rfl
      · rw [e2]; exact ⟨by show (g.cl (idxR r)).stamp = r.stamp; omega, rfl, rfl⟩
theorem right_doE {g : Lg} {r : Req} (hr : rightB r = true) : (doE g r = 0 ∧ fullB g = false) ∨ (doE g r = 18 ∧ fullB g = true ∧ doL g r = g) := by
  unfold doE
  rw [if_neg (by rw [hr]; simp)]
  cases hf : fullB g
  · left; exact ⟨rfl, rfl⟩
  · right
    refine ⟨rfl, rfl, ?_⟩
    have e18 : doE g r = 18 := by unfold doE; rw [if_neg (by rw [hr]; simp), hf]; rfl
    unfold doL
    rw [if_pos (by rw [e18]; decide)]

/-- The cells of a block. -/
structure At (w : World) (k : Nat) (vs : List Value) (t : TypeId) : Prop where
  h : w.heap[k]? = some (.cells vs.toArray t (0, 0))
theorem At.ext {S : Nat → Prop} {w w' : World} {k : Nat} {vs : List Value} {t : TypeId} (a : At w k vs t) (x : Ext S w w') (hk : ¬ S k) : At w' k vs t :=
  ⟨(x.block k (Array.getElem?_eq_some_iff.1 a.h).1 hk).trans a.h⟩
theorem At.extN {w w' : World} {k : Nat} {vs : List Value} {t : TypeId} (a : At w k vs t) (x : Ext Non w w') : At w' k vs t := a.ext x (fun f => f)
theorem At.cell {w : World} {k : Nat} {vs : List Value} {t : TypeId} (a : At w k vs t) {j : Nat} {v : Value} (hv : vs[j]? = some v) : w.cell? ⟨k, j, none⟩ = some v := cell_of_heap a.h hv
theorem At.new (w : World) (vs : List Value) (t : TypeId) : At (w.alloc (.cells vs.toArray t)) w.heap.size vs t := ⟨heap_alloc_new _ _⟩
theorem At.two {w : World} {k : Nat} {v0 v1 : Value} {t : TypeId} (a : At w k [v0, v1] t) : w.cell? ⟨k, 0, none⟩ = some v0 ∧ w.cell? ⟨k, 1, none⟩ = some v1 := ⟨a.cell rfl, a.cell rfl⟩
theorem At.six {w : World} {k : Nat} {v0 v1 v2 v3 v4 v5 : Value} {t : TypeId} (a : At w k [v0, v1, v2, v3, v4, v5] t) : w.cell? ⟨k, 0, none⟩ = some v0 ∧ w.cell? ⟨k, 1, none⟩ = some v1 ∧ w.cell? ⟨k, 2, none⟩ = some v2 ∧ w.cell? ⟨k, 3, none⟩ = some v3 ∧ w.cell? ⟨k, 4, none⟩ = some v4 ∧ w.cell? ⟨k, 5, none⟩ = some v5 :=
  ⟨a.cell rfl, a.cell rfl, a.cell rfl, a.cell rfl, a.cell rfl, a.cell rfl⟩
def Qop.rq (q : Qop) : List Value := [.int .i64 q.c, .int .i64 q.s, .int .i64 q.k, .string q.key, .float .f64 q.bits.toNat, .int .i64 q.id]

theorem once_no (ep : Int) (a : Option Addr) (cap : Nat) (xs : List Int) (hn : confB ep xs = false ∨ ep ≠ 0) (v : Value) (q : Qop) (w : World) (h : Ints w a cap xs) :
    Calls Try.prog 4 #[.agg #[.int .i64 ep, .slice a xs.length cap], v, .agg #[.int .i64 q.c, .int .i64 q.s, .int .i64 q.k, .string q.key, .int .u64 q.bits, .int .i64 q.id]] w fun e w' => e = .returned (.bool true) ∧ Ext Non w w' := by
  have HH := Go.Lib.hid h
  have HN := Go.Lib.hid hn
  clear h hn
  have X0 := Go.Lib.hid (((Ext.refl Non w).alloc (.cells #[.int .i64 ep, .slice a xs.length cap] 24)).alloc (.cells #[.int .i64 q.c, .int .i64 q.s, .int .i64 q.k, .string q.key, .int .u64 q.bits, .int .i64 q.id] 35))
  have A0 := Go.Lib.hid ((At.new w [.int .i64 ep, .slice a xs.length cap] 24).extN ((Ext.refl Non _).alloc (.cells #[.int .i64 q.c, .int .i64 q.s, .int .i64 q.k, .string q.key, .int .u64 q.bits, .int .i64 q.id] 35)))
  have A1 := Go.Lib.hid (At.new (w.alloc (.cells #[.int .i64 ep, .slice a xs.length cap] 24)) [.int .i64 q.c, .int .i64 q.s, .int .i64 q.k, .string q.key, .int .u64 q.bits, .int .i64 q.id] 35)
  have es : (w.alloc (.cells #[.int .i64 ep, .slice a xs.length cap] 24)).heap.size = w.heap.size + 1 := by simp
  rw [es] at A1; clear es
  go_enter Try.func4, Try.ntmps4
  go_wp2_with fail
  refine (law12_lives _).mono ?_
  rintro e w1 ⟨rfl, x1⟩
  have X1 := Go.Lib.hid (X0.out.trans x1)
  have A0' := Go.Lib.hid (A0.out.extN x1); have A1' := Go.Lib.hid (A1.out.extN x1)
  obtain ⟨q0, q1⟩ := A0'.out.two
  clear x1
  go_wp2_with fail
  refine (played_no _ _ _ _ HN.out _ _ (HH.out.extN X1.out)).mono ?_
  rintro e w2 ⟨rfl, x2⟩
  have X2 := Go.Lib.hid (X1.out.trans x2)
  obtain ⟨u0, u1, u2, u3, u4', u5⟩ := (A1'.out.extN x2).six
  clear q0 q1 x2
  go_wp2_with fail
  refine (ask_Request _ _ _ _ _ _ _).mono ?_
  rintro e w6 ⟨rfl, x6⟩
  go_wp2
  go_returns
  exact ⟨rfl, (X2.out.trans x6).trans ((Ext.refl _ _).alloc _)⟩

set_option maxHeartbeats 8000000 in
set_option maxRecDepth 100000 in
theorem once_ok (a : Option Addr) (cap : Nat) (xs : List Int) (hx : membersB xs = true) (sa : Option Addr) (len scap : Nat) (F : Nat → Qop) (hl : len ≤ maxLen) (q : Qop) (hq : q.Ok) (w : World) (h : Ints w a cap xs) (hs : Ops w sa len F) :
    Calls Try.prog 4 #[.agg #[.int .i64 0, .slice a xs.length cap], .slice sa len scap, .agg #[.int .i64 q.c, .int .i64 q.s, .int .i64 q.k, .string q.key, .int .u64 q.bits, .int .i64 q.id]] w fun e w' => e = .returned (.bool true) ∧ Ext Non w w' := by
  have HH := Go.Lib.hid h
  have HS := Go.Lib.hid hs
  have HX := Go.Lib.hid hx
  have OK := Go.Lib.hid hq
  have HLn := Go.Lib.hid hl
  clear h hs hx hq hl
  have X0 := Go.Lib.hid (((Ext.refl Non w).alloc (.cells #[.int .i64 0, .slice a xs.length cap] 24)).alloc (.cells #[.int .i64 q.c, .int .i64 q.s, .int .i64 q.k, .string q.key, .int .u64 q.bits, .int .i64 q.id] 35))
  have A0 := Go.Lib.hid ((At.new w [.int .i64 0, .slice a xs.length cap] 24).extN ((Ext.refl Non _).alloc (.cells #[.int .i64 q.c, .int .i64 q.s, .int .i64 q.k, .string q.key, .int .u64 q.bits, .int .i64 q.id] 35)))
  have A1 := Go.Lib.hid (At.new (w.alloc (.cells #[.int .i64 0, .slice a xs.length cap] 24)) [.int .i64 q.c, .int .i64 q.s, .int .i64 q.k, .string q.key, .int .u64 q.bits, .int .i64 q.id] 35)
  have es : (w.alloc (.cells #[.int .i64 0, .slice a xs.length cap] 24)).heap.size = w.heap.size + 1 := by simp
  rw [es] at A1; clear es
  have HB := Go.Lib.hid (show q.bits.toNat < 18446744073709551616 by have := OK.out.b0; have := OK.out.b1; omega)
  go_enter Try.func4, Try.ntmps4
  go_wp2_with fail
  refine (law12_lives _).mono ?_
  rintro e w1 ⟨rfl, x1⟩
  have X1 := Go.Lib.hid (X0.out.trans x1)
  have A0' := Go.Lib.hid (A0.out.extN x1); have A1' := Go.Lib.hid (A1.out.extN x1)
  obtain ⟨q0, q1⟩ := A0'.out.two
  clear x1
  go_wp2_with fail
  refine (played_ok _ _ _ HX.out _ _ _ _ HLn.out _ (HH.out.extN X1.out) (HS.out.extN X1.out)).mono ?_
  rintro e w2 ⟨b, m, g, rfl, x2, L2, I2, hb, hm⟩
  have X2 := Go.Lib.hid (X1.out.trans x2)
  have hb0 : w.heap.size ≤ b := Nat.le_trans X1.out.size hb
  have hm0 : w.heap.size ≤ m := Nat.le_trans X1.out.size hm
  obtain ⟨u0, u1, u2, u3, u4', u5⟩ := (A1'.out.extN x2).six
  have LL := Go.Lib.hid L2; have II := Go.Lib.hid I2
  clear q0 q1 x2 L2 I2 hb hm
  go_wp2_with fail
  refine (ask_Request _ _ _ _ _ _ _).mono ?_
  rintro e w3 ⟨rfl, x3⟩
  have AL : Ext Non w3 (w3.alloc (.cells #[.int .i64 q.c, .int .i64 q.s, .int .i64 q.k, .string q.key, .float .f64 q.bits.toNat, .int .i64 q.id] 49)) := (Ext.refl _ _).alloc _
  have AR := Go.Lib.hid (At.new w3 [.int .i64 q.c, .int .i64 q.s, .int .i64 q.k, .string q.key, .float .f64 q.bits.toNat, .int .i64 q.id] 49)
  have X3 := Go.Lib.hid ((X2.out.trans x3).trans AL)
  have L3 := Go.Lib.hid (LL.out.extN (x3.trans AL))
  obtain ⟨r0, r1, r2, r3, r4, r5⟩ := AR.out.six
  have hkb : b < w3.heap.size := Nat.lt_of_lt_of_le LL.out.lt x3.size
  have hkm : m < w3.heap.size := Nat.lt_of_lt_of_le LL.out.mp.lt x3.size
  clear u0 u1 u2 u3 u4' u5 x3 AL
  go_wp2_with fail
  generalize w3.heap.size = kr at *
  generalize w3.alloc (.cells #[.int .i64 q.c, .int .i64 q.s, .int .i64 q.k, .string q.key, .float .f64 q.bits.toNat, .int .i64 q.id] 49) = w4 at *
  refine (ref_Right _ _ _ _ _ _ _).mono ?_
  rintro e w5 ⟨rfl, x5⟩
  rw [show (⟨q.c, q.s, ⟨q.k, q.key, q.bits.toNat, q.id⟩⟩ : Req) = q.req from rfl]
  have AR5 := Go.Lib.hid (AR.out.extN x5)
  have L5 := Go.Lib.hid (L3.out.extN x5)
  have X5 := Go.Lib.hid (X3.out.trans x5)
  clear x5 r0 r1 r2 r3 r4 r5
  cases hrt : rightB q.req
  · as_aux_lemma =>
    clear hrt
    go_wp2
    go_returns
    exact ⟨rfl, X5.out⟩
  · have HR := Go.Lib.hid hrt
    clear hrt
    obtain ⟨r0, r1, r2, r3, r4, r5⟩ := AR5.out.six
    go_wp2_with fail
    refine (ledger_Do b m g II.out _ _ _ _ _ _ OK.out.c OK.out.s OK.out.k OK.out.id HB.out _ L5.out).mono ?_
    rintro e w6 ⟨rfl, x6, L6⟩
    rw [show (⟨q.c, q.s, ⟨q.k, q.key, q.bits.toNat, q.id⟩⟩ : Req) = q.req from rfl]
    have L6 : LD w6 b m (doL g q.req) := L6
    have I6 := Go.Lib.hid (inv_do II.out q.req HB.out).1
    have AR6 := AR5.out.ext x6 (by rintro (e | e) <;> have e : kr = _ := e <;> omega)
    have X6 := X5.out.step x6 (fun i hi s => by rcases s with s | s <;> omega)
    have AL : Ext Non w6 (w6.alloc (.cells #[.int .i64 (doR g q.req).code, .float .f64 (doR g q.req).real] 43)) := (Ext.refl _ _).alloc _
    have AX := Go.Lib.hid (At.new w6 [.int .i64 (doR g q.req).code, .float .f64 (doR g q.req).real] 43)
    have AR7 := Go.Lib.hid (AR6.extN AL)
    have L7 := Go.Lib.hid (L6.extN AL)
    have X7 := Go.Lib.hid (X6.trans AL)
    have hk7 : kr < w6.heap.size := (Array.getElem?_eq_some_iff.1 AR6.h).1
    clear x6 L6 AL AR6 X6 r0 r1 r2 r3 r4 r5
    rcases right_doE (g := g) HR.out with ⟨he, _⟩ | ⟨he, hf, hg⟩
    · have hi : ∃ i : Nat, i < 8 ∧ q.c = (i : Int) + 1 ∧ idxR q.req = i := ⟨(q.c - 1).toNat, by have := rightB_facts HR.out; have h1 : 1 ≤ q.c := this.1; have h2 : q.c ≤ 8 := this.2.1; omega, by have := rightB_facts HR.out; have h1 : 1 ≤ q.c := this.1; omega, rfl⟩
      obtain ⟨i, hi8, hic, hix⟩ := hi
      have HIC := Go.Lib.hid (And.intro hic hix); clear hic hix
      have HE0 := Go.Lib.hid he
      rw [he]; clear he
      have PL := Go.Lib.hid (once_plain g q.req HR.out HE0.out)
      generalize hG1 : doL g q.req = g1 at *
      generalize hR1 : doR g q.req = R1 at *
      obtain ⟨c1, v1⟩ := R1
      clear hG1 hR1
      obtain ⟨r0, r1, r2, r3, r4, r5⟩ := AR7.out.six
      go_wp2_with fail
      refine (ledger_Last b m g1 q.c i HIC.out.1 hi8 _ L7.out).mono ?_
      rintro e w8 ⟨rfl, x8⟩
      have AL : Ext Non w8 (w8.alloc (.cells #[.int .i64 (g1.cl i).code, .float .f64 (g1.cl i).real] 43)) := (Ext.refl _ _).alloc _
      have AK := Go.Lib.hid (At.new w8 [.int .i64 (g1.cl i).code, .float .f64 (g1.cl i).real] 43)
      have L9 := Go.Lib.hid (L7.out.extN (x8.trans AL))
      have X9 := Go.Lib.hid (X7.out.trans (x8.trans AL))
      have AX9 := Go.Lib.hid (AX.out.extN (x8.trans AL))
      have AR9 := Go.Lib.hid (AR7.out.extN (x8.trans AL))
      have hk8 : w6.heap.size < w8.heap.size := Nat.lt_of_lt_of_le (by simp) x8.size
      clear x8 AL r0 r1 r2 r3 r4 r5
      go_wp2_with fail
      generalize w8.heap.size = kk at *
      generalize w8.alloc (.cells #[.int .i64 (g1.cl i).code, .float .f64 (g1.cl i).real] 43) = w9 at *
      generalize w6.heap.size = kx at *
      refine (ledger_Copy b m g1 I6.out _ L9.out).mono ?_
      rintro e w10 ⟨b2, m2, rfl, x10, M10, hb2, hm2⟩
      have hk9 : kk < w9.heap.size := (Array.getElem?_eq_some_iff.1 AK.out.h).1
      have hbb : b < w9.heap.size := L9.out.lt
      have hmm : m < w9.heap.size := L9.out.mp.lt
      have L10 := Go.Lib.hid (L9.out.extN x10)
      have M10' := Go.Lib.hid M10
      have X10 := Go.Lib.hid (X9.out.trans x10)
      have AX10 := Go.Lib.hid (AX9.out.extN x10)
      have AR10 := Go.Lib.hid (AR9.out.extN x10)
      have AK10 := Go.Lib.hid (AK.out.extN x10)
      clear x10 M10
      obtain ⟨r0, r1, r2, r3, r4, r5⟩ := AR10.out.six
      go_wp2_with fail
      refine (ledger_Do b m g1 I6.out _ _ _ _ _ _ OK.out.c OK.out.s OK.out.k OK.out.id HB.out _ L10.out).mono ?_
      rintro e w11 ⟨rfl, x11, L11⟩
      rw [show (⟨q.c, q.s, ⟨q.k, q.key, q.bits.toNat, q.id⟩⟩ : Req) = q.req from rfl]
      have L11 : LD w11 b m (doL g1 q.req) := L11
      have n11 := L10.out.noInts
      have AL : Ext Non w11 (w11.alloc (.cells #[.int .i64 (doR g1 q.req).code, .float .f64 (doR g1 q.req).real] 43)) := (Ext.refl _ _).alloc _
      have AY := Go.Lib.hid (At.new w11 [.int .i64 (doR g1 q.req).code, .float .f64 (doR g1 q.req).real] 43)
      have L12 := Go.Lib.hid (L11.extN AL)
      have M12 := Go.Lib.hid ((M10'.out.ext x11 (by rintro (e | e) <;> have e : b2 = _ := e <;> omega) (by rintro (e | e) <;> have e : m2 = _ := e <;> omega) n11).extN AL)
      have X12 := Go.Lib.hid ((X10.out.step x11 (fun i hi s => by rcases s with s | s <;> omega)).trans AL)
      have AX12 := Go.Lib.hid ((AX10.out.ext x11 (by rintro (e | e) <;> have e : kx = _ := e <;> omega)).extN AL)
      have AR12 := Go.Lib.hid ((AR10.out.ext x11 (by rintro (e | e) <;> have e : kr = _ := e <;> omega)).extN AL)
      have AK12 := Go.Lib.hid ((AK10.out.ext x11 (by rintro (e | e) <;> have e : kk = _ := e <;> omega)).extN AL)
      clear x11 L11 n11 AL r0 r1 r2 r3 r4 r5
      rcases right_doE (g := g1) HR.out with ⟨he, _⟩ | ⟨he, hf, hg⟩
      · have ID2 := (inv_do I6.out q.req HB.out).1
        generalize hG2 : doL g1 q.req = G2 at *
        generalize hR2 : doR g1 q.req = R2 at *
        obtain ⟨p1, p2, p3⟩ := PL.out he
        subst p1; subst p2
        rw [he]
        rw [HIC.out.2] at p3
        have P3 := Go.Lib.hid p3
        have I2 := Go.Lib.hid ID2
        clear he p3 hG2 hR2 ID2
        obtain ⟨x0, x1⟩ := AX12.out.two
        obtain ⟨y0, y1⟩ := AY.out.two
        obtain ⟨k0, k1⟩ := AK12.out.two
        obtain ⟨r0, r1, r2, r3, r4, r5⟩ := AR12.out.six
        go_upto_region 15 with fail
        generalize hW12 : w11.alloc _ = w12 at *
        clear hW12
        have hd := I6.out.dn
        have he := I6.out.ep
        have hw : IntKind.i64.wrap (g1.done + 1) = g1.done + 1 := IntWalk.i64_in _ (by omega)
        generalize hst : (g1.cl i).stamp = st at *
        generalize hkc : (g1.cl i).code = kc at *
        generalize hkv : (g1.cl i).real = kv at *
        have HST := Go.Lib.hid hst; have HKC := Go.Lib.hid hkc; have HKV := Go.Lib.hid hkv
        clear hst hkc hkv
        have E0 := Go.Lib.hid (Ext.refl Non w12)
        go_cut [101] (fun v wx => v = .bool false ∧ Ext Non w12 wx)
        case first =>
          by_cases h7 : c1 = 7
          · as_aux_lemma =>
            subst h7
            go_wp2_with fail
            refine (ref_SameResult _ _ _ _ _).mono ?_
            rintro e w13 ⟨rfl, x13⟩
            rw [decide_eq_true (rfl : canonN v1 = canonN v1), decide_eq_true (rfl : (7 : Int) = 7)]
            have z0 := (AX12.out.extN x13).two.1
            go_wp2_with fail
            refine (ledger_Done b m _ _ (L12.out.extN x13)).mono ?_
            rintro e w14 ⟨rfl, rfl⟩
            rw [show (tick g1).done = g1.done + 1 from rfl]
            go_wp2_with fail
            refine (ledger_Done b2 m2 _ _ (M12.out.extN x13)).mono ?_
            rintro e w15 ⟨rfl, rfl⟩
            go_wp2_with fail
            go_meet
            exact ⟨rfl, x13⟩
          · as_aux_lemma =>
            obtain ⟨e1, e2, e3⟩ := P3.out h7
            have b7 : (c1 != 7) = true := by rw [bne_iff_ne]; exact h7
            have bs : (st != q.s) = false := by have e1 : st = q.s := e1; rw [e1]; simp
            have E2 : kc = c1 := e2; have E3 : kv = v1 := e3
            subst E2; subst E3
            clear e1 e2 e3 h7
            go_wp2_with fail
            refine (ref_SameResult _ _ _ _ _).mono ?_
            rintro e w13 ⟨rfl, x13⟩
            rw [decide_eq_true (rfl : canonN kv = canonN kv), decide_eq_true (rfl : kc = kc)]
            obtain ⟨z0, z1⟩ := (AX12.out.extN x13).two
            obtain ⟨z2, z3⟩ := (AK12.out.extN x13).two
            have z4 := (AR12.out.extN x13).six.2.1
            clear x0 x1 y0 y1 k0 k1 r0 r1 r2 r3 r4 r5
            go_wp2_with fail
            refine (ref_SameResult _ _ _ _ _).mono ?_
            rintro e w14 ⟨rfl, x14⟩
            rw [decide_eq_true (rfl : canonN kv = canonN kv), decide_eq_true (rfl : kc = kc)]
            have x14' := x13.trans x14
            go_wp2_with fail
            refine (ledger_Done b m _ _ (L12.out.extN x14')).mono ?_
            rintro e w14 ⟨rfl, rfl⟩
            rw [show (tick g1).done = g1.done + 1 from rfl]
            go_wp2_with fail
            refine (ledger_Done b2 m2 _ _ (M12.out.extN x14')).mono ?_
            rintro e w15 ⟨rfl, rfl⟩
            go_wp2_with fail
            go_meet
            exact ⟨rfl, x14'⟩
        case rest =>
          as_aux_lemma =>
          obtain ⟨hv, xc⟩ := hcut
          subst hv
          have L13 := Go.Lib.hid (L12.out.extN xc); have M13 := Go.Lib.hid (M12.out.extN xc); have X13 := Go.Lib.hid (X12.out.trans xc)
          have AR13 := Go.Lib.hid (AR12.out.extN xc); have AK13 := Go.Lib.hid (AK12.out.extN xc)
          clear xc x0 x1 y0 y1 k0 k1 r0 r1 r2 r3 r4 r5
          obtain ⟨r0, r1, r2, r3, r4, r5⟩ := AR13.out.six
          go_wp2_with fail
          refine (ledger_Last b m (tick g1) q.c i HIC.out.1 hi8 _ L13.out).mono ?_
          rintro e w14 ⟨rfl, x14⟩
          rw [show (tick g1).cl i = g1.cl i from rfl, HST.out, HKC.out, HKV.out]
          have AL : Ext Non w14 (w14.alloc (.cells #[.int .i64 kc, .float .f64 kv] 43)) := (Ext.refl _ _).alloc _
          have AZ := Go.Lib.hid (At.new w14 [.int .i64 kc, .float .f64 kv] 43)
          have x14' := x14.trans AL
          have L15 := Go.Lib.hid (L13.out.extN x14'); have M15 := Go.Lib.hid (M13.out.extN x14'); have X15 := Go.Lib.hid (X13.out.trans x14')
          have AR15 := Go.Lib.hid (AR13.out.extN x14'); have AK15 := Go.Lib.hid (AK13.out.extN x14')
          clear x14' x14 AL r0 r1 r2 r3 r4 r5
          obtain ⟨r0, r1, r2, r3, r4, r5⟩ := AR15.out.six
          go_wp2_with fail
          generalize w14.alloc (.cells #[.int .i64 kc, .float .f64 kv] 43) = w15 at *
          refine (ledger_Get b m _ _ _ L15.out).mono ?_
          rintro e w16 ⟨rfl, rfl⟩
          rw [show (tick g1).keys = g1.keys from rfl]
          go_wp2_with fail
          refine (ledger_Get b2 m2 _ _ _ M15.out).mono ?_
          rintro e w16 ⟨rfl, rfl⟩
          generalize valK g1.keys q.key = kvv at *
          generalize hasK g1.keys q.key = khh at *
          obtain ⟨z0, z1⟩ := AZ.out.two
          obtain ⟨z2, z3⟩ := AK15.out.two
          have bst : (st == st) = true := beq_self_eq_true _
          clear r0 r1 r2 r3 r4 r5
          go_wp2_with fail
          refine (ref_SameResult _ _ _ _ _).mono ?_
          rintro e w16 ⟨rfl, x16⟩
          rw [decide_eq_true (rfl : canonN kv = canonN kv), decide_eq_true (rfl : kc = kc)]
          have L16 := Go.Lib.hid (L15.out.extN x16); have M16 := Go.Lib.hid (M15.out.extN x16); have X16 := Go.Lib.hid (X15.out.trans x16)
          have bkh : (khh == khh) = true := beq_self_eq_true _
          clear x16
          go_wp2_with fail
          refine (ref_Bits _ _).mono ?_
          rintro e w17 ⟨rfl, rfl⟩
          go_wp2_with fail
          refine (ref_Bits _ _).mono ?_
          rintro e w17 ⟨rfl, rfl⟩
          go_wp2_with fail
          refine (ledger_Next b m _ I2.out _ L16.out).mono ?_
          rintro e w17 ⟨a3, c3, rfl, x17, i17, f17⟩
          rw [show (tick g1).next = g1.next from rfl]
          rw [show (tick g1).next = g1.next from rfl] at i17
          go_wp2_with fail
          refine (ledger_Next b2 m2 _ I6.out _ (M16.out.extN x17)).mono ?_
          rintro e w18 ⟨a4, c4, rfl, x18, i18, f18⟩
          go_wp2_with fail
          refine (ref_SameInts _ _ _ _ _ _ _ (i17.extN x18) i18).mono ?_
          rintro e w19 ⟨rfl, x19⟩
          rw [decide_eq_true (rfl : g1.next = g1.next)]
          go_wp2
          go_returns
          exact ⟨rfl, ((X16.out.trans x17).trans x18).trans x19⟩
      · as_aux_lemma =>
        rw [he]
        rw [hg] at L12
        have HF := Go.Lib.hid hf
        clear he hg hf
        go_wp2_with fail
        refine (ledger_Full b m g1 I6.out _ L12.out).mono ?_
        rintro e w13 ⟨rfl, n, rfl⟩
        rw [HF.out]
        go_wp2
        go_returns
        exact ⟨rfl, X12.out.drewN n⟩
    · as_aux_lemma =>
      rw [he]
      rw [hg] at L7
      have HF := Go.Lib.hid hf
      clear he hg hf
      go_wp2_with fail
      refine (ledger_Full b m g II.out _ L7.out).mono ?_
      rintro e w8 ⟨rfl, n, rfl⟩
      rw [HF.out]
      go_wp2
      go_returns
      exact ⟨rfl, X7.out.drewN n⟩
theorem conf_cases2 (ep : Int) (xs : List Int) : (ep = 0 ∧ membersB xs = true) ∨ (confB ep xs = false ∨ ep ≠ 0) := by
  by_cases h0 : ep = 0
  · subst h0
    cases hm : membersB xs
    · right; left; unfold confB; rw [hm]; simp
    · left; exact ⟨rfl, rfl⟩
  · right; right; exact h0
set_option maxRecDepth 100000 in
open Go.ChangeShapes Go.WideShapes in
theorem law_LedgerOnce {H : Type} {enc : TypeId × Value → H} (W : World) {base : Nat} (v0 : Value) (d0 : DataW H) (p0 : List MemPlace) (v1 : Value) (d1 : DataW H) (p1 : List MemPlace) (v2 : Value) (d2 : DataW H) (p2 : List MemPlace)
    (h0 : DataW.Trod enc Try.prog W 0 (fun _ => true) true 24 v0 d0 p0) (ok0 : Value.okWide Try.prog W .any base 24 v0)
    (h1 : DataW.Trod enc Try.prog W 0 (fun _ => true) true 25 v1 d1 p1) (ok1 : Value.okWide Try.prog W .any base 25 v1)
    (h2 : DataW.Trod enc Try.prog W 0 (fun _ => true) true 35 v2 d2 p2) (ok2 : Value.okWide Try.prog W .any base 35 v2) :
    Calls Try.prog 4 #[v0, v1, v2] W fun e w' => e = .returned (.bool true) ∧ Below W.heap.size W w' := by
  obtain ⟨ep, a, cap, xs, rfl, _, hi, _⟩ := arg_conf ok0 h0
  obtain ⟨sa, len, scap, F, rfl, hl, hs⟩ := arg_ops ok1 h1
  obtain ⟨q, rfl, hq⟩ := arg_ask ok2 h2
  rcases conf_cases2 ep xs with ⟨rfl, hm⟩ | hn
  · exact (once_ok a cap xs hm sa len scap F hl q hq W hi hs).mono fun _ _ ⟨a, b⟩ => ⟨a, b.toBelow⟩
  · exact (once_no ep a cap xs hn _ q W hi).mono fun _ _ ⟨a, b⟩ => ⟨a, b.toBelow⟩
end Go.Proofs.Ytfefeepljbfcdaa
