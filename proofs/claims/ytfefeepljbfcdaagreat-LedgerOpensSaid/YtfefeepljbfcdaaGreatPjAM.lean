/- Joined texts: DeedsT, Ew2, Terms, Ref07. What each proves stands at its head; no conditions beside those in its theorems. -/
import Derived.Test.YtfefeepljbfcdaaGreatPjAH
import Derived.Test.YtfefeepljbfcdaaGreatPjAI
import Derived.Test.YtfefeepljbfcdaaGreatPjAL
/- Contracts of layer 11 (deeds): texts; and the reference's. -/
namespace Go.Proofs.YtfefeepljbfcdaaGreat
open Go.RowKit Go.Lib F64
set_option linter.unusedSimpArgs false
set_option linter.unusedVariables false
structure Bx (w : World) (k : Nat) (vs : List Value) (t : TypeId) : Prop where
 h : w.heap[k]? = some (.cells vs.toArray t (0, 0))
theorem Bx.lt {w : World} {k : Nat} {vs : List Value} {t : TypeId} (a : Bx w k vs t) : k < w.heap.size := (Array.getElem?_eq_some_iff.1 a.h).1
theorem Bx.ext {S : Nat → Prop} {w w' : World} {k : Nat} {vs : List Value} {t : TypeId} (a : Bx w k vs t) (x : Ext S w w') (hk : ¬ S k) : Bx w' k vs t := ⟨(x.block k a.lt hk).trans a.h⟩
theorem Bx.extN {w w' : World} {k : Nat} {vs : List Value} {t : TypeId} (a : Bx w k vs t) (x : Ext Non w w') : Bx w' k vs t := a.ext x (fun f => f)
theorem Bx.cell {w : World} {k : Nat} {vs : List Value} {t : TypeId} (a : Bx w k vs t) {j : Nat} {v : Value} (hv : vs[j]? = some v) : w.cell? ⟨k, j, none⟩ = some v := cell_of_heap a.h hv
theorem Bx.new (w : World) (vs : List Value) (t : TypeId) : Bx (w.alloc (.cells vs.toArray t)) w.heap.size vs t := ⟨heap_alloc_new _ _⟩
theorem ref_Null (c s k : Int) (key : ByteArray) (x : Nat) (id : Int) (w : World) : Calls Tryz.prog 59 #[.agg #[.int .i64 c, .int .i64 s, .int .i64 k, .string key, .float .f64 x, .int .i64 id]] w fun e w' => e = .returned (.bool (nullB ⟨c, s, ⟨k, key, x, id⟩⟩)) ∧ Ext Non w w' := by
 have B0 : Ext Non w (w.alloc (.cells #[.int .i64 c, .int .i64 s, .int .i64 k, .string key, .float .f64 x, .int .i64 id] 54)) := (Ext.refl _ _).alloc _
 have HE : Hid (nullB ⟨c, s, ⟨k, key, x, id⟩⟩ = (decide (c = 0) && decide (s = 0) && decide (k = 0) && decide (id = 0) && decide (key.size = 0) && noneB x)) := hI_ rfl
 by_cases h1 : c = 0
 ·by_cases h2 : s = 0
  ·by_cases h3 : k = 0
   ·by_cases h4 : key.toList = []
    ·have HS := hI_ ((toList_nil key).1 h4)
     subst h1; subst h2; subst h3
     go_enter Tryz.func59, Tryz.ntmps59
     go_wp2_with fail
     refine (ref_plain _ _ _ _ _).mono ?_
     rintro e w1 ⟨rfl, y⟩
     have c5 : w1.cell? ⟨w.heap.size, 5, none⟩ = some (.int .i64 id) := (y.cell (p := ⟨w.heap.size, 5, none⟩) (by simp) (fun f => f)).trans (cell_new' w _ _ rfl)
     cases hn : noneB x
     all_goals
      have HN := hI_ hn
      clear hn
      go_wp2
      go_returns
      exact ⟨ret_bool (by rw [HE.out, HS.out, HN.out, Bool.eq_iff_iff]; simp), B0.trans y⟩
    ·have HS := hI_ (fun h => h4 ((toList_nil key).2 h))
     subst h1; subst h2; subst h3
     go_enter Tryz.func59, Tryz.ntmps59
     go_wp2
     go_returns
     exact ⟨ret_bool (by rw [HE.out, decide_eq_false HS.out]; simp), B0⟩
   ·have HS := hI_ (decide_eq_false h3)
    have hb : (k == 0) = false := by rw [beq_eq_false_iff_ne]; exact h3
    subst h1; subst h2; clear h3
    go_enter Tryz.func59, Tryz.ntmps59
    go_wp2
    go_returns
    exact ⟨ret_bool (by rw [HE.out, HS.out]; simp), B0⟩
  ·have HS := hI_ (decide_eq_false h2)
   have hb : (s == 0) = false := by rw [beq_eq_false_iff_ne]; exact h2
   subst h1; clear h2
   go_enter Tryz.func59, Tryz.ntmps59
   go_wp2
   go_returns
   exact ⟨ret_bool (by rw [HE.out, HS.out]; simp), B0⟩
 ·have HS := hI_ (decide_eq_false h1)
  have hb : (c == 0) = false := by rw [beq_eq_false_iff_ne]; exact h1
  clear h1
  go_enter Tryz.func59, Tryz.ntmps59
  go_wp2
  go_returns
  exact ⟨ret_bool (by rw [HE.out, HS.out]; simp), B0⟩
end Go.Proofs.YtfefeepljbfcdaaGreat

/- Worlds that grew behind a writer: 'y : EW (WB n0 b w) w'. A block that the writer does not write is told by NW; simp reads its cells through any number of such worlds. -/
namespace Go.Proofs.YtfefeepljbfcdaaGreat
open Go.RowKit
set_option linter.unusedVariables false
def NW (n0 b : Nat) (w : World) (k : Nat) : Prop := k < w.heap.size ∧ ¬ WB n0 b w k
theorem NW.box {n0 b : Nat} {w : World} {k : Nat} {c : Array Value} {t : TypeId} {fr : Nat × Nat} (h : w.heap[k]? = some (.cells c t fr)) (hk : k ≠ b) (ht : t ≠ 5) : NW n0 b w k :=
 ⟨(Array.getElem?_eq_some_iff.1 h).1, WB.other h hk ht⟩
theorem NW.new {n0 b : Nat} {w : World} {k : Nat} (c : Array Value) (t : TypeId) (hk : k = w.heap.size) (hb : b < w.heap.size) (ht : t ≠ 5) : NW n0 b (w.alloc (.cells c t)) k := by
 subst hk
 exact NW.box (heap_alloc_new _ _) (by omega) ht
theorem NW.ext {S : Nat → Prop} {n0 b : Nat} {w w' : World} {k : Nat} (h : NW n0 b w k) (x : Ext S w w') (hs : ¬ S k) : NW n0 b w' k :=
 ⟨Nat.lt_of_lt_of_le h.1 x.size, fun hb => h.2 (by
  rcases hb with e | ⟨h1, cs, fr, h2⟩
  ·exact .inl e
  ·exact .inr ⟨h1, cs, fr, (x.block k h.1 hs).symm.trans h2⟩)⟩
def restN (n0 b : Nat) (w w' : World) (k : Nat) : Prop := NW n0 b w' k ∧ ¬ NW n0 b w k
theorem NW.or {S : Nat → Prop} {n0 b : Nat} {w w' : World} (x : Ext S w w') (k : Nat) (hs : NW n0 b w k → ¬ S k) : NW n0 b w' k = (NW n0 b w k ∨ restN n0 b w w' k) := by
 apply propext
 constructor
 ·intro h
  by_cases g : NW n0 b w k
  ·exact .inl g
  ·exact .inr ⟨h, g⟩
 ·rintro (h | h)
  ·exact h.ext x (hs h)
  ·exact h.1
theorem NW.alloc {n0 b : Nat} {w : World} (o : Obj) (k : Nat) : NW n0 b (w.alloc o) k = (NW n0 b w k ∨ restN n0 b w (w.alloc o) k) := NW.or ((Ext.refl Non w).alloc o) k (fun _ f => f)
open Classical in
noncomputable def restW (n0 b : Nat) (w w' : World) (p : Addr) : Option Value := w'.cell? p
theorem Ext.upW {n0 b : Nat} {a w : World} {x : EW (WB n0 b w) w} (h : Ext (WB n0 b a) a w) : Ext (WB n0 b a) a x.on := h.wtrans x.ext
structure Ahead (n0 b : Nat) (a : World) : Prop where
 n : a.heap.size ≤ n0
 b : n0 ≤ b
theorem Ext.upA {n0 b : Nat} {a w : World} {x : EW (WB n0 b w) w} (hb : Ahead n0 b a) (h : Ext Non a w) : Ext Non a x.on :=
 h.step x.ext fun i hi s => by
  have := hb.n; have := hb.b
  rcases s with s | s
  ·omega
  ·have := s.1; omega
end Go.Proofs.YtfefeepljbfcdaaGreat

/- Contracts of layers 7 and 9 (council, terms); the reference's. -/
namespace Go.Proofs.YtfefeepljbfcdaaGreat
open Go.RowKit Go.Lib F64
set_option linter.unusedSimpArgs false
set_option linter.unusedVariables false
theorem idx_of (xs : List Int) (t : Int) (i : Nat) (hi : i < xs.length) (h0 : ∀ j (h : j < xs.length), j < i → xs[j] ≠ t) (he : xs[i] = t) : hasB xs t = true := by rw [hasB_iff, ← he]; exact List.getElem_mem hi
theorem idx_no (xs : List Int) (t : Int) (h0 : ∀ j (h : j < xs.length), j < xs.length → xs[j] ≠ t) : hasB xs t = false := by
 rw [Bool.eq_false_iff]; intro h
 rw [hasB_iff] at h
 obtain ⟨j, hj, e⟩ := List.getElem_of_mem h
 exact h0 j hj hj e
theorem ref_Has (a : Option Addr) (cap : Nat) (xs : List Int) (t : Int) (w : World) (h : Ints w a cap xs) : Calls Tryz.prog 118 #[.slice a xs.length cap, .int .i64 t] w fun e w' => e = .returned (.bool (hasB xs t)) ∧ ∃ n, w' = w.drewN n := by
 have hm := h.small
 have hm2 := h.le
 have HH := hI_ h; clear h
 go_enter Tryz.func118, Tryz.ntmps118
 go_wp2
 go_loopw [5] (fun iv wr => ∃ (i : Nat), i ≤ xs.length ∧ iv = .int .i64 i ∧ (∃ n, wr = w.drewN n) ∧ (∀ j (h : j < xs.length), j < i → xs[j] ≠ t)) (fun iv _ => xs.length - (intOf iv).toNat)
 case atStart => exact ⟨0, Nat.zero_le _, rfl, ⟨0, rfl⟩, fun j h hj => absurd hj (Nat.not_lt_zero _)⟩
 case round =>
  obtain ⟨i, hi, rfl, ⟨nd, rfl⟩, hn⟩ := hrel
  have HN := hI_ hn; clear hn
  by_cases hlt : i < xs.length
  ·obtain ⟨b, o, rfl, hc, hx⟩ := (HH.out.drewN nd).at_ i hlt
   generalize hxi : xs[i] = x at *
   have HX := hI_ hxi; clear hxi
   by_cases hxt : x = t
   ·have hb : (x == t) = true := by rw [hxt]; simp
    have HT := hI_ hxt; clear hxt
    go_wp2
    go_ret
    exact ⟨ret_bool (by rw [idx_of xs t i hlt HN.out (HX.out.trans HT.out)]), _, rfl⟩
   ·have hb : (x == t) = false := by rw [beq_eq_false_iff_ne]; exact hxt
    have HT := hI_ hxt; clear hxt
    go_wp2
    go_roundw
    case rel =>
     refine ⟨i + 1, hlt, by go_num, ⟨_, rfl⟩, fun j hj hji => ?_⟩
     rcases Nat.lt_or_eq_of_le (Nat.lt_succ_iff.1 hji) with h | rfl
     ·exact HN.out j hj h
     ·exact fun e => HT.out (HX.out.symm.trans e)
    case measure => simp [intOf]; omega
  ·go_wp2
   go_ret
   exact ⟨ret_bool (by rw [idx_no xs t (fun j hj _ => HN.out j hj (by omega))]), _, rfl⟩
/-! ### The reference's members -/
theorem rising_snoc (l : List Int) : ∀ last, risingB last l = true ↔ ∀ j (h : j < l.length), (l[j] < 16 ∧ (if h0 : j = 0 then last < l[j] else l[j - 1]'(by omega) < l[j])) := by
 induction l with
 | nil => intro last; exact ⟨fun _ j h => absurd h (Nat.not_lt_zero _), fun _ => rfl⟩
 | cons x xs ih =>
  intro last
  simp only [risingB, Bool.and_eq_true, decide_eq_true_eq]
  rw [ih x]
  constructor
  ·rintro ⟨⟨h1, h2⟩, h3⟩ j hj
   cases j with
   | zero => exact ⟨h2, by rw [dif_pos rfl]; exact h1⟩
   | succ j =>
    have hj' : j < xs.length := by simpa using hj
    obtain ⟨a, b⟩ := h3 j hj'
    refine ⟨a, ?_⟩
    rw [dif_neg (by omega)]
    by_cases h0 : j = 0
    ·subst h0; rw [dif_pos rfl] at b; exact b
    ·rw [dif_neg h0] at b
     have e : (x :: xs)[j + 1 - 1]'(by simp; omega) = xs[j - 1]'(by omega) := by
      obtain ⟨k, rfl⟩ : ∃ k, j = k + 1 := ⟨j - 1, by omega⟩
      rfl
     rw [e]; exact b
  ·intro h
   obtain ⟨a0, b0⟩ := h 0 (by simp)
   rw [dif_pos rfl] at b0
   refine ⟨⟨b0, a0⟩, fun j hj => ?_⟩
   obtain ⟨a, b⟩ := h (j + 1) (by simp; omega)
   refine ⟨a, ?_⟩
   rw [dif_neg (by omega)] at b
   by_cases h0 : j = 0
   ·subst h0; rw [dif_pos rfl]; exact b
   ·rw [dif_neg h0]
    have e : (x :: xs)[j + 1 - 1]'(by simp; omega) = xs[j - 1]'(by omega) := by
     obtain ⟨k, rfl⟩ : ∃ k, j = k + 1 := ⟨j - 1, by omega⟩
     rfl
    rw [e] at b; exact b
def okM (l : List Int) (j : Nat) (h : j < l.length) : Prop := 0 ≤ l[j] ∧ l[j] < 16 ∧ (∀ h0 : 0 < j, l[j - 1]'(by omega) < l[j])
theorem rising_okM (l : List Int) : risingB (-1) l = true ↔ ∀ j (h : j < l.length), okM l j h := by
 rw [rising_snoc]
 constructor
 ·intro h j
  induction j with
  | zero =>
   intro hj
   obtain ⟨a, b⟩ := h 0 hj
   rw [dif_pos rfl] at b
   exact ⟨by omega, a, fun h0 => absurd h0 (Nat.lt_irrefl 0)⟩
  | succ j ih =>
   intro hj
   obtain ⟨a, b⟩ := h (j + 1) hj
   rw [dif_neg (by omega)] at b
   have := (ih (by omega)).1
   simp only [Nat.add_sub_cancel] at b
   exact ⟨by omega, a, fun _ => by simpa using b⟩
 ·intro h j hj
  obtain ⟨a, b, c⟩ := h j hj
  refine ⟨b, ?_⟩
  by_cases h0 : j = 0
  ·rw [dif_pos h0]; omega
  ·rw [dif_neg h0]; exact c (by omega)
set_option maxHeartbeats 2000000 in
set_option maxRecDepth 100000 in
theorem ref_Members (a : Option Addr) (cap : Nat) (xs : List Int) (w : World) (h : Ints w a cap xs) : Calls Tryz.prog 57 #[.slice a xs.length cap] w fun e w' => e = .returned (.bool (membersB xs)) ∧ Ext Non w w' := by
 have hm := h.small
 have hm2 := h.le
 have HH := hI_ h; clear h
 go_enter Tryz.func57, Tryz.ntmps57
 go_wp2
 go_loopw [3] (fun iv wr => ∃ (i : Nat), i ≤ xs.length ∧ iv = .int .i64 i ∧ Ext Non w wr ∧ (∀ j (h : j < xs.length), j < i → okM xs j h)) (fun iv _ => xs.length - (intOf iv).toNat)
 case atStart => exact ⟨0, Nat.zero_le _, rfl, Ext.refl _ _, fun j h hj => absurd hj (Nat.not_lt_zero _)⟩
 case round =>
  obtain ⟨i, hi, rfl, x0, hn⟩ := hrel
  have XX := hI_ x0; clear x0
  have HN := hI_ hn; clear hn
  by_cases hlt : i < xs.length
  ·obtain ⟨b, o, rfl, hc, hx⟩ := (HH.out.extN XX.out).at_ i hlt
   generalize hxi : xs[i] = x at *
   have HX := hI_ hxi; clear hxi
   have bad : ¬ okM xs i hlt → membersB xs = false := fun hno => by
    unfold membersB
    have : risingB (-1) xs = false := by rw [Bool.eq_false_iff]; intro hr; exact hno ((rising_okM xs).1 hr i hlt)
    rw [this]; rfl
   have BAD := hI_ bad; clear bad
   by_cases h1 : 0 ≤ x
   ·have d1 : decide (x < 0) = false := decide_eq_false (by omega)
    by_cases h2 : x < 16
    ·have d2 : decide (16 ≤ x) = false := decide_eq_false (by omega)
     by_cases h3 : i = 0
     ·subst h3
      rw [Nat.add_zero] at hc
      have d3 : decide ((0 : Int) < 0) = false := rfl
      have HO : Hid (okM xs 0 hlt) := hI_ ⟨by rw [HX.out]; exact h1, by rw [HX.out]; exact h2, fun h0 => absurd h0 (Nat.lt_irrefl 0)⟩
      go_wp2_with fail
      go_quiet (fail)
      go_wp2
      go_roundw
      case rel =>
       refine ⟨1, by omega, rfl, XX.out.drewN _, fun j hj hji => ?_⟩
       obtain rfl : j = 0 := by omega
       exact HO.out
      case measure => simp [intOf]; omega
     ·have hip : (0 : Int) < i := by omega
      have d3 : decide (0 < i) = true := decide_eq_true (by omega)
      have hw : IntKind.i64.wrap ((i : Int) - 1) = ((i - 1 : Nat) : Int) := by rw [show ((i : Int) - 1) = ((i - 1 : Nat) : Int) by omega]; exact IntWalk.i64_in _ (by omega)
      have hip1 : i - 1 < xs.length := by omega
      obtain ⟨b', o', e', hc', hx'⟩ := (HH.out.extN XX.out).at_ (i - 1) hip1
      have e1 : b' = b ∧ o' = o := by cases e'; exact ⟨rfl, rfl⟩
      obtain ⟨rfl, rfl⟩ := e1
      generalize hyi : xs[i - 1] = y at *
      have HY := hI_ hyi; clear hyi e'
      generalize hpn : i - 1 = p at *
      have HPn := hI_ hpn; clear hpn
      have hp0 : (0 : Int) ≤ (p : Int) := by omega
      have hp1 : (p : Int) < (xs.length : Int) := by omega
      by_cases h4 : y < x
      ·have d4 : decide (x ≤ y) = false := decide_eq_false (by omega)
       have HO : Hid (okM xs i hlt) := hI_ ⟨by rw [HX.out]; exact h1, by rw [HX.out]; exact h2, fun h0 => by
        have hp := HPn.out
        subst hp
        rw [HX.out, HY.out]; exact h4⟩
       go_wp2_with fail
       go_quiet (fail)
       go_wp2
       go_roundw
       case rel =>
        refine ⟨i + 1, hlt, by go_num, XX.out.drewN _, fun j hj hji => ?_⟩
        rcases Nat.lt_or_eq_of_le (Nat.lt_succ_iff.1 hji) with h | rfl
        ·exact HN.out j hj h
        ·exact HO.out
       case measure => simp [intOf]; omega
      ·have d4 : decide (x ≤ y) = true := decide_eq_true (by omega)
       have HO := hI_ (BAD.out (fun ho => h4 (by
        have := ho.2.2 (by omega)
        have hp := HPn.out
        subst hp
        rw [HX.out, HY.out] at this; exact this)))
       go_wp2_with fail
       go_quiet (fail)
       go_wp2
       go_ret
       exact ⟨ret_bool HO.out.symm, XX.out.drewN _⟩
    ·have d2 : decide (16 ≤ x) = true := decide_eq_true (by omega)
     have HO := hI_ (BAD.out (fun ho => h2 (by have := ho.2.1; rw [HX.out] at this; exact this)))
     go_wp2_with fail
     go_quiet (fail)
     go_wp2
     go_ret
     exact ⟨ret_bool HO.out.symm, XX.out.drewN _⟩
   ·have d1 : decide (x < 0) = true := decide_eq_true (by omega)
    have HO := hI_ (BAD.out (fun ho => h1 (by have := ho.1; rw [HX.out] at this; exact this)))
    go_wp2_with fail
    go_quiet (fail)
    go_wp2
    go_ret
    exact ⟨ret_bool HO.out.symm, XX.out.drewN _⟩
  ·have HO := hI_ (show membersB xs = (decide (4 ≤ xs.length) && decide (xs.length ≤ 10)) by
    unfold membersB
    rw [(rising_okM xs).2 (fun j hj => HN.out j hj (by omega))]; rfl)
   by_cases h4 : 4 ≤ xs.length
   ·go_wp2
    go_ret
    exact ⟨ret_bool (by rw [HO.out, Bool.eq_iff_iff]; simp; omega), XX.out⟩
   ·go_wp2
    go_ret
    exact ⟨ret_bool (by rw [HO.out, Bool.eq_iff_iff]; simp; omega), XX.out⟩
end Go.Proofs.YtfefeepljbfcdaaGreat

/- Contracts of the reference of layer 7: which configurations are right. -/
namespace Go.Proofs.YtfefeepljbfcdaaGreat
open Go.RowKit Go.Lib F64
set_option linter.unusedSimpArgs false
set_option linter.unusedVariables false
theorem ref_Right07 (ep : Int) (a : Option Addr) (cap : Nat) (xs : List Int) (w : World) (h : Ints w a cap xs) : Calls Tryz.prog 18 #[.agg #[.int .i64 ep, .slice a xs.length cap]] w fun e w' => e = .returned (.bool (confB ep xs)) ∧ Ext Non w w' := by
 have HE : Hid (confB ep xs = (decide (0 ≤ ep) && decide (ep ≤ 60) && membersB xs)) := hI_ rfl
 have HH : Hid (Ints (w.alloc (.cells #[.int .i64 ep, .slice a xs.length cap] 24)) a cap xs) := hI_ (h.extN ((Ext.refl _ _).alloc _))
 clear h
 by_cases h0 : 0 ≤ ep
 ·by_cases h1 : ep ≤ 60
  ·go_enter Tryz.func18, Tryz.ntmps18
   go_wp2_with fail
   refine (ref_Members _ _ _ _ HH.out).mono ?_
   rintro e w1 ⟨rfl, y⟩
   go_wp2
   go_ret
   exact ⟨ret_bool (by rw [HE.out, decide_eq_true h0, decide_eq_true h1]; rfl), ((Ext.refl _ _).alloc _).trans y⟩
  ·go_enter Tryz.func18, Tryz.ntmps18
   go_wp2
   go_ret
   exact ⟨ret_bool (by rw [HE.out, decide_eq_false (by omega : ¬ ep ≤ 60)]; simp), (Ext.refl _ _).alloc _⟩
 ·go_enter Tryz.func18, Tryz.ntmps18
  go_wp2
  go_ret
  exact ⟨ret_bool (by rw [HE.out, decide_eq_false (by omega : ¬ 0 ≤ ep)]; simp), (Ext.refl _ _).alloc _⟩
end Go.Proofs.YtfefeepljbfcdaaGreat
