/- Joined texts: Rep7, Rep8, Rep16. What each proves stands at its head; no conditions beside those in its theorems. -/
import Derived.Laws.CopyOwn
import Derived.Deep.OwnRows
import Derived.Deep.RegionLaw
import Derived.Test.YtflpkoafebjfdaaGreatProg
import Derived.Shelf.SlIter.Nil
import Derived.Shelf.SortM.Plain
import Derived.Shelf.SortM.SortNone
import Derived.Ground.GgzProg
import Derived.Ground.SlgmProg
import Derived.Test.YtflpkoafebjfdaaGreatPjBM
import Derived.Test.YtflpkoafebjfdaaGreatPjBO
/- Contracts of layer 18 (replica): takeUp. -/
namespace Go.Proofs.YtflpkoafebjfdaaGreat
open Go.RowKit Go.Lib F64
set_option linter.unusedSimpArgs false
set_option linter.unusedVariables false
attribute [local go_sem] run_store_float
attribute [local go_sem low] EW.cellN EW.frozN alloc_cell_or alloc_froz_or
attribute [local go_sem] relAt relUpon
/-- What goOn leaves, with so many leaves at most. -/
def GoC (P : Rp → Rp) (n : Int) : Prop := ∀ (w : World) (b : Nat) (col : Nat → Nat) (A : RA) (g : Rp) (slot : Int), RepW w b col A g → RInv g → I64 slot → g.left ≤ n →
  Calls Tryz.prog 201 #[.pointer (some ⟨b, 0, none⟩), .int .i64 slot] w fun e w' => e = .returned (.tuple #[]) ∧ RPost w b col A g w' (goOnF P g slot) ∧ RInv (goOnF P g slot) ∧ (goOnF P g slot).left ≤ g.left
/-- What goOn leaves at a state. -/
def GoAt (P : Rp → Rp) (g : Rp) (slot : Int) : Prop := ∀ (w : World) (b : Nat) (col : Nat → Nat) (A : RA), RepW w b col A g → RInv g → I64 slot →
  Calls Tryz.prog 201 #[.pointer (some ⟨b, 0, none⟩), .int .i64 slot] w fun e w' => e = .returned (.tuple #[]) ∧ RPost w b col A g w' (goOnF P g slot) ∧ RInv (goOnF P g slot) ∧ (goOnF P g slot).left ≤ g.left
theorem Ext.oneC {w w' : World} {b : Nat} {col : Nat → Nat} {A : RA} {g : Rp} (h : RepW w b col A g) (x : Ext (One b) w w') : Ext (Colo col) w w' := x.mono (fun k _ q => by
  have q : k = b := q
  show col k ≠ 0
  rw [q, h.c1]; decide)
section
variable {b : Nat} {col : Nat → Nat} {A : RA} {g : Rp}
theorem sign_left {g : Rp} (h : signB g = true) : (signG g).left = g.left - 1 := by
  rcases sign_cases g with ⟨-, e, -⟩ | ⟨e, -⟩
  · rw [e]
  · rw [h] at e; cases e
theorem sign_no {g : Rp} (h : signB g = false) : (signG g).left = g.left := by
  rcases sign_cases g with ⟨e, -⟩ | ⟨-, a, e, -⟩
  · rw [h] at e; cases e
  · rw [e]
theorem Loc.hide {w : World} {col : Nat → Nat} {k : Nat} {vs : List Value} {t : TypeId} (h : Loc w col k vs t) : Bx (Go.Proofs.YtflpkoafebjfdaaGreat.hide col w) k vs t := ⟨(hide_at h.c).trans h.h.h⟩
theorem sign_begun (g : Rp) : (signG g).begun = g.begun := by
  rcases sign_cases g with ⟨-, e, -⟩ | ⟨-, a, e, -⟩ <;> rw [e]
theorem sign_yes {g : Rp} (h : signB g = true) : signG g = { g with left := g.left - 1 } := by
  rcases sign_cases g with ⟨-, e, -⟩ | ⟨e, -⟩
  · exact e
  · rw [h] at e; cases e
theorem RInv.outs {g : Rp} (h : RInv g) : g.out.length ≤ 700000 ∧ g.out.length + g.log.mem.length ≤ 1000000 ∧ g.says.length ≤ 1000000 := by
  have := h.b.sayb; have := h.b.doneb; have := h.b.epb; have := h.out; have := h.len; have := h.b.mlen
  unfold outM at *
  omega
theorem sigs_box {w : World} {k : Nat} {by_ : Int} {text : ByteArray} {t : TypeId} (h : Bx w k [.int .i64 by_, .string text] t) (hb : I64 by_) (ht : text.size ≤ 9223372036854775807) : Sigs w (some ⟨k, 0, none⟩) 1 [⟨by_, text⟩] :=
  ⟨Nat.le_refl _, by omega, fun j hj => by
    obtain rfl : j = 0 := by simp at hj; omega
    exact ⟨k, 0, rfl, h.lt, h.cell rfl, h.cell rfl, hb, ht⟩⟩
/-- A message that prepares, in memory. -/
theorem MsW.prepare {w : World} {k : Nat} {by_ : Int} {t : ByteArray} {g : Rp} {slot : Int} {q : Req} (hB : Bx w k [.int .i64 by_, .string t] 48) (hb : by_ = g.id) (hv : I64 g.log.view) (hs : I64 slot) (hq : ReqOk q) (hi : I64 by_) (ht : t.size ≤ 9223372036854775807) : MsW w ⟨none, 0, some ⟨k, 0, none⟩, 1, none, 0, none, 0⟩ (msgPrepare g slot q t) where
  n := Ints.nil' w
  s := by subst hb; exact sigs_box hB hi ht
  c := Chs.nil' w
  l := Lks.nil' w
  ok := ⟨by show I64 3; unfold I64; omega, by show I64 0; unfold I64; omega, hv, hs, hq, by show I64 0; unfold I64; omega, by show 0 < _; decide, by show ByteArray.empty.size ≤ _; decide⟩
theorem cells_prepare (g : Rp) (slot : Int) (rc rs rk : Int) (rkey : ByteArray) (rx : Nat) (rid : Int) (t : ByteArray) (k : Nat) : (Value.agg ((msgPrepare g slot ⟨rc, rs, ⟨rk, rkey, rx, rid⟩⟩ t).cells ⟨none, 0, some ⟨k, 0, none⟩, 1, none, 0, none, 0⟩).toArray) = .agg #[.int .i64 3, .int .i64 0, .int .i64 g.log.view, .int .i64 slot, .int .i64 rc, .int .i64 rs, .int .i64 rk, .string rkey, .float .f64 rx, .int .i64 rid, .int .i64 0, .float .f64 0, .string ⟨#[]⟩, .slice none 0 0, .slice (some ⟨k, 0, none⟩) 1 1, .slice none 0 0, .slice none 0 0] := rfl
/-- Where takeUp goes on. -/
def takeS (g : Rp) (slot : Int) (q : Req) : Rp := sayG { signG g with log := prepareG (signG g).log g.id slot q g.id (prepText g slot q) } (msgPrepare { signG g with log := prepareG (signG g).log g.id slot q g.id (prepText g slot q) } slot q (prepText g slot q))
set_option maxHeartbeats 4000000 in
set_option maxRecDepth 100000 in
theorem rep_takeUp (P : Rp → Rp) (slot : Int) (hsl : I64 slot) (rc rs rk : Int) (rkey : ByteArray) (rx : Nat) (rid : Int) (HG : signB g = true → GoAt P (takeS g slot ⟨rc, rs, ⟨rk, rkey, rx, rid⟩⟩) slot) (hr : ReqOk ⟨rc, rs, ⟨rk, rkey, rx, rid⟩⟩) (w : World) (h : RepW w b col A g) (hi : RInv g) : Calls Tryz.prog 199 #[.pointer (some ⟨b, 0, none⟩), .int .i64 slot, .agg #[.int .i64 rc, .int .i64 rs, .int .i64 rk, .string rkey, .float .f64 rx, .int .i64 rid]] w fun e w' =>
    e = .returned (.tuple #[]) ∧ RPost w b col A g w' (takeUpF P g slot ⟨rc, rs, ⟨rk, rkey, rx, rid⟩⟩) ∧ RInv (takeUpF P g slot ⟨rc, rs, ⟨rk, rkey, rx, rid⟩⟩) ∧ (takeUpF P g slot ⟨rc, rs, ⟨rk, rkey, rx, rid⟩⟩).left ≤ g.left := by
  have HR := Go.Lib.hid h; have HQ := Go.Lib.hid hr; have HN := Go.Lib.hid hi; have HS := Go.Lib.hid hsl
  have q0 := h.t0 id; have q1 := h.tlog id; have q2 := h.tep id; have q3 := h.rid id
  have hep := hi.b.epb; have hvw := hi.b.lg.vw; have hgid := hi.b.id
  have hlf := hi.b.lf
  have XA := Go.Lib.hid ((Ext.refl Non w).alloc (.cells #[.int .i64 rc, .int .i64 rs, .int .i64 rk, .string rkey, .float .f64 rx, .int .i64 rid] 37))
  have HIE : Hid (I64 g.log.ep ∧ I64 g.log.view ∧ I64 g.id) := Go.Lib.hid ⟨by unfold I64; omega, by unfold I64; omega, by unfold I64; omega⟩
  have DT : Hid (takeUpF P g slot ⟨rc, rs, ⟨rk, rkey, rx, rid⟩⟩ = if signB g = true then goOnF P (sayG { signG g with log := prepareG (signG g).log g.id slot ⟨rc, rs, ⟨rk, rkey, rx, rid⟩⟩ g.id (prepText g slot ⟨rc, rs, ⟨rk, rkey, rx, rid⟩⟩) } (msgPrepare { signG g with log := prepareG (signG g).log g.id slot ⟨rc, rs, ⟨rk, rkey, rx, rid⟩⟩ g.id (prepText g slot ⟨rc, rs, ⟨rk, rkey, rx, rid⟩⟩) } slot ⟨rc, rs, ⟨rk, rkey, rx, rid⟩⟩ (prepText g slot ⟨rc, rs, ⟨rk, rkey, rx, rid⟩⟩))) slot else signG g) := Go.Lib.hid rfl
  have DP : Hid (prepText g slot ⟨rc, rs, ⟨rk, rkey, rx, rid⟩⟩ = prepS g.log.ep g.log.view slot ⟨rc, rs, ⟨rk, rkey, rx, rid⟩⟩) := Go.Lib.hid rfl
  have HGo : Hid (signB g = true → GoAt P (sayG { signG g with log := prepareG (signG g).log g.id slot ⟨rc, rs, ⟨rk, rkey, rx, rid⟩⟩ g.id (prepText g slot ⟨rc, rs, ⟨rk, rkey, rx, rid⟩⟩) } (msgPrepare { signG g with log := prepareG (signG g).log g.id slot ⟨rc, rs, ⟨rk, rkey, rx, rid⟩⟩ g.id (prepText g slot ⟨rc, rs, ⟨rk, rkey, rx, rid⟩⟩) } slot ⟨rc, rs, ⟨rk, rkey, rx, rid⟩⟩ (prepText g slot ⟨rc, rs, ⟨rk, rkey, rx, rid⟩⟩))) slot) := Go.Lib.hid HG
  clear h hi hr hsl HG
  obtain ⟨kq, hkq⟩ : ∃ kq, kq = w.heap.size := ⟨_, rfl⟩
  have B0 : Hid (Loc (w.alloc (.cells #[.int .i64 rc, .int .i64 rs, .int .i64 rk, .string rkey, .float .f64 rx, .int .i64 rid] 37)) col kq [.int .i64 rc, .int .i64 rs, .int .i64 rk, .string rkey, .float .f64 rx, .int .i64 rid] 37) := Go.Lib.hid ⟨Bx.newAt w [.int .i64 rc, .int .i64 rs, .int .i64 rk, .string rkey, .float .f64 rx, .int .i64 rid] 37 kq hkq, HR.out.new _ (by omega)⟩
  have N0 := Go.Lib.hid ((Nw.start HR.out).extN XA.out)
  go_enter Tryz.func199, Tryz.ntmps199
  go_upto_region 1 with fail
  rw [← hkq]
  clear hkq q0 q1 q2 q3
  generalize World.alloc _ _ = W0 at *
  obtain ⟨q0, q1, q2⟩ : _ ∧ _ ∧ _ := ⟨N0.out.r.t0 id, N0.out.r.tlog id, N0.out.r.tep id⟩
  go_wp2_with fail
  refine (rep_view _ N0.out.r).mono ?_
  rintro e w' ⟨rfl, rfl⟩
  obtain ⟨c0, c1, c2, c3, c4, c5⟩ := B0.out.h.six
  go_upto_region 2 with fail
  apply wp_region_rel (relR [Mo.is _, Mo.is _, Mo.is _, Mo.is _, Mo.is _, Mo.is _, Mo.is _, Mo.is _, Mo.is _, Mo.is _, Mo.is _, Mo.is _, Mo.is _, Mo.is _, Mo.is _, Mo.is _, Mo.is _]) (by kernel_rfl) (by kernel_rfl) (by kernel_rfl) (relR_mono _) (StepD.all ?st1) ?q1
  case st1 =>
    refine ⟨?_, ?_, ?_, ?_, ?_, ?_, ?_, ?_, ?_, ?_, ?_, ?_, ?_, ?_, ?_, ?_, ?_, trivial⟩
    · intro a' w' hx hs hd
      obtain ⟨y, rfl⟩ := hx.ew
      have e0 : a'.tmps[0]?.getD undef = _ := hs 0 rfl
      simp only [List.getElem?_toArray, List.getElem?_cons_succ, List.getElem?_cons_zero, Option.getD_some, Array.getElem?_eq_some_iff] at e0
      refine .inl ⟨rfl, ?_⟩
      clear hs hd hx
      go_simp
      exact ⟨Ext.refl _ _, rfl⟩
    · intro a' w' hx hs hd
      obtain ⟨y, rfl⟩ := hx.ew
      have e20 : a'.tmps[20]?.getD undef = _ := hd 0 20 rfl rfl
      refine .inl ⟨rfl, ?_⟩
      clear hs hd hx
      go_simp
      exact ⟨Ext.refl _ _, rfl⟩
    · intro a' w' hx hs hd
      obtain ⟨y, rfl⟩ := hx.ew
      have e21 : a'.tmps[21]?.getD undef = _ := hd 1 21 rfl rfl
      refine .inl ⟨rfl, ?_⟩
      clear hs hd hx
      go_simp
      exact ⟨Ext.refl _ _, rfl⟩
    · intro a' w' hx hs hd
      obtain ⟨y, rfl⟩ := hx.ew
      have e22 : a'.tmps[22]?.getD undef = _ := hd 2 22 rfl rfl
      refine .inl ⟨rfl, ?_⟩
      clear hs hd hx
      go_simp
      exact ⟨Ext.refl _ _, rfl⟩
    · intro a' w' hx hs hd
      obtain ⟨y, rfl⟩ := hx.ew
      have e23 : a'.tmps[23]?.getD undef = _ := hd 3 23 rfl rfl
      refine .inl ⟨rfl, ?_⟩
      clear hs hd hx
      go_simp
      exact ⟨Ext.refl _ _, rfl⟩
    · intro a' w' hx hs hd
      obtain ⟨y, rfl⟩ := hx.ew
      have e24 : a'.tmps[24]?.getD undef = _ := hd 4 24 rfl rfl
      refine .inl ⟨rfl, ?_⟩
      clear hs hd hx
      go_simp
      exact ⟨Ext.refl _ _, rfl⟩
    · intro a' w' hx hs hd
      obtain ⟨y, rfl⟩ := hx.ew
      have e25 : a'.tmps[25]?.getD undef = _ := hd 5 25 rfl rfl
      refine .inl ⟨rfl, ?_⟩
      clear hs hd hx
      go_simp
      exact ⟨Ext.refl _ _, rfl⟩
    · intro a' w' hx hs hd
      obtain ⟨y, rfl⟩ := hx.ew
      have e26 : a'.tmps[26]?.getD undef = _ := hd 6 26 rfl rfl
      refine .inl ⟨rfl, ?_⟩
      clear hs hd hx
      go_simp
      exact ⟨Ext.refl _ _, rfl⟩
    · intro a' w' hx hs hd
      obtain ⟨y, rfl⟩ := hx.ew
      have e6 : a'.tmps[6]?.getD undef = _ := hs 6 rfl
      simp only [List.getElem?_toArray, List.getElem?_cons_succ, List.getElem?_cons_zero, Option.getD_some, Array.getElem?_eq_some_iff] at e6
      refine .inl ⟨rfl, ?_⟩
      clear hs hd hx
      go_simp
      exact ⟨Ext.refl _ _, rfl⟩
    · intro a' w' hx hs hd
      obtain ⟨y, rfl⟩ := hx.ew
      have e1 : a'.tmps[1]?.getD undef = _ := hs 1 rfl
      simp only [List.getElem?_toArray, List.getElem?_cons_succ, List.getElem?_cons_zero, Option.getD_some, Array.getElem?_eq_some_iff] at e1
      refine .inl ⟨rfl, ?_⟩
      clear hs hd hx
      go_simp
      exact ⟨Ext.refl _ _, rfl⟩
    · intro a' w' hx hs hd
      obtain ⟨y, rfl⟩ := hx.ew
      have e5 : a'.tmps[5]?.getD undef = _ := hs 5 rfl
      simp only [List.getElem?_toArray, List.getElem?_cons_succ, List.getElem?_cons_zero, Option.getD_some, Array.getElem?_eq_some_iff] at e5
      refine .inl ⟨rfl, ?_⟩
      clear hs hd hx
      go_simp
      exact ⟨Ext.refl _ _, rfl⟩
    · intro a' w' hx hs hd
      obtain ⟨y, rfl⟩ := hx.ew
      have e27 : a'.tmps[27]?.getD undef = _ := hd 7 27 rfl rfl
      have e28 : a'.tmps[28]?.getD undef = _ := hd 8 28 rfl rfl
      have e29 : a'.tmps[29]?.getD undef = _ := hd 9 29 rfl rfl
      have e30 : a'.tmps[30]?.getD undef = _ := hd 10 30 rfl rfl
      refine .inl ⟨rfl, ?_⟩
      clear hs hd hx
      go_simp
      exact (deeds_Prepared g.log.ep g.log.view slot rc rs rk rkey rx rid HIE.out.1 HIE.out.2.1 HS.out HQ.out.c HQ.out.s HQ.out.k HQ.out.id HQ.out.x HQ.out.key _).mono (fun e w'' ⟨he, hx⟩ => ⟨_, he, hx, rfl⟩)
    · intro a' w' hx hs hd
      obtain ⟨y, rfl⟩ := hx.ew
      have e31 : a'.tmps[31]?.getD undef = _ := hd 11 31 rfl rfl
      refine .inl ⟨rfl, ?_⟩
      clear hs hd hx
      go_simp
      exact ⟨Ext.refl _ _, rfl⟩
    · intro a' w' hx hs hd
      obtain ⟨y, rfl⟩ := hx.ew
      have e19 : a'.tmps[19]?.getD undef = _ := hd 12 19 rfl rfl
      refine .inl ⟨rfl, ?_⟩
      clear hs hd hx
      go_simp
      exact ⟨Ext.refl _ _, rfl⟩
    · intro a' w' hx hs hd
      obtain ⟨y, rfl⟩ := hx.ew
      have e19 : a'.tmps[19]?.getD undef = _ := hd 12 19 rfl rfl
      refine .inl ⟨rfl, ?_⟩
      clear hs hd hx
      go_simp
      exact ⟨Ext.refl _ _, rfl⟩
    · intro a' w' hx hs hd
      obtain ⟨y, rfl⟩ := hx.ew
      have e32 : a'.tmps[32]?.getD undef = _ := hd 13 32 rfl rfl
      refine .inl ⟨rfl, ?_⟩
      clear hs hd hx
      go_simp
      exact ⟨Ext.refl _ _, rfl⟩
    · intro a' w' hx hs hd
      obtain ⟨y, rfl⟩ := hx.ew
      have e33 : a'.tmps[33]?.getD undef = _ := hd 14 33 rfl rfl
      refine .inl ⟨rfl, ?_⟩
      clear hs hd hx
      go_simp
      exact ⟨Ext.refl _ _, rfl⟩
  case' q1 =>
    intro vs w' hx hRR
    obtain ⟨x1, rfl⟩ := hx.ew
    have q0 : vs 0 = _ := hRR 0 (by decide)
    have q1 : vs 1 = _ := hRR 1 (by decide)
    have q2 : vs 2 = _ := hRR 2 (by decide)
    have q3 : vs 3 = _ := hRR 3 (by decide)
    have q4 : vs 4 = _ := hRR 4 (by decide)
    have q5 : vs 5 = _ := hRR 5 (by decide)
    have q6 : vs 6 = _ := hRR 6 (by decide)
    have q7 : vs 7 = _ := hRR 7 (by decide)
    have q8 : vs 8 = _ := hRR 8 (by decide)
    have q9 : vs 9 = _ := hRR 9 (by decide)
    have q10 : vs 10 = _ := hRR 10 (by decide)
    have q11 : vs 11 = _ := hRR 11 (by decide)
    have q12 : vs 12 = _ := hRR 12 (by decide)
    have q13 : vs 13 = _ := hRR 13 (by decide)
    have q14 : vs 14 = _ := hRR 14 (by decide)
    have q15 : vs 15 = _ := hRR 15 (by decide)
    have q16 : vs 16 = _ := hRR 16 (by decide)
    clear hRR hx
    simp only [putAll, List.take_succ_cons, List.take_zero, List.drop_succ_cons, List.drop_zero, Act.put, List.setIfInBounds_toArray, List.set_cons_zero, List.set_cons_succ, Nat.reduceAdd, Nat.zero_add]
    simp only [q0, q1, q2, q3, q4, q5, q6, q7, q8, q9, q10, q11, q12, q13, q14, q15, q16]
    clear q0 q1 q2 q3 q4 q5 q6 q7 q8 q9 q10 q11 q12 q13 q14 q15 q16 vs
  have X1 := Go.Lib.hid (by (repeat (first | with_reducible (first | exact Ext.refl _ _ | assumption | refine Ext.upN ?_ | refine Ext.alloc ?_ _ | refine Ext.drew ?_ | refine Ext.drewN ?_ _ | refine Ext.up1N (by first | omega | simp) ?_) | refine Ext.alloc ?_ _ | refine Ext.setCell ?_ (.inr (by first | omega | simp)) _)) : Ext Non W0 x1.on)
  have N1 := Go.Lib.hid (N0.out.extN X1.out)
  have B1 := Go.Lib.hid (B0.out.extN X1.out)
  clear c0 c1 c2 c3 c4 c5 q0 q1 q2 B0 N0
  rw [← DP.out]
  have HPt := Go.Lib.hid (show (prepText g slot ⟨rc, rs, ⟨rk, rkey, rx, rid⟩⟩).size ≤ 100 by rw [DP.out]; exact prepS_size _ _ _ _)
  generalize prepText g slot ⟨rc, rs, ⟨rk, rkey, rx, rid⟩⟩ = pt at *
  generalize x1.on = W1 at *
  clear X1
  go_wp2_with fail
  refine (rep_sign pt _ N1.out.r (by have := hlf; omega)).mono ?_
  rintro e w2 ⟨rfl, r2, x2⟩
  have x2c := Ext.oneC N1.out.r x2
  have N2' := N1.out.same r2 (sign_begun g) rfl (ColX.refl _ _) ⟨x2c, .of x2 (fun i s => by have s : i = b := s; rw [s, N1.out.r.c1]; decide)⟩
  have B2 := Go.Lib.hid (B1.out.ext x2c (ColX.refl _ _))
  clear x2 x2c r2
  cases hs : signB g
  · have HD := Go.Lib.hid (show takeUpF P g slot ⟨rc, rs, ⟨rk, rkey, rx, rid⟩⟩ = signG g by rw [DT.out, hs]; rfl)
    have HLf := Go.Lib.hid (sign_no hs)
    have N2 := Go.Lib.hid N2'
    have HV : sgV g pt = .agg #[.int .i64 0, .string ⟨#[]⟩] := by unfold sgV; rw [hs]; rfl
    rw [HV]
    clear HV hs N2'
    go_wp2
    go_returns
    refine ⟨rfl, ?_, ?_, ?_⟩
    · rw [HD.out]
      exact (N2.out.extN (by (repeat (first | with_reducible (first | exact Ext.refl _ _ | assumption | refine Ext.upN ?_ | refine Ext.alloc ?_ _ | refine Ext.drew ?_ | refine Ext.drewN ?_ _ | refine Ext.up1N (by first | omega | simp) ?_) | refine Ext.alloc ?_ _ | refine Ext.setCell ?_ (.inr (by first | omega | simp)) _)))).post
    · rw [HD.out]; exact HN.out.sign
    · rw [HD.out, HLf.out]; exact Int.le_refl _
  · have HSg := Go.Lib.hid hs
    have HD := Go.Lib.hid (show takeUpF P g slot ⟨rc, rs, ⟨rk, rkey, rx, rid⟩⟩ = goOnF P (sayG { signG g with log := prepareG (signG g).log g.id slot ⟨rc, rs, ⟨rk, rkey, rx, rid⟩⟩ g.id pt } (msgPrepare { signG g with log := prepareG (signG g).log g.id slot ⟨rc, rs, ⟨rk, rkey, rx, rid⟩⟩ g.id pt } slot ⟨rc, rs, ⟨rk, rkey, rx, rid⟩⟩ pt)) slot by rw [DT.out, if_pos hs])
    have HV : sgV g pt = .agg #[.int .i64 g.id, .string pt] := by unfold sgV; rw [hs]; rfl
    have HE := Go.Lib.hid (sign_yes hs)
    have N2 := Go.Lib.hid N2'
    rw [HV]
    clear HV hs N2'
    obtain ⟨ks, hks⟩ : ∃ ks, ks = w2.heap.size := ⟨_, rfl⟩
    have X3 := Go.Lib.hid ((Ext.refl Non w2).alloc (.cells #[.int .i64 g.id, .string pt] 48))
    have S3 : Hid (Loc (w2.alloc (.cells #[.int .i64 g.id, .string pt] 48)) col ks [.int .i64 g.id, .string pt] 48) := Go.Lib.hid ⟨Bx.newAt w2 [.int .i64 g.id, .string pt] 48 ks hks, N2.out.r.new _ (by omega)⟩
    go_upto_region 5 with fail
    rw [← hks]
    clear hks
    generalize World.alloc _ _ = W3 at *
    have N3 := Go.Lib.hid (N2.out.extN X3.out)
    have B3 := Go.Lib.hid (B2.out.extN X3.out)
    clear X3 N1 B1 B2
    obtain ⟨c0, c1, c2, c3, c4, c5⟩ := B3.out.h.six
    obtain ⟨s0, s1⟩ : _ ∧ _ := ⟨S3.out.h.cell (j := 0) rfl, S3.out.h.cell (j := 1) rfl⟩
    obtain ⟨q0, q1, q2⟩ : _ ∧ _ ∧ _ := ⟨N3.out.r.t0 id, N3.out.r.tlog id, N3.out.r.rid id⟩
    rw [HE.out] at q2
    dsimp only at q2
    apply wp_region_rel_tail 14 (relR [Mo.is _, Mo.is _, Mo.is _, Mo.is _, Mo.is _, Mo.is _, Mo.is _, Mo.is _, Mo.is _, Mo.is _, Mo.is _, Mo.is _, Mo.is _, Mo.is _]) (by kernel_rfl) (by kernel_rfl) (by kernel_rfl) (by kernel_rfl) (by kernel_rfl) (by decide) (by kernel_rfl) (relR_mono _) (StepD.all ?st2) ?q2
    case st2 =>
      refine ⟨?_, ?_, ?_, ?_, ?_, ?_, ?_, ?_, ?_, ?_, ?_, ?_, ?_, ?_, trivial⟩
      · intro a' w' hx hs hd
        obtain ⟨y, rfl⟩ := hx.ew
        have e0 : a'.tmps[0]?.getD undef = _ := hs 0 rfl
        simp only [List.getElem?_toArray, List.getElem?_cons_succ, List.getElem?_cons_zero, Option.getD_some, Array.getElem?_eq_some_iff] at e0
        refine .inl ⟨rfl, ?_⟩
        clear hs hd hx
        go_simp
        exact ⟨Ext.refl _ _, rfl⟩
      · intro a' w' hx hs hd
        obtain ⟨y, rfl⟩ := hx.ew
        have e42 : a'.tmps[42]?.getD undef = _ := hd 0 42 rfl rfl
        refine .inl ⟨rfl, ?_⟩
        clear hs hd hx
        go_simp
        exact ⟨Ext.refl _ _, rfl⟩
      · intro a' w' hx hs hd
        obtain ⟨y, rfl⟩ := hx.ew
        have e43 : a'.tmps[43]?.getD undef = _ := hd 1 43 rfl rfl
        refine .inl ⟨rfl, ?_⟩
        clear hs hd hx
        go_simp
        exact ⟨Ext.refl _ _, rfl⟩
      · intro a' w' hx hs hd
        obtain ⟨y, rfl⟩ := hx.ew
        have e44 : a'.tmps[44]?.getD undef = _ := hd 2 44 rfl rfl
        refine .inl ⟨rfl, ?_⟩
        clear hs hd hx
        go_simp
        exact ⟨Ext.refl _ _, rfl⟩
      · intro a' w' hx hs hd
        obtain ⟨y, rfl⟩ := hx.ew
        have e45 : a'.tmps[45]?.getD undef = _ := hd 3 45 rfl rfl
        refine .inl ⟨rfl, ?_⟩
        clear hs hd hx
        go_simp
        exact ⟨Ext.refl _ _, rfl⟩
      · intro a' w' hx hs hd
        obtain ⟨y, rfl⟩ := hx.ew
        have e46 : a'.tmps[46]?.getD undef = _ := hd 4 46 rfl rfl
        refine .inl ⟨rfl, ?_⟩
        clear hs hd hx
        go_simp
        exact ⟨Ext.refl _ _, rfl⟩
      · intro a' w' hx hs hd
        obtain ⟨y, rfl⟩ := hx.ew
        have e47 : a'.tmps[47]?.getD undef = _ := hd 5 47 rfl rfl
        refine .inl ⟨rfl, ?_⟩
        clear hs hd hx
        go_simp
        exact ⟨Ext.refl _ _, rfl⟩
      · intro a' w' hx hs hd
        obtain ⟨y, rfl⟩ := hx.ew
        have e0 : a'.tmps[0]?.getD undef = _ := hs 0 rfl
        simp only [List.getElem?_toArray, List.getElem?_cons_succ, List.getElem?_cons_zero, Option.getD_some, Array.getElem?_eq_some_iff] at e0
        refine .inl ⟨rfl, ?_⟩
        clear hs hd hx
        go_simp
        exact ⟨Ext.refl _ _, rfl⟩
      · intro a' w' hx hs hd
        obtain ⟨y, rfl⟩ := hx.ew
        have e49 : a'.tmps[49]?.getD undef = _ := hd 7 49 rfl rfl
        refine .inl ⟨rfl, ?_⟩
        clear hs hd hx
        go_simp
        exact ⟨Ext.refl _ _, rfl⟩
      · intro a' w' hx hs hd
        obtain ⟨y, rfl⟩ := hx.ew
        have e50 : a'.tmps[50]?.getD undef = _ := hd 8 50 rfl rfl
        refine .inl ⟨rfl, ?_⟩
        clear hs hd hx
        go_simp
        exact ⟨Ext.refl _ _, rfl⟩
      · intro a' w' hx hs hd
        obtain ⟨y, rfl⟩ := hx.ew
        have e51 : a'.tmps[51]?.getD undef = _ := hd 9 51 rfl rfl
        refine .inl ⟨rfl, ?_⟩
        clear hs hd hx
        go_simp
        exact ⟨Ext.refl _ _, rfl⟩
      · intro a' w' hx hs hd
        obtain ⟨y, rfl⟩ := hx.ew
        have e1 : a'.tmps[1]?.getD undef = _ := hs 1 rfl
        simp only [List.getElem?_toArray, List.getElem?_cons_succ, List.getElem?_cons_zero, Option.getD_some, Array.getElem?_eq_some_iff] at e1
        refine .inl ⟨rfl, ?_⟩
        clear hs hd hx
        go_simp
        exact ⟨Ext.refl _ _, rfl⟩
      · intro a' w' hx hs hd
        obtain ⟨y, rfl⟩ := hx.ew
        have e5 : a'.tmps[5]?.getD undef = _ := hs 5 rfl
        simp only [List.getElem?_toArray, List.getElem?_cons_succ, List.getElem?_cons_zero, Option.getD_some, Array.getElem?_eq_some_iff] at e5
        refine .inl ⟨rfl, ?_⟩
        clear hs hd hx
        go_simp
        exact ⟨Ext.refl _ _, rfl⟩
      · intro a' w' hx hs hd
        obtain ⟨y, rfl⟩ := hx.ew
        have e9 : a'.tmps[9]?.getD undef = _ := hs 9 rfl
        simp only [List.getElem?_toArray, List.getElem?_cons_succ, List.getElem?_cons_zero, Option.getD_some, Array.getElem?_eq_some_iff] at e9
        refine .inl ⟨rfl, ?_⟩
        clear hs hd hx
        go_simp
        exact ⟨Ext.refl _ _, rfl⟩
    case' q2 =>
      intro vs w' hx hRR
      obtain ⟨x4, rfl⟩ := hx.ew
      have q0 : vs 0 = _ := hRR 0 (by decide)
      have q1 : vs 1 = _ := hRR 1 (by decide)
      have q2 : vs 2 = _ := hRR 2 (by decide)
      have q3 : vs 3 = _ := hRR 3 (by decide)
      have q4 : vs 4 = _ := hRR 4 (by decide)
      have q5 : vs 5 = _ := hRR 5 (by decide)
      have q6 : vs 6 = _ := hRR 6 (by decide)
      have q7 : vs 7 = _ := hRR 7 (by decide)
      have q8 : vs 8 = _ := hRR 8 (by decide)
      have q9 : vs 9 = _ := hRR 9 (by decide)
      have q10 : vs 10 = _ := hRR 10 (by decide)
      have q11 : vs 11 = _ := hRR 11 (by decide)
      have q12 : vs 12 = _ := hRR 12 (by decide)
      have q13 : vs 13 = _ := hRR 13 (by decide)
      clear hRR hx
      simp only [putAll, List.take_succ_cons, List.take_zero, List.drop_succ_cons, List.drop_zero, Act.put, List.setIfInBounds_toArray, List.set_cons_zero, List.set_cons_succ, Nat.reduceAdd, Nat.zero_add]
      simp only [q0, q1, q2, q3, q4, q5, q6, q7, q8, q9, q10, q11, q12, q13]
      clear q0 q1 q2 q3 q4 q5 q6 q7 q8 q9 q10 q11 q12 q13 vs
    have X4 := Go.Lib.hid (by (repeat (first | with_reducible (first | exact Ext.refl _ _ | assumption | refine Ext.upN ?_ | refine Ext.alloc ?_ _ | refine Ext.drew ?_ | refine Ext.drewN ?_ _ | refine Ext.up1N (by first | omega | simp) ?_) | refine Ext.alloc ?_ _ | refine Ext.setCell ?_ (.inr (by first | omega | simp)) _)) : Ext Non W3 x4.on)
    have N4 := Go.Lib.hid (N3.out.extN X4.out)
    have B4 := Go.Lib.hid (B3.out.extN X4.out)
    have S4 := Go.Lib.hid (S3.out.extN X4.out)
    clear c0 c1 c2 c3 c4 c5 s0 s1 q0 q1 q2 B3 S3 N3 X4
    generalize x4.on = W4 at *
    go_wp2_with fail
    obtain ⟨G, hL, hG⟩ := (N4.out.r.log id).ex
    have hpt : pt.size ≤ 9223372036854775807 := by have := HPt.out; omega
    refine (log_Prepare A.bl G _ g.id slot HIE.out.2.2 HS.out rc rs rk rkey rx rid HQ.out g.id pt HIE.out.2.2 hpt _ hL).mono ?_
    rintro e w5 ⟨rfl, G', hL', hG', x5⟩
    obtain ⟨col5, r5, hc5, x5c⟩ := N4.out.r.setLog hG x5 hL' hG' (by simp) (by simp)
    have N5 := Go.Lib.hid (N4.out.same r5 rfl rfl hc5 x5c)
    have B5 := Go.Lib.hid (B4.out.ext x5c.1 hc5)
    have S5 := Go.Lib.hid (S4.out.ext x5c.1 hc5)
    clear hL hG hL' hG' x5 r5 hc5 x5c N4 B4 S4
    obtain ⟨c0, c1, c2, c3, c4, c5⟩ := B5.out.h.six
    obtain ⟨s0, s1⟩ : _ ∧ _ := ⟨S5.out.h.cell (j := 0) rfl, S5.out.h.cell (j := 1) rfl⟩
    go_wp2_with fail
    have BZ := Go.Lib.hid (Bx.new w5 [.int .i64 g.id, .string pt] 48)
    have N6 := Go.Lib.hid (N5.out.extN ((Ext.refl Non w5).alloc (.cells #[.int .i64 g.id, .string pt] 48)))
    have B6 := Go.Lib.hid (B5.out.extN ((Ext.refl Non w5).alloc (.cells #[.int .i64 g.id, .string pt] 48)))
    have LZ : Hid (Loc (w5.alloc (.cells #[.int .i64 g.id, .string pt] 48)) col5 w5.heap.size [.int .i64 g.id, .string pt] 48) := Go.Lib.hid ⟨BZ.out, N5.out.r.new _ (Nat.le_refl _)⟩
    have M6 := MsW.prepare (g := g) (slot := slot) (q := ⟨rc, rs, ⟨rk, rkey, rx, rid⟩⟩) (t := pt) LZ.out.hide rfl HIE.out.2.1 HS.out HQ.out HIE.out.2.2 hpt
    have HO := HN.out.outs
    have P := (rep_say (msgPrepare g slot ⟨rc, rs, ⟨rk, rkey, rx, rid⟩⟩ pt) _ _ N6.out.r M6 (by show I64 (signG g).id; rw [HE.out]; exact HIE.out.2.2) (by show I64 (prepareG (signG g).log g.id slot ⟨rc, rs, ⟨rk, rkey, rx, rid⟩⟩ g.id pt).ep; rw [prepare_ep, HE.out]; exact HIE.out.1) (by show (signG g).out.length + (prepareG (signG g).log g.id slot ⟨rc, rs, ⟨rk, rkey, rx, rid⟩⟩ g.id pt).mem.length ≤ 1000000; rw [prepare_mem, HE.out]; exact HO.2.1) (by show (signG g).says.length ≤ 1000000; rw [HE.out]; exact HO.2.2))
    rw [cells_prepare] at P
    refine Calls.mono P ?_
    clear P
    rintro e w7 ⟨rfl, p⟩
    obtain ⟨col7, A7, N7', -, -, -⟩ := N6.out.step p
    have N7 := Go.Lib.hid N7'
    clear p N7' M6 c0 c1 c2 c3 c4 c5 s0 s1 N5 B5 S5 N6 B6 BZ LZ HO
    have HTk := Go.Lib.hid (HN.out.takeHead HSg.out slot ⟨rc, rs, ⟨rk, rkey, rx, rid⟩⟩ g.id g.id pt (msgPrepare g slot ⟨rc, rs, ⟨rk, rkey, rx, rid⟩⟩ pt))
    have HLf : Hid ((sayG { signG g with log := prepareG (signG g).log g.id slot ⟨rc, rs, ⟨rk, rkey, rx, rid⟩⟩ g.id pt } (msgPrepare g slot ⟨rc, rs, ⟨rk, rkey, rx, rid⟩⟩ pt)).left = g.left - 1) := Go.Lib.hid (by show (signG g).left = _; rw [HE.out])
    have HMq : msgPrepare { signG g with log := prepareG (signG g).log g.id slot ⟨rc, rs, ⟨rk, rkey, rx, rid⟩⟩ g.id pt } slot ⟨rc, rs, ⟨rk, rkey, rx, rid⟩⟩ pt = msgPrepare g slot ⟨rc, rs, ⟨rk, rkey, rx, rid⟩⟩ pt := by unfold msgPrepare; simp only [prepare_view]; rw [HE.out]
    have HGs := Go.Lib.hid (HGo.out HSg.out)
    rw [HMq] at HD HGs
    clear HMq
    go_wp2_with fail
    refine (HGs.out _ b col7 A7 N7.out.r HTk.out HS.out).mono ?_
    rintro e w8 ⟨rfl, p, i8, l8⟩
    obtain ⟨col8, A8, N8, -, -, -⟩ := N7.out.step p
    rw [HLf.out] at l8
    have HF := Go.Lib.hid (And.intro N8 (And.intro i8 l8))
    clear p N8 i8 l8
    go_wp2
    go_returns
    refine ⟨rfl, ?_, ?_, ?_⟩
    · rw [HD.out]; exact HF.out.1.post
    · rw [HD.out]; exact HF.out.2.1
    · rw [HD.out]; have := HF.out.2.2; omega
end
end Go.Proofs.YtflpkoafebjfdaaGreat

/- Contracts of layer 18 (replica): goOn. -/
namespace Go.Proofs.YtflpkoafebjfdaaGreat
open Go.RowKit Go.Lib F64
set_option linter.unusedSimpArgs false
set_option linter.unusedVariables false
attribute [local go_sem] run_store_float
attribute [local go_sem low] EW.cellN EW.frozN alloc_cell_or alloc_froz_or
attribute [local go_sem] relAt relUpon
theorem MsW.commit {w : World} {g : Rp} {slot : Int} {q : Req} (hv : I64 g.log.view) (hs : I64 slot) (hq : ReqOk q) : MsW w nullA (msgCommit g slot q) where
  n := Ints.nil' w
  s := Sigs.nil' w
  c := Chs.nil' w
  l := Lks.nil' w
  ok := ⟨by show I64 4; unfold I64; omega, by show I64 0; unfold I64; omega, hv, hs, hq, by show I64 0; unfold I64; omega, by show 0 < _; decide, by show ByteArray.empty.size ≤ _; decide⟩
section
variable {b : Nat} {col : Nat → Nat} {A : RA} {g : Rp}
end
end Go.Proofs.YtflpkoafebjfdaaGreat

/- Contracts of layer 18 (replica): onCommit, answer. -/
namespace Go.Proofs.YtflpkoafebjfdaaGreat
open Go.RowKit Go.Lib F64
set_option linter.unusedSimpArgs false
set_option linter.unusedVariables false
attribute [local go_sem] run_store_float
attribute [local go_sem low] EW.cellN EW.frozN alloc_cell_or alloc_froz_or
attribute [local go_sem] relAt relUpon
/-- A message's cells: the request among them. -/
theorem cells_at (m : Ms) (M : MA) : ∀ (j : Nat) (v : Value), ([.int .i64 m.kind, .int .i64 m.ep, .int .i64 m.view, .int .i64 m.slot, .int .i64 m.req.client, .int .i64 m.req.stamp, .int .i64 m.req.op.kind, .string m.req.op.key, .float .f64 m.req.op.real, .int .i64 m.req.op.id] : List Value)[j]? = some v → (m.cells M)[j]? = some v := by
  intro j v h
  have hj : j < 10 := (List.getElem?_eq_some_iff.1 h).1
  have e := List.getElem?_append_left (l₁ := ([.int .i64 m.kind, .int .i64 m.ep, .int .i64 m.view, .int .i64 m.slot, .int .i64 m.req.client, .int .i64 m.req.stamp, .int .i64 m.req.op.kind, .string m.req.op.key, .float .f64 m.req.op.real, .int .i64 m.req.op.id] : List Value)) (l₂ := ([.int .i64 m.res.code, .float .f64 m.res.real, .string m.text, .slice M.na m.next.length M.nc, .slice M.sa m.sigs.length M.sc, .slice M.ca m.chs.length M.cc, .slice M.la m.lks.length M.lc] : List Value)) hj
  exact Eq.trans e h
section
variable {b : Nat} {col : Nat → Nat} {A : RA} {g : Rp}
end
end Go.Proofs.YtflpkoafebjfdaaGreat
