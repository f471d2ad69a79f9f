/- Joined texts: RepN, Council4, Rep1. What each proves stands at its head; no conditions beside those in its theorems. -/
import Derived.Laws.CopyOwn
import Derived.Deep.OwnRows
import Derived.Deep.RegionLaw
import Derived.Test.YtflpkoafebjfdaaGreatProg
import Derived.Shelf.SlIter.Nil
import Derived.Shelf.SortM.Plain
import Derived.Shelf.SortM.SortNone
import Derived.Ground.GgzProg
import Derived.Ground.SlgmProg
import Derived.Test.YtflpkoafebjfdaaGreatPjBF
/- Layer 18: a replica on its way through a call; a caller's own blocks. -/
namespace Go.Proofs.YtflpkoafebjfdaaGreat
open Go.RowKit Go.Lib F64
set_option linter.unusedSimpArgs false
set_option linter.unusedVariables false

/-- Where a call stands: the replica now, and what became of it since the call began. -/
structure Nw (w0 : World) (b : Nat) (col0 : Nat → Nat) (A0 : RA) (g0 : Rp) (w : World) (col : Nat → Nat) (A : RA) (g : Rp) : Prop where
  r : RepW w b col A g
  c : ColX w0 col0 col
  t : (g.begun = g0.begun ∧ A.bt = A0.bt) ∨ (g0.begun < g.begun ∧ w0.heap.size ≤ A.bt)
  x : Ext (Colo col0) w0 w
  k : TermK col0 w0 w
theorem Nw.start {w : World} {b : Nat} {col : Nat → Nat} {A : RA} {g : Rp} (h : RepW w b col A g) : Nw w b col A g w col A g := ⟨h, ColX.refl _ _, .inl ⟨rfl, rfl⟩, Ext.refl _ _, .refl _ _⟩
section
variable {w0 w w' : World} {b : Nat} {col0 col : Nat → Nat} {A0 A : RA} {g0 g g' : Rp}
theorem Nw.extN (h : Nw w0 b col0 A0 g0 w col A g) (x : Ext Non w w') : Nw w0 b col0 A0 g0 w' col A g :=
  ⟨h.r.extN x, h.c, h.t, h.x.ofCol h.c x.ofNon, h.k.trans (.ofN x) h.c⟩
theorem Nw.post (h : Nw w0 b col0 A0 g0 w col A g) : RPost w0 b col0 A0 g0 w g := ⟨⟨col, A, h.r, h.c, h.t⟩, h.x, h.k⟩
theorem Nw.step (h : Nw w0 b col0 A0 g0 w col A g) (p : RPost w b col A g w' g') : ∃ col' A', Nw w0 b col0 A0 g0 w' col' A' g' ∧ ColX w col col' ∧ Ext (Colo col) w w' ∧ ((g'.begun = g.begun ∧ A'.bt = A.bt) ∨ (g.begun < g'.begun ∧ w.heap.size ≤ A'.bt)) := by
  obtain ⟨⟨col2, A2, h2, hc2, hb2⟩, x2, k2⟩ := p
  refine ⟨col2, A2, ⟨h2, h.c.trans hc2 h.x.size, ?_, h.x.ofCol h.c x2, h.k.trans k2 h.c⟩, hc2, x2, hb2⟩
  have := h.x.size
  rcases h.t with ⟨e1, e2⟩ | ⟨e1, e2⟩ <;> rcases hb2 with ⟨f1, f2⟩ | ⟨f1, f2⟩
  · exact .inl ⟨f1.trans e1, f2.trans e2⟩
  · exact .inr ⟨by omega, by omega⟩
  · exact .inr ⟨by omega, by omega⟩
  · exact .inr ⟨by omega, by omega⟩
/-- The same term stands: one step that leaves the term's address. -/
theorem Nw.same (h : Nw w0 b col0 A0 g0 w col A g) {col' : Nat → Nat} {A' : RA} (r : RepW w' b col' A' g') (hb : g'.begun = g.begun) (ht : A'.bt = A.bt) (hc : ColX w col col') (x : Ext (Colo col) w w' ∧ TermK col w w') : Nw w0 b col0 A0 g0 w' col' A' g' := by
  refine ⟨r, h.c.trans hc h.x.size, ?_, h.x.ofCol h.c x.1, h.k.trans x.2 h.c⟩
  rw [hb, ht]; exact h.t
end
/-- A caller's own block: nobody's colour. -/
structure Loc (w : World) (col : Nat → Nat) (k : Nat) (vs : List Value) (t : TypeId) : Prop where
  h : Bx w k vs t
  c : col k = 0
theorem Loc.ext {w w' : World} {col col' : Nat → Nat} {k : Nat} {vs : List Value} {t : TypeId} (h : Loc w col k vs t) (x : Ext (Colo col) w w') (hc : ColX w col col') : Loc w' col' k vs t :=
  ⟨h.h.ext x (fun q => q h.c), (hc k h.h.lt).trans h.c⟩
theorem Loc.extN {w w' : World} {col : Nat → Nat} {k : Nat} {vs : List Value} {t : TypeId} (h : Loc w col k vs t) (x : Ext Non w w') : Loc w' col k vs t := ⟨h.h.extN x, h.c⟩
theorem Loc.of {w0 w : World} {col : Nat → Nat} {k : Nat} {vs : List Value} {t : TypeId} (h : Bx w k vs t) (hk : w0.heap.size ≤ k) (hn : ∀ k, w0.heap.size ≤ k → col k = 0) : Loc w col k vs t := ⟨h, hn k hk⟩
/-- What nobody writes goes on to stand. -/
theorem MsW.step {w w' : World} {col col' : Nat → Nat} {A : MA} {m : Ms} (h : MsW (hide col w) A m) (x : Ext (Colo col) w w') (hc : ColX w col col') : MsW (hide col' w') A m := h.extN (hide_ext x hc)
theorem ints_step {w w' : World} {col col' : Nat → Nat} {a : Option Addr} {c : Nat} {l : List Int} (h : Ints (hide col w) a c l) (x : Ext (Colo col) w w') (hc : ColX w col col') : Ints (hide col' w') a c l := h.extN (hide_ext x hc)
theorem Chs.step {w w' : World} {col col' : Nat → Nat} {a : Option Addr} {c : Nat} {l : List Ch} (h : Chs (hide col w) a c l) (x : Ext (Colo col) w w') (hc : ColX w col col') : Chs (hide col' w') a c l := h.extN (hide_ext x hc)
theorem Certs.step {w w' : World} {col col' : Nat → Nat} {a : Option Addr} {c : Nat} {l : List Ct} (h : Certs (hide col w) a c l) (x : Ext (Colo col) w w') (hc : ColX w col col') : Certs (hide col' w') a c l := h.extN (hide_ext x hc)
theorem Lks.step {w w' : World} {col col' : Nat → Nat} {a : Option Addr} {c : Nat} {l : List Lk} (h : Lks (hide col w) a c l) (x : Ext (Colo col) w w') (hc : ColX w col col') : Lks (hide col' w') a c l := h.extN (hide_ext x hc)
end Go.Proofs.YtflpkoafebjfdaaGreat

/- Contracts of layer 7: Weak, Primary; layer 11: a state's text. -/
namespace Go.Proofs.YtflpkoafebjfdaaGreat
open Go.RowKit Go.Lib F64
set_option linter.unusedSimpArgs false
set_option linter.unusedVariables false
attribute [local go_sem] run_store_float
attribute [local go_sem low] EW.cellN EW.frozN alloc_cell_or alloc_froz_or
theorem prim_at {xs : List Int} {view : Int} (hv : 0 ≤ view) (hl : 0 < xs.length) : 0 ≤ view % (xs.length : Int) ∧ view % (xs.length : Int) < xs.length ∧ (view % (xs.length : Int)).toNat < xs.length := by
  have h1 := Int.emod_nonneg view (b := (xs.length : Int)) (by omega)
  have h2 := Int.emod_lt_of_pos view (b := (xs.length : Int)) (by omega)
  exact ⟨h1, h2, by omega⟩
theorem council_Primary (ep : Int) (a : Option Addr) (cap : Nat) (xs : List Int) (view : Int) (w : World) (h : Ints w a cap xs) : Calls Tryz.prog 269 #[.agg #[.int .i64 ep, .slice a xs.length cap], .int .i64 view] w fun e w' =>
    ∃ b, e = .returned (.tuple #[.int .i64 (primI ep xs view), .bool b]) ∧ Ext Non w w' := by
  have HI := Go.Lib.hid h
  have hsm := h.small; have hle := h.le
  clear h
  cases hc : confB ep xs
  · have HP := Go.Lib.hid (show primI ep xs view = 0 by unfold primI; rw [if_neg (by rw [hc]; simp)])
    have HC := Go.Lib.hid hc; clear hc
    go_enter Tryz.func269, Tryz.ntmps269
    go_wp2_with fail
    refine Calls.ew (council_Right ep a cap xs _ (HI.out.extN (by (repeat (first | with_reducible (first | exact Ext.refl _ _ | assumption | refine Ext.upN ?_ | refine Ext.alloc ?_ _ | refine Ext.drew ?_ | refine Ext.drewN ?_ _ | refine Ext.up1N (by first | omega | simp) ?_) | refine Ext.alloc ?_ _ | refine Ext.setCell ?_ (.inr (by first | omega | simp)) _))))) ?_
    rintro e x1 rfl
    rw [HC.out]
    go_wp2
    go_returns
    exact ⟨_, by rw [HP.out]; rfl, by (repeat (first | with_reducible (first | exact Ext.refl _ _ | assumption | refine Ext.upN ?_ | refine Ext.alloc ?_ _ | refine Ext.drew ?_ | refine Ext.drewN ?_ _ | refine Ext.up1N (by first | omega | simp) ?_) | refine Ext.alloc ?_ _ | refine Ext.setCell ?_ (.inr (by first | omega | simp)) _))⟩
  · have hl := (conf_len10 hc).1
    have HC := Go.Lib.hid hc; clear hc
    by_cases hv : view < 0
    · have HP := Go.Lib.hid (show primI ep xs view = 0 by unfold primI; rw [if_neg (by omega)])
      go_enter Tryz.func269, Tryz.ntmps269
      go_wp2_with fail
      refine Calls.ew (council_Right ep a cap xs _ (HI.out.extN (by (repeat (first | with_reducible (first | exact Ext.refl _ _ | assumption | refine Ext.upN ?_ | refine Ext.alloc ?_ _ | refine Ext.drew ?_ | refine Ext.drewN ?_ _ | refine Ext.up1N (by first | omega | simp) ?_) | refine Ext.alloc ?_ _ | refine Ext.setCell ?_ (.inr (by first | omega | simp)) _))))) ?_
      rintro e x1 rfl
      rw [HC.out]
      go_wp2
      go_returns
      exact ⟨_, by rw [HP.out]; rfl, by (repeat (first | with_reducible (first | exact Ext.refl _ _ | assumption | refine Ext.upN ?_ | refine Ext.alloc ?_ _ | refine Ext.drew ?_ | refine Ext.drewN ?_ _ | refine Ext.up1N (by first | omega | simp) ?_) | refine Ext.alloc ?_ _ | refine Ext.setCell ?_ (.inr (by first | omega | simp)) _))⟩
    · have HP := Go.Lib.hid (show primI ep xs view = xs.getD (view % (xs.length : Int)).toNat 0 by unfold primI; rw [if_pos ⟨HC.out, by omega⟩])
      obtain ⟨p1, p2, p3⟩ := prim_at (xs := xs) (view := view) (by omega) (by omega)
      have htm : Int.tmod view (xs.length : Int) = view % (xs.length : Int) := Int.tmod_eq_emod_of_nonneg (by omega)
      obtain ⟨j, hj⟩ : ∃ j, j = (view % (xs.length : Int)).toNat := ⟨_, rfl⟩
      have hjv : view % (xs.length : Int) = (j : Int) := by omega
      obtain ⟨gb, go, hga, hgc, -⟩ := HI.out.at_ j (by omega)
      subst hga
      rw [← hj] at HP
      have HX := Go.Lib.hid (show xs.getD j 0 = xs[j]'(by omega) by rw [List.getD_eq_getElem?_getD, List.getElem?_eq_getElem (by omega)]; rfl)
      generalize xs[j]'(by omega) = x at *
      have hlen0 : ((xs.length : Int) == 0) = false := by rw [beq_eq_false_iff_ne]; omega
      have hlen1 : ¬ (xs.length : Int) = 0 := by omega
      rw [hjv] at htm p1 p2
      have hjl : j < xs.length := by omega
      clear hj hjv p3
      go_enter Tryz.func269, Tryz.ntmps269
      go_wp2_with fail
      refine Calls.ew (council_Right ep _ cap xs _ (HI.out.extN (by (repeat (first | with_reducible (first | exact Ext.refl _ _ | assumption | refine Ext.upN ?_ | refine Ext.alloc ?_ _ | refine Ext.drew ?_ | refine Ext.drewN ?_ _ | refine Ext.up1N (by first | omega | simp) ?_) | refine Ext.alloc ?_ _ | refine Ext.setCell ?_ (.inr (by first | omega | simp)) _))))) ?_
      rintro e x1 rfl
      rw [HC.out]
      go_wp2_with fail
      go_quiet (fail)
      go_wp2
      go_returns
      exact ⟨_, by rw [HP.out, HX.out]; rfl, by (repeat (first | with_reducible (first | exact Ext.refl _ _ | assumption | refine Ext.upN ?_ | refine Ext.alloc ?_ _ | refine Ext.drew ?_ | refine Ext.drewN ?_ _ | refine Ext.up1N (by first | omega | simp) ?_) | refine Ext.alloc ?_ _ | refine Ext.setCell ?_ (.inr (by first | omega | simp)) _))⟩
end Go.Proofs.YtflpkoafebjfdaaGreat

/- Contracts of layer 18 (replica): member, primary, quorum, first. -/
namespace Go.Proofs.YtflpkoafebjfdaaGreat
open Go.RowKit Go.Lib F64
set_option linter.unusedSimpArgs false
set_option linter.unusedVariables false
attribute [local go_sem] run_store_float
attribute [local go_sem low] EW.cellN EW.frozN alloc_cell_or alloc_froz_or
attribute [local go_sem] relAt relUpon
section
variable {b : Nat} {col : Nat → Nat} {A : RA} {g : Rp}
theorem rep_first (w : World) (h : RepW w b col A g) (hep : 0 ≤ g.log.ep ∧ g.log.ep ≤ 60) : Calls Tryz.prog 91 #[.pointer (some ⟨A.bt, 0, none⟩)] w fun e w' => e = .returned (.int .i64 (firstR g)) ∧ w = w' := by
  have q1 := h.tep id
  have DF : Hid (firstR g = g.log.ep * 4 + 1) := Go.Lib.hid rfl
  clear h
  generalize g.log.ep = ep at *
  have hw1 : IntKind.i64.wrap (ep * 4) = ep * 4 := IntWalk.i64_in _ (by omega)
  have hw2 : IntKind.i64.wrap (ep * 4 + 1) = ep * 4 + 1 := IntWalk.i64_in _ (by omega)
  go_enter Tryz.func91, Tryz.ntmps91
  go_wp2
  go_ret
  exact ⟨ret_int DF.out.symm, rfl⟩
theorem rep_member (w : World) (h : RepW w b col A g) : Calls Tryz.prog 92 #[.pointer (some ⟨b, 0, none⟩)] w fun e w' => e = .returned (.bool (memberR g)) ∧ Ext Non w w' := by
  have q0 := h.t0 id; have q1 := h.tep id; have q2 := h.tmem id; have q3 := h.rid id
  have HC := Go.Lib.hid h.conf.show
  have DM : Hid (memberR g = hasB g.log.mem g.id) := Go.Lib.hid rfl
  clear h
  generalize g.log.ep = ep at *; generalize g.log.mem = mem at *; generalize g.id = gid at *
  go_enter Tryz.func92, Tryz.ntmps92
  go_upto_region 1 with fail
  (refine wp_region_ext_lit (by kernel_rfl) (by kernel_rfl) ?_; (repeat (go_big_quiet_step ((go_at_call 159; exact Calls.ext_of (council_Has ep A.ca A.cc mem gid _ (HC.out.extN (by (repeat (first | with_reducible (first | exact Ext.refl _ _ | assumption | refine Ext.upN ?_ | refine Ext.alloc ?_ _ | refine Ext.drew ?_ | refine Ext.drewN ?_ _ | refine Ext.up1N (by first | omega | simp) ?_) | refine Ext.alloc ?_ _ | refine Ext.setCell ?_ (.inr (by first | omega | simp)) _))))))))); refine wpQuiet_nil ?_; intro _ hw'; obtain ⟨xq, hw''⟩ := hw'; subst hw'')
  go_wp2
  go_ret
  exact ⟨ret_bool DM.out.symm, by (repeat (first | with_reducible (first | exact Ext.refl _ _ | assumption | refine Ext.upN ?_ | refine Ext.alloc ?_ _ | refine Ext.drew ?_ | refine Ext.drewN ?_ _ | refine Ext.up1N (by first | omega | simp) ?_) | refine Ext.alloc ?_ _ | refine Ext.setCell ?_ (.inr (by first | omega | simp)) _))⟩
theorem rep_primary (view : Int) (w : World) (h : RepW w b col A g) : Calls Tryz.prog 196 #[.pointer (some ⟨b, 0, none⟩), .int .i64 view] w fun e w' => e = .returned (.int .i64 (primR g view)) ∧ Ext Non w w' := by
  have q0 := h.t0 id; have q1 := h.tep id; have q2 := h.tmem id
  have HC := Go.Lib.hid h.conf.show
  have DM : Hid (primR g view = primI g.log.ep g.log.mem view) := Go.Lib.hid rfl
  clear h
  generalize g.log.ep = ep at *; generalize g.log.mem = mem at *
  go_enter Tryz.func196, Tryz.ntmps196
  go_wp2_with fail
  refine (council_Primary ep A.ca A.cc mem view _ HC.out).mono ?_
  rintro e w' ⟨bb, rfl, x⟩
  go_wp2
  go_ret
  exact ⟨ret_int DM.out.symm, x⟩
end
end Go.Proofs.YtflpkoafebjfdaaGreat
