/- Joined texts: Lin2, RepM3, RepM4, RepI, RepI2, RepI3. What each proves stands at its head; no conditions beside those in its theorems. -/
import Derived.Laws.CopyOwn
import Derived.Deep.OwnRows
import Derived.Deep.RegionLaw
import Derived.Test.YtflpkoafebjfdaaGreatProg
import Derived.Shelf.SlIter.Nil
import Derived.Shelf.SortM.Plain
import Derived.Shelf.SortM.SortNone
import Derived.Ground.GgzProg
import Derived.Ground.SlgmProg
import Derived.Test.YtflpkoafebjfdaaGreatPjBA
import Derived.Test.YtflpkoafebjfdaaGreatPjBB
import Derived.Test.YtflpkoafebjfdaaGreatPjBG
/- Contracts of layer 10 (lineage): own copies, New. -/
namespace Go.Proofs.YtflpkoafebjfdaaGreat
open Go.RowKit Go.Lib F64
set_option linter.unusedSimpArgs false
set_option linter.unusedVariables false
attribute [local go_sem] run_store_float
attribute [local go_sem low] EW.cellN EW.frozN alloc_cell_or alloc_froz_or EW.cellF EW.frozF EW.cell1 EW.froz1
attribute [local go_sem] relAt relUpon
theorem fresh.lowX {S : Nat → Prop} {n m : Nat} {w w' : World} {a : Option Addr} (h : fresh n w a) (x : Ext S w w') (hs : ∀ k, n ≤ k → ¬ S k) (hm : m ≤ n) : fresh m w' a := fun k o e => by
  obtain ⟨h1, vs, fr, h2⟩ := h k o e
  exact ⟨by omega, vs, fr, (x.block k (Array.getElem?_eq_some_iff.1 h2).1 (hs k h1)).trans h2⟩
theorem fresh.low3 {n m : Nat} {w : World} {a : Option Addr} (h : fresh n w a) (hm : m ≤ n) : fresh m w a := fun k o e => ⟨Nat.le_trans hm (h k o e).1, (h k o e).2⟩
set_option maxHeartbeats 4000000 in
set_option maxRecDepth 100000 in
theorem lin_own (ep : Int) (a : Option Addr) (cap : Nat) (xs : List Int) (hb : xs.length * 8 ≤ 140737488355328) (w : World) (h : Ints w a cap xs) : Calls Tryz.prog 86 #[.agg #[.int .i64 ep, .slice a xs.length cap]] w fun e w' =>
    ∃ a' c', e = .returned (.agg #[.int .i64 ep, .slice a' xs.length c']) ∧ Ext Non w w' ∧ Ints w' a' c' xs ∧ fresh w.heap.size w' a' := by
  have HI := Go.Lib.hid h
  have HB := Go.Lib.hid hb
  clear h hb
  go_enter Tryz.func86, Tryz.ntmps86
  go_upto_region 1 with fail
  apply wp_region_rel_tail 6 (relR [Mo.is _, Mo.is _, Mo.is _, Mo.is _, moS (w.heap.size + 2) xs (fun s => s), moS (w.heap.size + 2) xs (fun s => .agg #[.int .i64 ep, s])]) (by kernel_rfl) (by kernel_rfl) (by kernel_rfl) (by kernel_rfl) (by kernel_rfl) (by decide) (by kernel_rfl) (relR_mono _) (StepD.all ?st3) ?q3
  case st3 =>
    refine ⟨?_, ?_, ?_, ?_, ?_, ?_, trivial⟩
    · intro a' w' hx hs hd
      obtain ⟨y, rfl⟩ := hx.ew
      have e1 : a'.tmps[1]?.getD undef = _ := hs 1 rfl
      simp only [List.getElem?_toArray, List.getElem?_cons_succ, List.getElem?_cons_zero, Option.getD_some, Array.getElem?_eq_some_iff] at e1
      refine .inl ⟨rfl, ?_⟩
      clear hs hd hx
      go_simp
      exact ⟨Ext.refl _ _, rfl⟩
    · intro a' w' hx hs hd
      obtain ⟨y, rfl⟩ := hx.ew
      have e3 : a'.tmps[3]?.getD undef = _ := hd 0 3 rfl rfl
      refine .inl ⟨rfl, ?_⟩
      clear hs hd hx
      go_simp
      exact ⟨Ext.refl _ _, rfl⟩
    · intro a' w' hx hs hd
      obtain ⟨y, rfl⟩ := hx.ew
      have e1 : a'.tmps[1]?.getD undef = _ := hs 1 rfl
      simp only [List.getElem?_toArray, List.getElem?_cons_succ, List.getElem?_cons_zero, Option.getD_some, Array.getElem?_eq_some_iff] at e1
      refine .inl ⟨rfl, ?_⟩
      clear hs hd hx
      go_simp
      exact ⟨Ext.refl _ _, rfl⟩
    · intro a' w' hx hs hd
      obtain ⟨y, rfl⟩ := hx.ew
      have e5 : a'.tmps[5]?.getD undef = _ := hd 2 5 rfl rfl
      refine .inl ⟨rfl, ?_⟩
      clear hs hd hx
      go_simp
      exact ⟨Ext.refl _ _, rfl⟩
    · intro a' w' hx hs hd
      obtain ⟨y, rfl⟩ := hx.ew
      have e6 : a'.tmps[6]?.getD undef = _ := hd 3 6 rfl rfl
      refine .inl ⟨rfl, ?_⟩
      clear hs hd hx
      go_simp
      exact (slices_Clone a cap xs HB.out _ (HI.out.extN (by (repeat (first | with_reducible (first | exact Ext.refl _ _ | assumption | refine Ext.upN ?_ | refine Ext.alloc ?_ _ | refine Ext.drew ?_ | refine Ext.drewN ?_ _ | refine Ext.up1N (by first | omega | simp) ?_) | refine Ext.alloc ?_ _ | refine Ext.setCell ?_ (.inr (by first | omega | simp)) _))))).mono (fun e w'' ⟨a', c', he, hx, hI, hf⟩ => ⟨_, he, hx, a', c', rfl, hI, fun k o q => ⟨Nat.le_trans (by have := y.ext.size; simp at this; omega) (hf k o q).1, (hf k o q).2⟩⟩)
    · intro a' w' hx hs hd
      obtain ⟨y, rfl⟩ := hx.ew
      have e4 : a'.tmps[4]?.getD undef = _ := hd 1 4 rfl rfl
      obtain ⟨sa, sc, e7, hI, hf⟩ : ∃ sa sc, a'.tmps[7]?.getD undef = .slice sa xs.length sc ∧ Ints y.on sa sc xs ∧ fresh (w.heap.size + 2) y.on sa := hd 4 7 rfl rfl
      refine .inl ⟨rfl, ?_⟩
      clear hs hd hx
      go_simp
      exact ⟨Ext.refl _ _, sa, sc, rfl, hI, hf⟩
  case' q3 =>
    intro vs w' hx hRR
    obtain ⟨x2, rfl⟩ := hx.ew
    have q0 : vs 0 = _ := hRR 0 (by decide)
    have q1 : vs 1 = _ := hRR 1 (by decide)
    have q2 : vs 2 = _ := hRR 2 (by decide)
    have q3 : vs 3 = _ := hRR 3 (by decide)
    obtain ⟨sa, sc, q4, hI, hf⟩ : ∃ sa sc, vs 4 = .slice sa xs.length sc ∧ Ints x2.on sa sc xs ∧ fresh (w.heap.size + 2) x2.on sa := hRR 4 (by decide)
    obtain ⟨sa, sc, q5, hI, hf⟩ : ∃ sa sc, vs 5 = .agg #[.int .i64 ep, .slice sa xs.length sc] ∧ Ints x2.on sa sc xs ∧ fresh (w.heap.size + 2) x2.on sa := hRR 5 (by decide)
    clear hRR hx
    simp only [putAll, List.take_succ_cons, List.take_zero, List.drop_succ_cons, List.drop_zero, Act.put, List.setIfInBounds_toArray, List.set_cons_zero, List.set_cons_succ, Nat.reduceAdd, Nat.zero_add]
    simp only [q0, q1, q2, q3, q4, q5]
    clear q0 q1 q2 q3 q4 q5 vs
  have HS := Go.Lib.hid hI; have HF := Go.Lib.hid hf
  clear hI hf
  go_wp2_with fail
  go_returns
  have XS : ∀ v v', Ext (fun k => k = w.heap.size + 1) x2.on ((x2.on.setCell ⟨w.heap.size + 1, 0, none⟩ v).setCell ⟨w.heap.size + 1, 1, none⟩ v') := fun v v' => by
    refine Ext.setCell (Ext.setCell (Ext.refl _ _) (.inl ?_) _) (.inl ?_) _ <;> rfl
  exact ⟨sa, sc, rfl, by (repeat (first | with_reducible (first | exact Ext.refl _ _ | assumption | refine Ext.upN ?_ | refine Ext.alloc ?_ _ | refine Ext.drew ?_ | refine Ext.drewN ?_ _ | refine Ext.up1N (by first | omega | simp) ?_) | refine Ext.alloc ?_ _ | refine Ext.setCell ?_ (.inr (by first | omega | simp)) _)), HS.out.ext (XS _ _) (fun k o e s => by have := (HF.out k o e).1; omega), HF.out.lowX (XS _ _) (fun k hk e => by omega) (by omega)⟩
/-- A new tracker's blocks. -/
structure NewTk (n : Nat) (w : World) (b b1 : Nat) (sa : Option Addr) (sc : Nat) (xs : List Int) : Prop where
  h : Bx w b [.slice (some ⟨b1, 0, none⟩) 1 1, .slice none 0 0] 165
  h1 : Bx w b1 [.int .i64 0, .slice sa xs.length sc] 24
  ints : Ints w sa sc xs
  fr : fresh n w sa
  lb : n ≤ b
  l1 : n ≤ b1
set_option maxHeartbeats 4000000 in
set_option maxRecDepth 100000 in
theorem lin_New (a : Option Addr) (cap : Nat) (xs : List Int) (hc : confB 0 xs = true) (w : World) (h : Ints w a cap xs) : Calls Tryz.prog 41 #[.agg #[.int .i64 0, .slice a xs.length cap]] w fun e w' =>
    ∃ b b1 sa sc, e = .returned (.tuple #[.pointer (some ⟨b, 0, none⟩), .int .i64 0]) ∧ Ext Non w w' ∧ NewTk w.heap.size w' b b1 sa sc xs := by
  have HI := Go.Lib.hid h
  have HC := Go.Lib.hid hc
  have hl := (conf_len10 hc).2
  clear h
  go_enter Tryz.func41, Tryz.ntmps41
  go_wp2_with fail
  refine Calls.ew (council_Right 0 a cap xs _ (HI.out.extN (by (repeat (first | with_reducible (first | exact Ext.refl _ _ | assumption | refine Ext.upN ?_ | refine Ext.alloc ?_ _ | refine Ext.drew ?_ | refine Ext.drewN ?_ _ | refine Ext.up1N (by first | omega | simp) ?_) | refine Ext.alloc ?_ _ | refine Ext.setCell ?_ (.inr (by first | omega | simp)) _))))) ?_
  rintro e x1 rfl
  rw [hc]
  clear hc
  go_wp2_with fail
  refine Calls.mono (lin_own 0 a cap xs (by omega) _ (HI.out.extN (by (repeat (first | with_reducible (first | exact Ext.refl _ _ | assumption | refine Ext.upN ?_ | refine Ext.alloc ?_ _ | refine Ext.drew ?_ | refine Ext.drewN ?_ _ | refine Ext.up1N (by first | omega | simp) ?_) | refine Ext.alloc ?_ _ | refine Ext.setCell ?_ (.inr (by first | omega | simp)) _))))) ?_
  rintro e w2 ⟨sa, sc, rfl, x, hI, hf⟩
  obtain ⟨x2, rfl⟩ := x.ew
  have hs := x1.ext.size
  simp at hs
  have HS := Go.Lib.hid hI; have HF := Go.Lib.hid (hf.low3 (m := w.heap.size) (by omega))
  clear hI hf hs
  go_wp2
  go_returns
  have hn := (Ext.size (by (repeat (first | with_reducible (first | exact Ext.refl _ _ | assumption | refine Ext.upN ?_ | refine Ext.alloc ?_ _ | refine Ext.drew ?_ | refine Ext.drewN ?_ _ | refine Ext.up1N (by first | omega | simp) ?_) | refine Ext.alloc ?_ _ | refine Ext.setCell ?_ (.inr (by first | omega | simp)) _)) : Ext Non w x2.on))
  exact ⟨x2.on.heap.size + 1, x2.on.heap.size, sa, sc, rfl, by (repeat (first | with_reducible (first | exact Ext.refl _ _ | assumption | refine Ext.upN ?_ | refine Ext.alloc ?_ _ | refine Ext.drew ?_ | refine Ext.drewN ?_ _ | refine Ext.up1N (by first | omega | simp) ?_) | refine Ext.alloc ?_ _ | refine Ext.setCell ?_ (.inr (by first | omega | simp)) _)), ⟨Bx.newAt _ [.slice (some ⟨x2.on.heap.size, 0, none⟩) 1 1, .slice none 0 0] _ _ (by simp), (Bx.new x2.on [.int .i64 0, .slice sa xs.length sc] _).alloc _, HS.out.extN (by (repeat (first | with_reducible (first | exact Ext.refl _ _ | assumption | refine Ext.upN ?_ | refine Ext.alloc ?_ _ | refine Ext.drew ?_ | refine Ext.drewN ?_ _ | refine Ext.up1N (by first | omega | simp) ?_) | refine Ext.alloc ?_ _ | refine Ext.setCell ?_ (.inr (by first | omega | simp)) _))), HF.out.extN (by (repeat (first | with_reducible (first | exact Ext.refl _ _ | assumption | refine Ext.upN ?_ | refine Ext.alloc ?_ _ | refine Ext.drew ?_ | refine Ext.drewN ?_ _ | refine Ext.up1N (by first | omega | simp) ?_) | refine Ext.alloc ?_ _ | refine Ext.setCell ?_ (.inr (by first | omega | simp)) _))), by omega, hn⟩⟩
end Go.Proofs.YtflpkoafebjfdaaGreat

/- Layer 18: a replica's rows grow: what it answers, says, did. -/
namespace Go.Proofs.YtflpkoafebjfdaaGreat
open Go.RowKit Go.Lib F64
set_option linter.unusedSimpArgs false
set_option linter.unusedVariables false

theorem EnR.up : ∀ x v, EnR x v → EnR x v := fun _ _ h => h
theorem rowRp_len (A : RA) (g : Rp) : (rowRp A g).length = 88 := by unfold rowRp; rw [List.length_append, List.length_append, wtRow_len]; rfl
theorem rowRp_set (A : RA) (g : Rp) (i : Nat) (v : Value) : (rowRp A g).set (77 + i) v = rowA A g ++ (wtRow g.waits ++ (rowB A g).set i v) := by
  unfold rowRp
  rw [List.set_append_right _ _ (by show 5 ≤ 77 + i; omega), show 77 + i - (rowA A g).length = 72 + i by show 77 + i - 5 = 72 + i; omega, List.set_append_right _ _ (by rw [wtRow_len]; omega), wtRow_len, show 72 + i - 72 = i by omega]
/-- A packet more is answered. -/
theorem RepX.sent {ex : Nat → Prop} {w w1 w2 : World} {b : Nat} {col : Nat → Nat} {A : RA} {g : Rp} (h : RepX ex w b col A g) (n1 : ¬ ex 1) (nr : ¬ ex 11) {u : Value} {xr news : List Value} {x : Pk}
    (X : Ext Non w w1) (y : Ext (Row A.ov) w1 w2) (ho : w2.ownsRow 0 54 19 u (g.out.length + 1) (xr ++ news)) (hx : RowsR (PkR (hide col w)) g.out xr) (hr : ∀ k, Row u k → Row A.ov k ∨ w1.heap.size ≤ k) (hn : (PkR (hide col w)) x news) :
    ∃ col', RepX ex (w2.setCell ⟨b, 86, none⟩ u) b col' { A with ov := u } { g with out := g.out ++ [x] } ∧ ColX w col col' ∧ Ext (Colo col) w (w2.setCell ⟨b, 86, none⟩ u) ∧ TermK col w (w2.setCell ⟨b, 86, none⟩ u) := by
  have hrow := h.out nr
  have hc : ColX w col (colN w col 11 (Row u)) := colN_x _ _ _ _
  have hB := h.row n1
  have hbr : ¬ Row A.ov b := fun q => by have := hrow.c b q; rw [h.c1] at this; cases this
  have XS : Ext (fun k => Row A.ov k ∨ k = b) w (w2.setCell ⟨b, 86, none⟩ u) := ((X.mono (fun _ _ q => q.elim)).step y (fun k _ q => .inl q)).setCell (.inl (.inr rfl)) _
  have XT : Ext (Colo col) w (w2.setCell ⟨b, 86, none⟩ u) := XS.mono (fun k hk q => by
    unfold Colo
    rcases q with q | q
    · rw [hrow.c k q]; decide
    · rw [q, h.c1]; decide)
  have f := h.frame (ex' := fun i => (ex i ∨ i = 1) ∨ i = 11) (col' := colN w col 11 (Row u)) (fun _ e => .inl (.inl e)) XS (fun k hk s => by
    rcases s with s | s
    · rw [hrow.c k s]; exact ⟨by decide, .inr rfl⟩
    · rw [s, h.c1]; exact ⟨by decide, .inl (.inr rfl)⟩) hc (fun k hk => colN_no (Nat.le_trans XS.size hk) (fun s => by
    have h1 := (own_row ho k s).2
    have h2 : (w2.setCell ⟨b, 86, none⟩ u).heap.size = w2.heap.size := by simp [World.setCell]
    omega))
  have xh := hide_ext XT hc
  have hB2 := (hB.extN X).ext y hbr
  have hub : ¬ Row u b := fun q => by
    rcases hr b q with q | q
    · exact hbr q
    · have := X.size; have := h.b1; omega
  have XB : Ext (One b) w2 (w2.setCell ⟨b, 86, none⟩ u) := (Ext.refl (One b) _).set1 _
  have B := hB2.set (j := 86) u
  rw [show (86 : Nat) = 77 + 9 from rfl, rowRp_set] at B
  have no : ∀ {i}, ¬ ex i → i ≠ 1 → i ≠ 11 → ¬ ((ex i ∨ i = 1) ∨ i = 11) := fun n e1 e2 e => e.elim (fun e => e.elim n e1) e2
  refine ⟨colN w col 11 (Row u), ⟨fun _ => B, fun n => f.trm (no n (by decide) (by decide)), fun n => f.log (no n (by decide) (by decide)), fun n => f.tal (no n (by decide) (by decide)), fun n => f.chs (no n (by decide) (by decide)), fun n => f.book (no n (by decide) (by decide)), fun n => f.chn (no n (by decide) (by decide)), fun n => f.tmr (no n (by decide) (by decide)), fun n => f.says (no n (by decide) (by decide)), fun n => f.hist (no n (by decide) (by decide)), ?_, f.ss, f.sm, f.sl, f.conf, f.c1, f.b1, f.c2, f.b2, f.c8, f.b8, f.new⟩, hc, XT, .of XS (fun i s => by rcases s with s | s; rw [hrow.c i s]; decide; rw [s, h.c1]; decide)⟩
  refine fun _ => ⟨⟨xr ++ news, by rw [List.length_append]; exact ownR_ext ho XB (fun k hk s => by have s : k = b := s; subst s; exact hub hk), RowsR.snoc ((PkR.up xh) _ _ hn) (hx.mono ((PkR.up xh)))⟩, fun k hk => ?_⟩
  rcases hr k hk with q | q
  · rw [hc k (hrow.lt k q)]; exact hrow.c k q
  · exact colN_new (Nat.le_trans X.size q) hk
/-- A message more is said. -/
theorem RepX.said {ex : Nat → Prop} {w w1 w2 : World} {b : Nat} {col : Nat → Nat} {A : RA} {g : Rp} (h : RepX ex w b col A g) (n1 : ¬ ex 1) (nr : ¬ ex 9) {u : Value} {xr news : List Value} {x : Ms}
    (X : Ext Non w w1) (y : Ext (Row A.sv) w1 w2) (ho : w2.ownsRow 0 43 17 u (g.says.length + 1) (xr ++ news)) (hx : RowsR (MsR (hide col w)) g.says xr) (hr : ∀ k, Row u k → Row A.sv k ∨ w1.heap.size ≤ k) (hn : (MsR (hide col w)) x news) :
    ∃ col', RepX ex (w2.setCell ⟨b, 77, none⟩ u) b col' { A with sv := u } { g with says := g.says ++ [x] } ∧ ColX w col col' ∧ Ext (Colo col) w (w2.setCell ⟨b, 77, none⟩ u) ∧ TermK col w (w2.setCell ⟨b, 77, none⟩ u) := by
  have hrow := h.says nr
  have hc : ColX w col (colN w col 9 (Row u)) := colN_x _ _ _ _
  have hB := h.row n1
  have hbr : ¬ Row A.sv b := fun q => by have := hrow.c b q; rw [h.c1] at this; cases this
  have XS : Ext (fun k => Row A.sv k ∨ k = b) w (w2.setCell ⟨b, 77, none⟩ u) := ((X.mono (fun _ _ q => q.elim)).step y (fun k _ q => .inl q)).setCell (.inl (.inr rfl)) _
  have XT : Ext (Colo col) w (w2.setCell ⟨b, 77, none⟩ u) := XS.mono (fun k hk q => by
    unfold Colo
    rcases q with q | q
    · rw [hrow.c k q]; decide
    · rw [q, h.c1]; decide)
  have f := h.frame (ex' := fun i => (ex i ∨ i = 1) ∨ i = 9) (col' := colN w col 9 (Row u)) (fun _ e => .inl (.inl e)) XS (fun k hk s => by
    rcases s with s | s
    · rw [hrow.c k s]; exact ⟨by decide, .inr rfl⟩
    · rw [s, h.c1]; exact ⟨by decide, .inl (.inr rfl)⟩) hc (fun k hk => colN_no (Nat.le_trans XS.size hk) (fun s => by
    have h1 := (own_row ho k s).2
    have h2 : (w2.setCell ⟨b, 77, none⟩ u).heap.size = w2.heap.size := by simp [World.setCell]
    omega))
  have xh := hide_ext XT hc
  have hB2 := (hB.extN X).ext y hbr
  have hub : ¬ Row u b := fun q => by
    rcases hr b q with q | q
    · exact hbr q
    · have := X.size; have := h.b1; omega
  have XB : Ext (One b) w2 (w2.setCell ⟨b, 77, none⟩ u) := (Ext.refl (One b) _).set1 _
  have B := hB2.set (j := 77) u
  rw [show (77 : Nat) = 77 + 0 from rfl, rowRp_set] at B
  have no : ∀ {i}, ¬ ex i → i ≠ 1 → i ≠ 9 → ¬ ((ex i ∨ i = 1) ∨ i = 9) := fun n e1 e2 e => e.elim (fun e => e.elim n e1) e2
  refine ⟨colN w col 9 (Row u), ⟨fun _ => B, fun n => f.trm (no n (by decide) (by decide)), fun n => f.log (no n (by decide) (by decide)), fun n => f.tal (no n (by decide) (by decide)), fun n => f.chs (no n (by decide) (by decide)), fun n => f.book (no n (by decide) (by decide)), fun n => f.chn (no n (by decide) (by decide)), fun n => f.tmr (no n (by decide) (by decide)), ?_, fun n => f.hist (no n (by decide) (by decide)), fun n => f.out (no n (by decide) (by decide)), f.ss, f.sm, f.sl, f.conf, f.c1, f.b1, f.c2, f.b2, f.c8, f.b8, f.new⟩, hc, XT, .of XS (fun i s => by rcases s with s | s; rw [hrow.c i s]; decide; rw [s, h.c1]; decide)⟩
  refine fun _ => OwnC.z ⟨⟨xr ++ news, by rw [List.length_append]; exact ownR_ext ho XB (fun k hk s => by have s : k = b := s; subst s; exact hub hk), RowsR.snoc ((MsR.up xh) _ _ hn) (hx.mono ((MsR.up xh)))⟩, fun k hk => ?_⟩
  rcases hr k hk with q | q
  · rw [hc k (hrow.lt k q)]; exact hrow.c k q
  · exact colN_new (Nat.le_trans X.size q) hk
end Go.Proofs.YtflpkoafebjfdaaGreat

/- Layer 18: a replica's ledger is written; what waits is written. -/
namespace Go.Proofs.YtflpkoafebjfdaaGreat
open Go.RowKit Go.Lib F64
set_option linter.unusedSimpArgs false
set_option linter.unusedVariables false

theorem RepX.setWt {ex : Nat → Prop} {w w' : World} {b : Nat} {col : Nat → Nat} {A : RA} {g : Rp} (h : RepX ex w b col A g) (n1 : ¬ ex 1) (c : Nat) (hc : c < 9) (v : Vt) (x : Ext (One b) w w') (hB : Bx w' b ((rowRp A g).take (5 + c * 8) ++ (wtCells v ++ (rowRp A g).drop (5 + c * 8 + 8))) 108) : RepX ex w' b col A (putWait g c v) ∧ Ext (Colo col) w w' ∧ TermK col w w' := by
  have hcb : ∀ k, One b k → col k = 1 := fun k s => by have s : k = b := s; rw [s]; exact h.c1
  have f := h.frame (ex' := fun i => ex i ∨ i = 1) (fun _ e => .inl e) x (fun k hk s => by rw [hcb k s]; exact ⟨by decide, .inr rfl⟩) (ColX.refl _ _) (fun k hk => h.new k (Nat.le_trans x.size hk))
  have no : ∀ {i}, ¬ ex i → i ≠ 1 → ¬ (ex i ∨ i = 1) := fun n ne e => e.elim n ne
  have hr : (rowRp A g).take (5 + c * 8) ++ (wtCells v ++ (rowRp A g).drop (5 + c * 8 + 8)) = rowRp A (putWait g c v) := by
    have h9 : c = 0 ∨ c = 1 ∨ c = 2 ∨ c = 3 ∨ c = 4 ∨ c = 5 ∨ c = 6 ∨ c = 7 ∨ c = 8 := by omega
    rcases h9 with rfl | rfl | rfl | rfl | rfl | rfl | rfl | rfl | rfl <;> rfl
  rw [hr] at hB
  exact ⟨⟨fun _ => hB, fun n => f.trm (no n (by decide)), fun n => f.log (no n (by decide)), fun n => f.tal (no n (by decide)), fun n => f.chs (no n (by decide)), fun n => f.book (no n (by decide)), fun n => f.chn (no n (by decide)), fun n => f.tmr (no n (by decide)),
    fun n => f.says (no n (by decide)), fun n => f.hist (no n (by decide)), fun n => f.out (no n (by decide)), f.ss, f.sm, f.sl, f.conf, f.c1, f.b1, f.c2, f.b2, f.c8, f.b8, f.new⟩, x.mono (fun k hk s => by show col k ≠ 0; rw [hcb k s]; decide), .of x (fun k s => by rw [hcb k s]; decide)⟩
end Go.Proofs.YtflpkoafebjfdaaGreat

/- Layer 18: what holds of a replica at all times. No program in sight. -/
namespace Go.Proofs.YtflpkoafebjfdaaGreat
open F64
set_option linter.unusedVariables false
set_option linter.unusedSimpArgs false

/-- Votes: of members, one of each. -/
structure KeysI (mem : List Int) (l : List (Int × Vt)) : Prop where
  nd : (l.map (·.1)).Nodup
  mem : ∀ p ∈ l, hasB mem p.1 = true
theorem nodup_len : ∀ (l m : List Int), l.Nodup → (∀ x ∈ l, x ∈ m) → l.length ≤ m.length
  | [], _, _, _ => Nat.zero_le _
  | x :: t, m, nd, h => by
    have nd' := List.nodup_cons.1 nd
    have hx := h x (.head _)
    have := nodup_len t (m.erase x) nd'.2 (fun y hy => (List.mem_erase_of_ne (fun e => nd'.1 (by rw [← e]; exact hy))).2 (h y (.tail _ hy)))
    rw [List.length_erase_of_mem hx] at this
    have := List.length_pos_of_mem hx
    simp; omega
theorem KeysI.len {mem : List Int} {l : List (Int × Vt)} (h : KeysI mem l) : l.length ≤ mem.length := by
  have := nodup_len (l.map (·.1)) mem h.nd (fun x hx => by
    obtain ⟨p, hp, rfl⟩ := List.mem_map.1 hx
    exact (hasB_iff mem _).1 (h.mem p hp))
  simpa using this
theorem KeysI.set {mem : List Int} {l : List (Int × Vt)} (h : KeysI mem l) {id : Int} (hi : hasB mem id = true) (hn : hasG l id = false) (v : Vt) : KeysI mem (setG l id v) := by
  rw [setG_new v hn]
  have hno : ∀ p ∈ l, p.1 ≠ id := by
    have : getG l id = none := by unfold hasG at hn; cases hg : getG l id; rfl; rw [hg] at hn; cases hn
    exact getG_none.1 this
  refine ⟨?_, fun p hp => ?_⟩
  · rw [List.map_append, List.nodup_append]
    refine ⟨h.nd, by simp, fun a ha b hb => ?_⟩
    obtain ⟨p, hp, rfl⟩ := List.mem_map.1 ha
    have hb : b = id := by simpa using hb
    rw [hb]; exact hno p hp
  · rcases List.mem_append.1 hp with hp | hp
    · exact h.mem p hp
    · have : p = (id, v) := by simpa using hp
      rw [this]; exact hi
/-- A slot. -/
structure SlI (mem : List Int) (s : Sl) : Prop where
  pr : ∀ r, s.prop = some r → askedB r = true
  dn : ∀ r, s.done = some r → askedB r = true
  k1 : KeysI mem s.prep
  k2 : KeysI mem s.com
  ct : ∀ c, s.cert = some c → c.sigs.length ≤ mem.length
theorem KeysI.nil (mem : List Int) : KeysI mem [] := ⟨by simp, fun p hp => (nomatch hp)⟩
theorem SlI.look {mem : List Int} {s : Sl} (h : SlI mem s) (view n : Int) : SlI mem (lookS mem view n s) := by
  unfold lookS
  split
  · refine ⟨h.pr, fun r hr => ?_, h.k1, h.k2, fun c hc => ?_⟩
    · dsimp only at hr
      split at hr
      · split at hr
        · exact h.pr r hr
        · cases hr
      · injection hr with hr; subst hr
        rename_i r' e
        exact h.dn _ e
    · have hl : (agreeO s.prep s.prop mem).length ≤ mem.length := by
        unfold agreeO; split
        · exact Nat.zero_le _
        · exact agreeG_len _ _ _
      dsimp only at hc
      split at hc
      · injection hc with hc; subst hc; exact hl
      · rename_i c' e
        split at hc
        · injection hc with hc; subst hc; exact hl
        · injection hc with hc; subst hc; exact h.ct _ e
  · exact h
structure LogI (g : Lo) : Prop where
  vw : 0 ≤ g.view ∧ g.view ≤ 15
  sl : ∀ i, SlI g.mem (g.sl i)
theorem LogI.put {g : Lo} (h : LogI g) (i : Nat) {s : Sl} (hs : SlI g.mem s) : LogI (putS g i s) :=
  ⟨h.vw, fun j => by
    show SlI g.mem (if j = i then s else g.sl j)
    split
    · exact hs
    · exact h.sl j⟩
theorem propose_facts {g : Lo} {n : Int} {r : Req} (h : proposeE g n r = 0) : askedB r = true ∧ ∃ i, idxN g.ep n = some i ∧ (g.sl i).prop = none := by
  unfold proposeE at h
  split at h
  · rename_i ha
    refine ⟨ha, ?_⟩
    split at h
    · cases h
    · rename_i i hi
      split at h
      · split at h <;> cases h
      · rename_i hp
        exact ⟨i, hi, hp⟩
  · cases h
theorem LogI.propose {g : Lo} (h : LogI g) (n : Int) (r : Req) : LogI (proposeG g n r) := by
  unfold proposeG
  split
  · rename_i he
    obtain ⟨ha, i, hi, hp⟩ := propose_facts he
    rw [hi]
    exact h.put i (SlI.look (s := { g.sl i with prop := some r }) ⟨fun q hq => by injection hq with hq; subst hq; exact ha, (h.sl i).dn, (h.sl i).k1, (h.sl i).k2, (h.sl i).ct⟩ _ _)
  · exact h
theorem prepare_facts {g : Lo} {id n : Int} {r : Req} {by_ : Int} {t : ByteArray} (h : prepareE g id n r by_ t = 0) : askedB r = true ∧ ∃ i, idxN g.ep n = some i ∧ hasB g.mem id = true ∧ by_ = id ∧ t = prepS g.ep g.view n r ∧ hasG (g.sl i).prep id = false := by
  unfold prepareE at h
  split at h
  · rename_i ha
    refine ⟨ha, ?_⟩
    split at h
    · cases h
    · rename_i i hi
      split at h
      · rename_i hb
        split at h
        · rename_i hs
          split at h
          · cases h
          · rename_i hg
            exact ⟨i, hi, hb, hs.1, hs.2, by simpa using hg⟩
        · cases h
      · cases h
  · cases h
theorem LogI.prepare {g : Lo} (h : LogI g) (id n : Int) (r : Req) (by_ : Int) (t : ByteArray) : LogI (prepareG g id n r by_ t) := by
  unfold prepareG
  split
  · rename_i he
    obtain ⟨ha, i, hi, hb, -, -, hg⟩ := prepare_facts he
    rw [hi]
    exact h.put i (SlI.look (s := { g.sl i with prep := setG (g.sl i).prep id ⟨r, by_, t⟩ }) ⟨(h.sl i).pr, (h.sl i).dn, (h.sl i).k1.set hb hg _, (h.sl i).k2, (h.sl i).ct⟩ _ _)
  · exact h
theorem commit_facts {g : Lo} {id n : Int} {r : Req} (h : commitE g id n r = 0) : askedB r = true ∧ ∃ i, idxN g.ep n = some i ∧ hasB g.mem id = true ∧ hasG (g.sl i).com id = false := by
  unfold commitE at h
  split at h
  · rename_i ha
    refine ⟨ha, ?_⟩
    split at h
    · cases h
    · rename_i i hi
      split at h
      · rename_i hb
        split at h
        · cases h
        · rename_i hg
          exact ⟨i, hi, hb, by simpa using hg⟩
      · cases h
  · cases h
theorem LogI.commit {g : Lo} (h : LogI g) (id n : Int) (r : Req) : LogI (commitG g id n r) := by
  unfold commitG
  split
  · rename_i he
    obtain ⟨ha, i, hi, hb, hg⟩ := commit_facts he
    rw [hi]
    exact h.put i (SlI.look (s := { g.sl i with com := setG (g.sl i).com id ⟨r, 0, ByteArray.empty⟩ }) ⟨(h.sl i).pr, (h.sl i).dn, (h.sl i).k1, (h.sl i).k2.set hb hg _, (h.sl i).ct⟩ _ _)
  · exact h
theorem enter_facts {g : Lo} {view : Int} (h : enterE g view = 0) : g.view < view ∧ view ≤ 15 := by
  unfold enterE at h
  split at h
  · cases h
  · omega
theorem LogI.enter {g : Lo} (h : LogI g) (view : Int) : LogI (enterG g view) := by
  unfold enterG
  split
  · rename_i he
    have := enter_facts he
    have := h.vw
    exact ⟨by show 0 ≤ view ∧ view ≤ 15; omega, fun i => ⟨fun r hr => (nomatch hr), (h.sl i).dn, KeysI.nil _, KeysI.nil _, (h.sl i).ct⟩⟩
  · exact h
theorem LogI.new (ep : Int) (mem : List Int) : LogI (newLo ep mem) :=
  ⟨⟨Int.le_refl _, by show (0 : Int) ≤ 15; decide⟩, fun i => ⟨fun r hr => (nomatch hr), fun r hr => (nomatch hr), KeysI.nil _, KeysI.nil _, fun c hc => (nomatch hc)⟩⟩
theorem LogI.sigs {g : Lo} (h : LogI g) (hm : g.mem.length ≤ 10) : SigsB g := fun i _ c hc => by have := (h.sl i).ct c hc; omega
@[simp] theorem propose_ep (g : Lo) (n : Int) (r : Req) : (proposeG g n r).ep = g.ep := by unfold proposeG; (repeat' split) <;> rfl
@[simp] theorem propose_mem (g : Lo) (n : Int) (r : Req) : (proposeG g n r).mem = g.mem := by unfold proposeG; (repeat' split) <;> rfl
@[simp] theorem propose_view (g : Lo) (n : Int) (r : Req) : (proposeG g n r).view = g.view := by unfold proposeG; (repeat' split) <;> rfl
@[simp] theorem prepare_ep (g : Lo) (id n : Int) (r : Req) (b : Int) (t : ByteArray) : (prepareG g id n r b t).ep = g.ep := by unfold prepareG; (repeat' split) <;> rfl
@[simp] theorem prepare_mem (g : Lo) (id n : Int) (r : Req) (b : Int) (t : ByteArray) : (prepareG g id n r b t).mem = g.mem := by unfold prepareG; (repeat' split) <;> rfl
@[simp] theorem prepare_view (g : Lo) (id n : Int) (r : Req) (b : Int) (t : ByteArray) : (prepareG g id n r b t).view = g.view := by unfold prepareG; (repeat' split) <;> rfl
@[simp] theorem commit_ep (g : Lo) (id n : Int) (r : Req) : (commitG g id n r).ep = g.ep := by unfold commitG; (repeat' split) <;> rfl
@[simp] theorem commit_mem (g : Lo) (id n : Int) (r : Req) : (commitG g id n r).mem = g.mem := by unfold commitG; (repeat' split) <;> rfl
@[simp] theorem commit_view (g : Lo) (id n : Int) (r : Req) : (commitG g id n r).view = g.view := by unfold commitG; (repeat' split) <;> rfl
@[simp] theorem enter_ep (g : Lo) (v : Int) : (enterG g v).ep = g.ep := by unfold enterG; split <;> rfl
@[simp] theorem enter_mem (g : Lo) (v : Int) : (enterG g v).mem = g.mem := by unfold enterG; split <;> rfl
end Go.Proofs.YtflpkoafebjfdaaGreat

/- Layer 18: what holds of a replica at all times; each step keeps it. No program in sight. -/
namespace Go.Proofs.YtflpkoafebjfdaaGreat
open F64
set_option linter.unusedVariables false
set_option linter.unusedSimpArgs false

/-- A chain: as many links as epochs, each configuration right. -/
structure TkI (t : Tk) : Prop where
  len : t.confs.length = t.sigs.length + 1
  le : t.confs.length ≤ 61
  ok : ∀ i (h : i < t.confs.length), (t.confs[i]).1 = i ∧ confB (t.confs[i]).1 (t.confs[i]).2 = true
  sg : ∀ s ∈ t.sigs, s.length ≤ 16
/-- How many slots the replica itself committed in this view. -/
def ownB (g : Lo) (id : Int) (i : Nat) : Int := if hasG (g.sl i).com id = true then 1 else 0
def ownN (g : Lo) (id : Int) : Int := ownB g id 0 + ownB g id 1 + ownB g id 2 + ownB g id 3
def actI (g : Rp) : Int := if g.active = true then g.next - firstR g + 1 else 0
def sayM (g : Rp) : Int := 4 * (64 - g.left) + 12 * g.log.view + ownN g.log g.id + actI g
def outM (g : Rp) : Int := 10000 * g.log.ep + 10 * sayM g + 10 * g.book.done
/-- But for what is said and answered. -/
structure InvB (g : Rp) : Prop where
  id : 0 ≤ g.id ∧ g.id < 16
  bk : Inv g.book
  ep : g.log.ep = g.book.epoch
  mem : g.log.mem = g.book.mem
  tep : g.tally.ep = g.log.ep
  tmem : g.tally.mem = g.log.mem
  lg : LogI g.log
  tm : g.timer.fails ≤ 6
  wt : ∀ c, (g.waits c).ok ∧ 0 ≤ (g.waits c).req.client ∧ (g.waits c).req.client ≤ 8
  lf : 0 ≤ g.left ∧ g.left ≤ 64
  hs : (g.hist.length : Int) ≤ g.book.done
  nx : firstR g ≤ g.next ∧ g.next ≤ firstR g + 4
  ch : TkI g.chain
  chl : (g.chain.confs.length : Int) = g.log.ep + 1
  chc : ∀ p ∈ g.chs, hasB g.log.mem p.1 = true
  chn : (g.chs.map (·.1)).Nodup
  st : I64 g.settled.lk.ep ∧ g.settled.text.size ≤ 9223372036854775807 ∧ 0 ≤ g.settled.lk.ep ∧ g.settled.lk.ep ≤ 60
structure RInv (g : Rp) : Prop where
  b : InvB g
  say : (g.says.length : Int) ≤ sayM g
  out : (g.out.length : Int) ≤ outM g
theorem own_bd (g : Lo) (id : Int) : 0 ≤ ownN g id ∧ ownN g id ≤ 4 := by
  have h : ∀ i, 0 ≤ ownB g id i ∧ ownB g id i ≤ 1 := fun i => by unfold ownB; split <;> omega
  have := h 0; have := h 1; have := h 2; have := h 3
  unfold ownN; omega
theorem InvB.conf {g : Rp} (h : InvB g) : confB g.log.ep g.log.mem = true := by
  rw [h.ep, h.mem]; unfold confB; rw [h.bk.mm]; simp [h.bk.ep.1, h.bk.ep.2]
theorem InvB.epb {g : Rp} (h : InvB g) : 0 ≤ g.log.ep ∧ g.log.ep ≤ 60 := by rw [h.ep]; exact h.bk.ep
theorem InvB.mlen {g : Rp} (h : InvB g) : 4 ≤ g.log.mem.length ∧ g.log.mem.length ≤ 10 := conf_len10 h.conf
theorem InvB.act {g : Rp} (h : InvB g) : 0 ≤ actI g ∧ actI g ≤ 5 := by have := h.nx; unfold actI; split <;> omega
theorem InvB.sayb {g : Rp} (h : InvB g) : 0 ≤ sayM g ∧ sayM g ≤ 445 := by
  have := h.act; have := own_bd g.log g.id; have := h.lg.vw; have := h.lf
  unfold sayM; omega
theorem InvB.doneb {g : Rp} (h : InvB g) : 4 * g.log.ep ≤ g.book.done ∧ g.book.done ≤ 4 * (g.log.ep + 1) := by rw [h.ep]; exact h.bk.dn
theorem InvB.outb {g : Rp} (h : InvB g) : 0 ≤ outM g ∧ outM g ≤ 1000000 := by
  have := h.sayb; have := h.doneb; have := h.epb
  unfold outM; omega
theorem RInv.len {g : Rp} (h : RInv g) : g.says.length ≤ 445 ∧ g.out.length ≤ 1000000 ∧ g.hist.length ≤ 244 := by
  have := h.b.sayb; have := h.b.outb; have := h.say; have := h.out; have := h.b.hs; have := h.b.doneb; have := h.b.epb
  refine ⟨by omega, by omega, by omega⟩
theorem others_len (g : Rp) (h : g.log.mem.length ≤ 10) : (othersR g).length ≤ 10 := Nat.le_trans (List.length_filter_le _ _) h
end Go.Proofs.YtflpkoafebjfdaaGreat

/- Layer 18: each step of a replica keeps what holds of it. No program in sight. -/
namespace Go.Proofs.YtflpkoafebjfdaaGreat
open F64
set_option linter.unusedVariables false
set_option linter.unusedSimpArgs false

theorem look_com (mem : List Int) (v n : Int) (s : Sl) : (lookS mem v n s).com = s.com := by unfold lookS; split <;> rfl
theorem own_of_com {g g' : Lo} (id : Int) (h : ∀ i, (g'.sl i).com = (g.sl i).com) : ownN g' id = ownN g id := by unfold ownN ownB; simp only [h]
theorem put_sl (g : Lo) (i : Nat) (s : Sl) (j : Nat) : (putS g i s).sl j = if j = i then s else g.sl j := rfl
theorem own_propose (g : Lo) (n : Int) (r : Req) (id : Int) : ownN (proposeG g n r) id = ownN g id := by
  refine own_of_com id (fun j => ?_)
  unfold proposeG
  split
  · split
    · rename_i i _
      rw [put_sl]
      split
      · rename_i e; rw [look_com, e]
      · rfl
    · rfl
  · rfl
theorem own_prepare (g : Lo) (f n : Int) (r : Req) (b : Int) (t : ByteArray) (id : Int) : ownN (prepareG g f n r b t) id = ownN g id := by
  refine own_of_com id (fun j => ?_)
  unfold prepareG
  split
  · split
    · rename_i i _
      rw [put_sl]
      split
      · rename_i e; rw [look_com, e]
      · rfl
    · rfl
  · rfl
theorem hasG_set {l : List (Int × Vt)} {k : Int} {v : Vt} (h : hasG l k = false) (j : Int) : hasG (setG l k v) j = (hasG l j || decide (j = k)) := by
  rw [setG_new v h]
  unfold hasG
  rw [getG_setNew h]
  split
  · rename_i e; simp [e]
  · rename_i e; simp [e]
theorem own_commit (g : Lo) (f n : Int) (r : Req) (id : Int) : ownN g id ≤ ownN (commitG g f n r) id ∧ (f = id → commitE g f n r = 0 → ownN (commitG g f n r) id = ownN g id + 1) := by
  unfold commitG
  by_cases he : commitE g f n r = 0
  · rw [if_pos he]
    obtain ⟨-, i, hi, -, hg⟩ := commit_facts he
    rw [hi]
    obtain ⟨h4, -⟩ := idxN_lt hi
    have hb : ∀ j, ownB (putS g i (lookS g.mem g.view n { g.sl i with com := setG (g.sl i).com f ⟨r, 0, ByteArray.empty⟩ })) id j = if j = i then (if hasG (g.sl i).com id = true ∨ id = f then 1 else 0) else ownB g id j := by
      intro j
      unfold ownB
      rw [put_sl]
      by_cases e : j = i
      · rw [if_pos e, if_pos e, look_com, hasG_set hg]
        simp
      · rw [if_neg e, if_neg e]
    have h0 : ∀ j, 0 ≤ ownB g id j ∧ ownB g id j ≤ 1 := fun j => by unfold ownB; split <;> omega
    have hle : ownB g id i ≤ (if hasG (g.sl i).com id = true ∨ id = f then 1 else 0 : Int) := by
      unfold ownB
      by_cases h : hasG (g.sl i).com id = true
      · rw [if_pos h, if_pos (.inl h)]; exact Int.le_refl _
      · rw [if_neg h]; split <;> omega
    have heq : f = id → ownB g id i = 0 ∧ (if hasG (g.sl i).com id = true ∨ id = f then 1 else 0 : Int) = 1 := fun e => by
      subst e
      unfold ownB
      rw [hg]; simp
    unfold ownN
    rw [hb 0, hb 1, hb 2, hb 3]
    have : i = 0 ∨ i = 1 ∨ i = 2 ∨ i = 3 := by omega
    rcases this with rfl | rfl | rfl | rfl <;> simp only [if_true, reduceIte, Nat.reduceEqDiff] <;> (refine ⟨by omega, fun e _ => ?_⟩; have := heq e; omega)
  · rw [if_neg he]
    exact ⟨Int.le_refl _, fun _ e => absurd e he⟩
theorem sign_cases (g : Rp) : (signB g = true ∧ signG g = { g with left := g.left - 1 } ∧ g.left ≠ 0 ∧ g.halted = false) ∨ (signB g = false ∧ ∃ a, signG g = { g with halted := a } ∧ a = true) := by
  unfold signB signG
  by_cases h : g.left = 0
  · right; simp [h]
  · by_cases h2 : g.halted = true
    · right; simp [h, h2]
      cases g; simp at h2; subst h2; rfl
    · left; simp [h, h2]
theorem InvB.left {g : Rp} (h : InvB g) {l : Int} {a : Bool} (hl : 0 ≤ l ∧ l ≤ 64) : InvB { g with left := l, halted := a } := { h with lf := hl }
theorem InvB.sign {g : Rp} (h : InvB g) : InvB (signG g) := by
  have := h.lf
  rcases sign_cases g with ⟨-, e, h0, -⟩ | ⟨-, a, e, -⟩
  · rw [e]; exact h.left (a := g.halted) ⟨by omega, by omega⟩
  · rw [e]; exact h.left (l := g.left) h.lf
theorem RInv.sign {g : Rp} (h : RInv g) : RInv (signG g) := by
  have hb := h.b.sign
  rcases sign_cases g with ⟨-, e, h0, -⟩ | ⟨-, a, e, -⟩
  · rw [e] at hb ⊢
    exact ⟨hb, by have := h.say; show (g.says.length : Int) ≤ 4 * (64 - (g.left - 1)) + 12 * g.log.view + ownN g.log g.id + actI g; unfold sayM at this; omega,
      by have := h.out; show (g.out.length : Int) ≤ 10000 * g.log.ep + 10 * (4 * (64 - (g.left - 1)) + 12 * g.log.view + ownN g.log g.id + actI g) + 10 * g.book.done; unfold outM sayM at this; omega⟩
  · rw [e] at hb ⊢; exact ⟨hb, h.say, h.out⟩
theorem InvB.log {g : Rp} (h : InvB g) {lg : Lo} (hi : LogI lg) (he : lg.ep = g.log.ep) (hm : lg.mem = g.log.mem) : InvB { g with log := lg } :=
  { h with ep := he.trans h.ep, mem := hm.trans h.mem, tep := h.tep.trans he.symm, tmem := h.tmem.trans hm.symm, lg := hi, nx := by have := h.nx; unfold firstR at this ⊢; simp only [he]; exact this, chl := by rw [h.chl]; simp only [he], chc := by simp only [hm]; exact h.chc }
theorem act_log (g : Rp) {lg : Lo} (he : lg.ep = g.log.ep) : actI { g with log := lg } = actI g := by unfold actI firstR; simp only [he]
/-- What is said fits behind a step that leaves room for it. -/
theorem say_len (g : Rp) (m : Ms) (h : g.log.mem.length ≤ 10) : (sayG g m).says.length = g.says.length + 1 ∧ (sayG g m).out.length ≤ g.out.length + 10 := by
  have := others_len g h
  unfold sayG tellG
  simp only [List.length_append, List.length_map, List.length_singleton]
  exact ⟨trivial, by omega⟩
theorem InvB.say {g : Rp} (h : InvB g) (m : Ms) : InvB (sayG g m) := { h with }
theorem RInv.said {g : Rp} (h : InvB g) (m : Ms) (hs : (g.says.length : Int) + 1 ≤ sayM g) (ho : (g.out.length : Int) + 10 ≤ outM g) : RInv (sayG g m) := by
  obtain ⟨l1, l2⟩ := say_len g m h.mlen.2
  refine ⟨h.say m, ?_, ?_⟩
  · show ((sayG g m).says.length : Int) ≤ sayM g
    omega
  · show ((sayG g m).out.length : Int) ≤ outM g
    omega
theorem RInv.takeHead {g : Rp} (h : RInv g) (hs : signB g = true) (slot : Int) (q : Req) (id by_ : Int) (t : ByteArray) (m : Ms) : RInv (sayG { signG g with log := prepareG (signG g).log id slot q by_ t } m) := by
  have hb := h.b.sign
  have hlf := h.b.lf
  rcases sign_cases g with ⟨-, e, h0, -⟩ | ⟨e, -⟩
  · rw [e] at hb ⊢
    have hl := hb.log (h.b.lg.prepare id slot q by_ t) (prepare_ep _ _ _ _ _ _) (prepare_mem _ _ _ _ _ _)
    have hsM : sayM { { g with left := g.left - 1 } with log := prepareG g.log id slot q by_ t } = sayM g + 4 := by
      unfold sayM
      rw [act_log { g with left := g.left - 1 } (prepare_ep _ _ _ _ _ _)]
      simp only [prepare_view, own_prepare]
      show 4 * (64 - (g.left - 1)) + 12 * g.log.view + ownN g.log g.id + actI g = _
      omega
    have hoM : outM { { g with left := g.left - 1 } with log := prepareG g.log id slot q by_ t } = outM g + 40 := by
      unfold outM
      rw [hsM]
      simp only [prepare_ep]
      omega
    exact RInv.said hl m (by rw [hsM]; have := h.say; show (g.says.length : Int) + 1 ≤ _; omega) (by rw [hoM]; have := h.out; show (g.out.length : Int) + 10 ≤ _; omega)
  · rw [e] at hs; cases hs
theorem RInv.commitIf {g : Rp} (h : RInv g) (slot : Int) : RInv (commitIf g slot) := by
  unfold Go.Proofs.YtflpkoafebjfdaaGreat.commitIf
  simp only
  split
  · rename_i hc
    generalize (proposedO g.log slot).getD nullR = q at *
    have hl := h.b.log (h.b.lg.commit g.id slot q) (commit_ep _ _ _ _) (commit_mem _ _ _ _)
    have ho := (own_commit g.log g.id slot q g.id).2 rfl hc.2
    have hsM : sayM { g with log := commitG g.log g.id slot q } = sayM g + 1 := by
      unfold sayM
      rw [act_log g (commit_ep _ _ _ _)]
      simp only [commit_view, ho]
      omega
    have hoM : outM { g with log := commitG g.log g.id slot q } = outM g + 10 := by
      unfold outM
      rw [hsM]
      simp only [commit_ep]
      omega
    exact RInv.said hl _ (by rw [hsM]; have := h.say; show (g.says.length : Int) + 1 ≤ _; omega) (by rw [hoM]; have := h.out; show (g.out.length : Int) + 10 ≤ _; omega)
  · exact h
theorem do_keeps {b : Lg} {q : Req} (h : doE b q = 0) : (doL b q).done = b.done + 1 ∧ (doL b q).epoch = b.epoch ∧ (doL b q).mem = b.mem := by
  have ha : ∀ (b : Lg) (o : Opn), (applyL b o).done = b.done ∧ (applyL b o).epoch = b.epoch ∧ (applyL b o).mem = b.mem := by
    intro b o
    unfold applyL moveL
    (repeat' split) <;> exact ⟨rfl, rfl, rfl⟩
  unfold doL
  rw [if_neg (by simp [h])]
  (repeat' split)
  · exact ⟨rfl, rfl, rfl⟩
  · exact ⟨rfl, rfl, rfl⟩
  · have := ha (tick b) q.op
    exact ⟨this.1, this.2.1, this.2.2⟩
  · exact ⟨rfl, rfl, rfl⟩
theorem asked_do {b : Lg} {q : Req} (ha : askedB q = true) (hf : fullB b = false) : doE b q = 0 := by
  refine doE_cases.2 ⟨?_, hf⟩
  unfold askedB at ha
  simpa using ha
end Go.Proofs.YtflpkoafebjfdaaGreat
