/- Joined texts: Ledg, Ledg2, Ledg3, Ledg5, LedgY1. What each proves stands at its head; no conditions beside those in its theorems. -/
import Derived.Deep.RegionHeld3
import Derived.Laws.CopyOwn
import Derived.Deep.OwnRows
import Derived.Deep.RegionLaw
import Derived.Test.YtflpkoafebjfdaaGreatPjAH
import Derived.Test.YtflpkoafebjfdaaGreatPjAI
/- Contracts of layer 12 (ledger): what a ledger is in memory; New. -/
namespace Go.Proofs.YtflpkoafebjfdaaGreat
open Go.RowKit F64
set_option linter.unusedSimpArgs false
set_option linter.unusedVariables false

def clRow (cl : Nat → Cl) : List Value := (List.range 8).flatMap (fun i => [.int .i64 (cl i).stamp, .int .i64 (cl i).code, .float .f64 (cl i).real])
def rowLg (g : Lg) (a1 : Option Addr) (c1 : Nat) (a2 : Option Addr) (c2 m : Nat) : List Value :=
  .int .i64 g.epoch :: .slice a1 g.mem.length c1 :: .slice a2 g.next.length c2 :: .int .i64 g.done :: .map (some m) :: clRow g.cl
/-- A ledger: block b, its keys in block m, its members in rows of their own. -/
structure LD (w : World) (b m : Nat) (g : Lg) : Prop where
  ex : ∃ a1 c1 a2 c2, w.heap[b]? = some (.cells (rowLg g a1 c1 a2 c2 m).toArray 172 (0, 0)) ∧ Ints w a1 c1 g.mem ∧ Ints w a2 c2 g.next ∧ intT w a1 ∧ intT w a2
  mp : MapW w m g.keys
/-- Blocks b and m alone. -/
def Two (b m : Nat) : Nat → Prop := fun k => k = b ∨ k = m

theorem LD.lt {w : World} {b m : Nat} {g : Lg} (h : LD w b m g) : b < w.heap.size := by
  obtain ⟨_, _, _, _, h, _⟩ := h.ex
  exact (Array.getElem?_eq_some_iff.1 h).1
theorem LD.ne {w : World} {b m : Nat} {g : Lg} (h : LD w b m g) : b ≠ m := by
  obtain ⟨_, _, _, _, h1, _⟩ := h.ex
  obtain ⟨_, _, h2, _⟩ := h.mp.ex
  intro e
  rw [e, h2] at h1
  cases h1
theorem LD.ext {S : Nat → Prop} {w w' : World} {b m : Nat} {g : Lg} (h : LD w b m g) (x : Ext S w w') (hb : ¬ S b) (hm : ¬ S m) (hs : NoInts S w) : LD w' b m g := by
  obtain ⟨a1, c1, a2, c2, hh, i1, i2, f1, f2⟩ := h.ex
  exact ⟨⟨a1, c1, a2, c2, (x.block b h.lt hb).trans hh, i1.extT f1 x hs, i2.extT f2 x hs, f1.ext x hs, f2.ext x hs⟩, h.mp.ext x hm⟩
theorem LD.noInts {w : World} {b m : Nat} {g : Lg} (h : LD w b m g) : NoInts (Two b m) w := by
  obtain ⟨_, _, _, _, h1, _⟩ := h.ex
  obtain ⟨_, _, h2, _⟩ := h.mp.ex
  rintro k (rfl | rfl) vs fr e
  · rw [h1] at e; cases e
  · rw [h2] at e; cases e
theorem LD.extN {w w' : World} {b m : Nat} {g : Lg} (h : LD w b m g) (x : Ext Non w w') : LD w' b m g := h.ext x (fun f => f) (fun f => f) (NoInts.non w)

theorem cell_new (w : World) (vs : List Value) (t : TypeId) {k : Nat} {v : Value} (h : vs[k]? = some v) : (w.alloc (.cells vs.toArray t)).cell? ⟨w.heap.size, k, none⟩ = some v :=
  cell_of_heap (heap_alloc_new w _) h

end Go.Proofs.YtflpkoafebjfdaaGreat

/- Contracts of layer 12 (ledger): what is asked of a ledger; Turn. -/
namespace Go.Proofs.YtflpkoafebjfdaaGreat
open Go.RowKit F64
set_option linter.unusedSimpArgs false
set_option linter.unusedVariables false

attribute [local go_sem] run_store_float

abbrev LRow (w : World) (b m : Nat) (g : Lg) (a1 : Option Addr) (c1 : Nat) (a2 : Option Addr) (c2 : Nat) : Prop :=
  w.heap[b]? = some (.cells (rowLg g a1 c1 a2 c2 m).toArray 172 (0, 0))
theorem cl_at (g : Lg) (a1 : Option Addr) (c1 : Nat) (a2 : Option Addr) (c2 m : Nat) {i : Nat} (hi : i < 8) :
    (rowLg g a1 c1 a2 c2 m)[5 + i * 3]? = some (.int .i64 (g.cl i).stamp) ∧ (rowLg g a1 c1 a2 c2 m)[5 + i * 3 + 1]? = some (.int .i64 (g.cl i).code) ∧ (rowLg g a1 c1 a2 c2 m)[5 + i * 3 + 2]? = some (.float .f64 (g.cl i).real) := by
  have : i = 0 ∨ i = 1 ∨ i = 2 ∨ i = 3 ∨ i = 4 ∨ i = 5 ∨ i = 6 ∨ i = 7 := by omega
  rcases this with rfl | rfl | rfl | rfl | rfl | rfl | rfl | rfl <;> exact ⟨rfl, rfl, rfl⟩
/-- A ledger in which a cell of its block was written, which makes it another one. -/
theorem LD.set {w w' : World} {b m : Nat} {g g' : Lg} (h : LD w b m g) (x : Ext (One b) w w') {a1 : Option Addr} {c1 : Nat} {a2 : Option Addr} {c2 : Nat} (r : LRow w' b m g' a1 c1 a2 c2)
    (i1 : Ints w a1 c1 g'.mem) (i2 : Ints w a2 c2 g'.next) (f1 : intT w a1) (f2 : intT w a2) (hk : g'.keys = g.keys) : LD w' b m g' := by
  have ns : NoInts (One b) w := fun k s => h.noInts k (.inl s)
  refine ⟨⟨a1, c1, a2, c2, r, i1.extT f1 x ns, i2.extT f2 x ns, f1.ext x ns, f2.ext x ns⟩, ?_⟩
  rw [hk]
  exact h.mp.ext x (fun s => h.ne s.symm)

theorem ledger_Done (b m : Nat) (g : Lg) (w : World) (h : LD w b m g) : Calls Tryz.prog 51 #[.pointer (some ⟨b, 0, none⟩)] w fun e w' => e = .returned (.int .i64 g.done) ∧ w = w' := by
  obtain ⟨a1, c1, a2, c2, r, _⟩ := h.ex
  have q3 : w.cell? ⟨b, 3, none⟩ = some (.int .i64 g.done) := cell_of_heap r rfl
  clear r h
  go_enter Tryz.func51, Tryz.ntmps51
  go_wp2
  go_ret
  exact ⟨rfl, rfl⟩
theorem ledger_Conf (b m : Nat) (g : Lg) (I : Inv g) (w : World) (h : LD w b m g) : Calls Tryz.prog 88 #[.pointer (some ⟨b, 0, none⟩)] w fun e w' =>
    ∃ a cap, e = .returned (.agg #[.int .i64 g.epoch, .slice a g.mem.length cap]) ∧ Ext Non w w' ∧ Ints w' a cap g.mem ∧ fresh w.heap.size w' a := by
  obtain ⟨a1, c1, a2, c2, r, i1, i2, _⟩ := h.ex
  have q0 : w.cell? ⟨b, 0, none⟩ = some (.int .i64 g.epoch) := cell_of_heap r rfl
  have q1 : w.cell? ⟨b, 1, none⟩ = some (.slice a1 g.mem.length c1) := cell_of_heap r rfl
  have I1 := Go.Lib.hid i1
  have h10 := (members_facts I.mm).2.2.2
  have HB := Go.Lib.hid (show g.mem.length * 8 ≤ 140737488355328 by omega)
  have hlt := h.lt
  clear r h i1 i2 I h10
  go_enter Tryz.func88, Tryz.ntmps88
  go_wp2_with fail
  have hz : ∀ w', Ext Non (w.alloc (.cells #[.int .i64 0, .slice none 0 0] 24)) w' → w'.cell? ⟨w.heap.size, 0, none⟩ = some (.int .i64 0) ∧ w'.cell? ⟨w.heap.size, 1, none⟩ = some (.slice none 0 0) ∧ w'.frozen? ⟨w.heap.size, 0, none⟩ = false ∧ w'.frozen? ⟨w.heap.size, 1, none⟩ = false := by
    intro w' x
    have hn := heap_alloc_new w (.cells #[.int .i64 0, .slice none 0 0] 24)
    have hx := (x.block w.heap.size (by simp) id).trans hn
    exact ⟨cell_of_heap (cur := [.int .i64 0, .slice none 0 0]) hx rfl, cell_of_heap (cur := [.int .i64 0, .slice none 0 0]) hx rfl, froz_of_heap (cur := [.int .i64 0, .slice none 0 0]) hx, froz_of_heap (cur := [.int .i64 0, .slice none 0 0]) hx⟩
  have hk : ∀ w', Ext Non w w' → w'.cell? ⟨b, 0, none⟩ = some (.int .i64 g.epoch) ∧ w'.cell? ⟨b, 1, none⟩ = some (.slice a1 g.mem.length c1) := fun w' x =>
    ⟨(x.cell (p := ⟨b, 0, none⟩) hlt id).trans q0, (x.cell (p := ⟨b, 1, none⟩) hlt id).trans q1⟩
  have HZ := Go.Lib.hid hz; clear hz
  have HK := Go.Lib.hid hk; clear hk
  have Z0 := Ext.refl Non (w.alloc (.cells #[.int .i64 0, .slice none 0 0] 24))
  have AL : Ext Non w (w.alloc (.cells #[.int .i64 0, .slice none 0 0] 24)) := (Ext.refl Non w).alloc _
  go_region_held3 (fun w' => w'.cell? ⟨b, 0, none⟩ = some (.int .i64 g.epoch) ∧ w'.cell? ⟨b, 1, none⟩ = some (.slice a1 g.mem.length c1))
    (first | exact HK.out _ (((Y1.setCell (.inr (Nat.le_refl _)) _)).setCell (.inr (Nat.le_refl _)) _) | exact HK.out _ (by (first | exact Y1 | exact Ext.drew Y1 | exact Ext.alloc Y1 _ | exact Ext.alloc (Ext.drew Y1) _ | exact Ext.drew (Ext.alloc Y1 _) | exact Ext.alloc (Ext.alloc Y1 _) _ | exact Ext.alloc (Ext.alloc (Ext.drew Y1) _) _ | exact Ext.alloc (Ext.drew (Ext.alloc Y1 _)) _ | exact Ext.drew (Ext.alloc (Ext.alloc Y1 _) _))) | exact HK.out _ (by (first | exact AL | exact Ext.drew AL | exact Ext.alloc AL _ | exact Ext.alloc (Ext.drew AL) _ | exact Ext.drew (Ext.alloc AL _) | exact Ext.alloc (Ext.alloc AL _) _ | exact Ext.alloc (Ext.alloc (Ext.drew AL) _) _ | exact Ext.alloc (Ext.drew (Ext.alloc AL _)) _ | exact Ext.drew (Ext.alloc (Ext.alloc AL _) _))))
    (first
    | (go_at_call 87
       refine Calls.mono (slices_Clone _ _ _ HB.out _ (I1.out.extN (by (first | exact AL | exact Ext.drew AL | exact Ext.alloc AL _ | exact Ext.alloc (Ext.drew AL) _ | exact Ext.drew (Ext.alloc AL _) | exact Ext.alloc (Ext.alloc AL _) _ | exact Ext.alloc (Ext.alloc (Ext.drew AL) _) _ | exact Ext.alloc (Ext.drew (Ext.alloc AL _)) _ | exact Ext.drew (Ext.alloc (Ext.alloc AL _) _))))) ?_
       rintro e w2 ⟨a, cp, rfl, x1, hI1, hf1⟩
       have Z1 : Ext Non (w.alloc (.cells #[.int .i64 0, .slice none 0 0] 24)) w2 := (by (first | exact Z0 | exact Ext.drew Z0 | exact Ext.alloc Z0 _ | exact Ext.alloc (Ext.drew Z0) _ | exact Ext.drew (Ext.alloc Z0 _) | exact Ext.alloc (Ext.alloc Z0 _) _ | exact Ext.alloc (Ext.alloc (Ext.drew Z0) _) _ | exact Ext.alloc (Ext.drew (Ext.alloc Z0 _)) _ | exact Ext.drew (Ext.alloc (Ext.alloc Z0 _) _)) : Ext Non _ _).trans x1
       have Y1 : Ext Non w w2 := AL.trans Z1
       obtain ⟨z1, z2, z3, z4⟩ := HZ.out _ Z1))
  have y00 : (w2.setCell ⟨w.heap.size, 0, none⟩ (.int .i64 g.epoch)).cell? ⟨w.heap.size, 0, none⟩ = some (.int .i64 g.epoch) := World.cell?_setCell_same _ _ _ z1
  have y0 : ((w2.setCell ⟨w.heap.size, 0, none⟩ (.int .i64 g.epoch)).setCell ⟨w.heap.size, 1, none⟩ (.slice a g.mem.length cp)).cell? ⟨w.heap.size, 0, none⟩ = some (.int .i64 g.epoch) :=
    (World.cell?_setCell_other _ _ _ _ (by simp)).trans (World.cell?_setCell_same _ _ _ z1)
  have y1 : ((w2.setCell ⟨w.heap.size, 0, none⟩ (.int .i64 g.epoch)).setCell ⟨w.heap.size, 1, none⟩ (.slice a g.mem.length cp)).cell? ⟨w.heap.size, 1, none⟩ = some (.slice a g.mem.length cp) :=
    World.cell?_setCell_same _ _ _ ((World.cell?_setCell_other _ _ _ _ (by simp)).trans z2)
  rename_i hHeld
  clear hHeld q0 q1
  go_wp2
  refine bodyPost_ret (by simp [results, Tryz.results88, go_sem, y0, y00, y1]; try rfl) rfl ?_
  have Y2 := (Y1.setCell (p := ⟨w.heap.size, 0, none⟩) (.inr (Nat.le_refl _)) (.int .i64 g.epoch)).setCell (p := ⟨w.heap.size, 1, none⟩) (.inr (Nat.le_refl _)) (.slice a g.mem.length cp)
  have Y3 : Ext (One w.heap.size) w2 _ := (((Ext.refl (One w.heap.size) w2).setCell (p := ⟨w.heap.size, 0, none⟩) (.inl rfl) (.int .i64 g.epoch)).setCell (p := ⟨w.heap.size, 1, none⟩) (.inl rfl) (.slice a g.mem.length cp))
  have nr : NoInts (One w.heap.size) w2 := by
    intro k s vs fr e
    have s : k = w.heap.size := s
    subst s
    rw [(Z1.block w.heap.size (by simp) id).trans (heap_alloc_new w _)] at e
    cases e
  exact ⟨a, cp, rfl, Y2, hI1.extT hf1.typed Y3 nr, fun k o e => by have := (hf1 k o e).1; exact ⟨by simp at this; omega, hf1.typed.ext Y3 nr k o e⟩⟩

theorem ledger_Last (b m : Nat) (g : Lg) (c : Int) (i : Nat) (hc : c = i + 1) (hi : i < 8) (w : World) (h : LD w b m g) : Calls Tryz.prog 192 #[.pointer (some ⟨b, 0, none⟩), .int .i64 c] w fun e w' =>
    e = .returned (.tuple #[.int .i64 (g.cl i).stamp, .agg #[.int .i64 (g.cl i).code, .float .f64 (g.cl i).real]]) ∧ Ext Non w w' := by
  obtain ⟨a1, c1, a2, c2, r, _⟩ := h.ex
  obtain ⟨r0, r1, r2⟩ := cl_at g a1 c1 a2 c2 m hi
  have q0 : w.cell? ⟨b, 5 + i * 3, none⟩ = some (.int .i64 (g.cl i).stamp) := cell_of_heap r r0
  have q1 : w.cell? ⟨b, 5 + i * 3 + 1, none⟩ = some (.int .i64 (g.cl i).code) := cell_of_heap r r1
  have q2 : w.cell? ⟨b, 5 + i * 3 + 2, none⟩ = some (.float .f64 (g.cl i).real) := cell_of_heap r r2
  have hlt := h.lt
  clear r h r0 r1 r2
  subst hc
  have wr : IntKind.i64.wrap ((i : Int) + 1 - 1) = (i : Int) := by rw [show (i : Int) + 1 - 1 = i from by omega]; exact IntWalk.i64_in _ (by omega)
  go_enter Tryz.func192, Tryz.ntmps192
  go_wp2
  go_region
  all_goals go_wp2
  all_goals refine bodyPost_ret (by simp [results, Tryz.results192, go_sem]; try rfl) rfl ?_
  all_goals exact ⟨rfl, (((Ext.refl _ _).alloc _).alloc _).drew⟩
theorem ledger_Last_no (v : Option Addr) (c : Int) (hc : v = none ∨ c < 1 ∨ 8 < c) (w : World) : Calls Tryz.prog 192 #[.pointer v, .int .i64 c] w fun e w' =>
    e = .returned (.tuple #[.int .i64 0, .agg #[.int .i64 0, .float .f64 0]]) ∧ Ext Non w w' := by
  have q : ∀ b : Addr, (c < 1 ∨ 8 < c) → Calls Tryz.prog 192 #[.pointer (some b), .int .i64 c] w fun e w' =>
      e = .returned (.tuple #[.int .i64 0, .agg #[.int .i64 0, .float .f64 0]]) ∧ Ext Non w w' := by
    intro b h
    rcases h with h | h
    · go_enter Tryz.func192, Tryz.ntmps192
      go_wp2
      refine bodyPost_ret (by simp [results, Tryz.results192, go_sem]; try rfl) rfl ?_
      exact ⟨rfl, (Ext.refl _ _).alloc _⟩
    · have h1 : ¬ c < 1 := by omega
      go_enter Tryz.func192, Tryz.ntmps192
      go_wp2
      refine bodyPost_ret (by simp [results, Tryz.results192, go_sem]; try rfl) rfl ?_
      exact ⟨rfl, (Ext.refl _ _).alloc _⟩
  cases v with
  | some b => exact q b (hc.resolve_left (fun h => by cases h))
  | none =>
    clear q hc
    go_enter Tryz.func192, Tryz.ntmps192
    go_wp2
    refine bodyPost_ret (by simp [results, Tryz.results192, go_sem]; try rfl) rfl ?_
    exact ⟨rfl, (Ext.refl _ _).alloc _⟩
end Go.Proofs.YtflpkoafebjfdaaGreat

/- Contracts of layer 12 (ledger): apply, move. -/
namespace Go.Proofs.YtflpkoafebjfdaaGreat
open Go.RowKit F64
set_option linter.unusedSimpArgs false
set_option linter.unusedVariables false
attribute [local go_sem] run_store_float

/-- The boxes of apply: the operation, and the result to be. -/
structure ApW (w w' : World) (b : Nat) (k : Int) (key : ByteArray) (x : Nat) (id : Int) : Prop where
  o : w'.heap[w.heap.size]? = some (.cells #[.int .i64 k, .string key, .float .f64 x, .int .i64 id] 35 (0, 0))
  r : w'.heap[w.heap.size + 1]? = some (.cells #[.int .i64 0, .float .f64 0] 39 (0, 0))
theorem ApW.of {w : World} {b : Nat} {k : Int} {key : ByteArray} {x : Nat} {id : Int} :
    ApW w ((w.alloc (.cells #[.int .i64 k, .string key, .float .f64 x, .int .i64 id] 35)).alloc (.cells #[.int .i64 0, .float .f64 0] 39)) b k key x id := by
  have e1 := heap_alloc_new w (.cells #[.int .i64 k, .string key, .float .f64 x, .int .i64 id] 35)
  have e2 := (((Ext.refl Non _).alloc (.cells #[.int .i64 0, .float .f64 0] 39) : Ext Non (w.alloc (.cells #[.int .i64 k, .string key, .float .f64 x, .int .i64 id] 35)) _).block w.heap.size (by simp) (fun f => f)).trans e1
  have g1 := heap_alloc_new (w.alloc (.cells #[.int .i64 k, .string key, .float .f64 x, .int .i64 id] 35)) (.cells #[.int .i64 0, .float .f64 0] 39)
  have es : (w.alloc (.cells #[.int .i64 k, .string key, .float .f64 x, .int .i64 id] 35)).heap.size = w.heap.size + 1 := by simp
  rw [es] at g1
  exact ⟨e2, g1⟩
theorem ApW.ext {S : Nat → Prop} {w w' w'' : World} {b : Nat} {k : Int} {key : ByteArray} {x : Nat} {id : Int} (h : ApW w w' b k key x id) (y : Ext S w' w'') (h1 : ¬ S w.heap.size) (h2 : ¬ S (w.heap.size + 1)) : ApW w w'' b k key x id :=
  ⟨(y.block _ (Array.getElem?_eq_some_iff.1 h.o).1 h1).trans h.o, (y.block _ (Array.getElem?_eq_some_iff.1 h.r).1 h2).trans h.r⟩
theorem ApW.noInts {w w' : World} {b : Nat} {k : Int} {key : ByteArray} {x : Nat} {id : Int} (h : ApW w w' b k key x id) : NoInts (One (w.heap.size + 1)) w' := by
  intro j s vs fr e
  have s : j = w.heap.size + 1 := s
  subst s
  rw [h.r] at e; cases e
end Go.Proofs.YtflpkoafebjfdaaGreat

/- Contracts of layer 12 (ledger): apply as a whole, Do. -/
namespace Go.Proofs.YtflpkoafebjfdaaGreat
open Go.RowKit F64
set_option linter.unusedSimpArgs false
set_option linter.unusedVariables false
attribute [local go_sem] run_store_float

/-- The boxes of Do: the request, and the result to be. -/
structure DoW (w w' : World) (c s k : Int) (key : ByteArray) (x : Nat) (id : Int) : Prop where
  o : w'.heap[w.heap.size]? = some (.cells #[.int .i64 c, .int .i64 s, .int .i64 k, .string key, .float .f64 x, .int .i64 id] 37 (0, 0))
  r : w'.heap[w.heap.size + 1]? = some (.cells #[.int .i64 0, .float .f64 0] 39 (0, 0))
abbrev doBase (w : World) (c s k : Int) (key : ByteArray) (x : Nat) (id : Int) : World := (w.alloc (.cells #[.int .i64 c, .int .i64 s, .int .i64 k, .string key, .float .f64 x, .int .i64 id] 37)).alloc (.cells #[.int .i64 0, .float .f64 0] 39)
theorem DoW.of {w : World} {c s k : Int} {key : ByteArray} {x : Nat} {id : Int} : DoW w (doBase w c s k key x id) c s k key x id := by
  have e1 := heap_alloc_new w (.cells #[.int .i64 c, .int .i64 s, .int .i64 k, .string key, .float .f64 x, .int .i64 id] 37)
  have e2 := (((Ext.refl Non _).alloc (.cells #[.int .i64 0, .float .f64 0] 39) : Ext Non (w.alloc (.cells #[.int .i64 c, .int .i64 s, .int .i64 k, .string key, .float .f64 x, .int .i64 id] 37)) _).block w.heap.size (by simp) (fun f => f)).trans e1
  have g1 := heap_alloc_new (w.alloc (.cells #[.int .i64 c, .int .i64 s, .int .i64 k, .string key, .float .f64 x, .int .i64 id] 37)) (.cells #[.int .i64 0, .float .f64 0] 39)
  have es : (w.alloc (.cells #[.int .i64 c, .int .i64 s, .int .i64 k, .string key, .float .f64 x, .int .i64 id] 37)).heap.size = w.heap.size + 1 := by simp
  rw [es] at g1
  exact ⟨e2, g1⟩
theorem DoW.ext {S : Nat → Prop} {w w' w'' : World} {c s k : Int} {key : ByteArray} {x : Nat} {id : Int} (h : DoW w w' c s k key x id) (y : Ext S w' w'') (h1 : ¬ S w.heap.size) (h2 : ¬ S (w.heap.size + 1)) : DoW w w'' c s k key x id :=
  ⟨(y.block _ (Array.getElem?_eq_some_iff.1 h.o).1 h1).trans h.o, (y.block _ (Array.getElem?_eq_some_iff.1 h.r).1 h2).trans h.r⟩
theorem DoW.noInts {w w' : World} {c s k : Int} {key : ByteArray} {x : Nat} {id : Int} (h : DoW w w' c s k key x id) : NoInts (One (w.heap.size + 1)) w' := by
  intro j s vs fr e
  have s : j = w.heap.size + 1 := s
  subst s
  rw [h.r] at e; cases e
theorem DoW.cells {w w' : World} {c s k : Int} {key : ByteArray} {x : Nat} {id : Int} (h : DoW w w' c s k key x id) :
    w'.cell? ⟨w.heap.size, 0, none⟩ = some (.int .i64 c) ∧ w'.cell? ⟨w.heap.size, 1, none⟩ = some (.int .i64 s) ∧ w'.cell? ⟨w.heap.size, 2, none⟩ = some (.int .i64 k) ∧ w'.cell? ⟨w.heap.size, 3, none⟩ = some (.string key) ∧
    w'.cell? ⟨w.heap.size, 4, none⟩ = some (.float .f64 x) ∧ w'.cell? ⟨w.heap.size, 5, none⟩ = some (.int .i64 id) :=
  have q := fun {i : Nat} {v : Value} => @cell_of_heap w' w.heap.size i [.int .i64 c, .int .i64 s, .int .i64 k, .string key, .float .f64 x, .int .i64 id] _ v h.o
  ⟨q rfl, q rfl, q rfl, q rfl, q rfl, q rfl⟩
theorem DoW.res {w w' : World} {c s k : Int} {key : ByteArray} {x : Nat} {id : Int} (h : DoW w w' c s k key x id) :
    w'.cell? ⟨w.heap.size + 1, 0, none⟩ = some (.int .i64 0) ∧ w'.cell? ⟨w.heap.size + 1, 1, none⟩ = some (.float .f64 0) ∧ w'.frozen? ⟨w.heap.size + 1, 0, none⟩ = false ∧ w'.frozen? ⟨w.heap.size + 1, 1, none⟩ = false :=
  ⟨cell_of_heap (cur := [.int .i64 0, .float .f64 0]) h.r rfl, cell_of_heap (cur := [.int .i64 0, .float .f64 0]) h.r rfl, froz_of_heap (cur := [.int .i64 0, .float .f64 0]) h.r, froz_of_heap (cur := [.int .i64 0, .float .f64 0]) h.r⟩
end Go.Proofs.YtflpkoafebjfdaaGreat

/- Contracts of layer 12 (ledger), Turn: for ledgers whose rows do not lie in a given block. Printed by wip/genz.py. -/
namespace Go.Proofs.YtflpkoafebjfdaaGreat.Y
open Go.RowKit F64
set_option linter.unusedSimpArgs false
set_option linter.unusedVariables false
attribute [local go_sem] run_store_float
variable {zn : Nat → Prop}
/-- A row of ints, in a block of its kind that is none of zn. -/
def intZ (zn : Nat → Prop) (w : World) (a : Option Addr) : Prop := ∀ k o, a = some ⟨k, o, none⟩ → ¬ zn k ∧ ∃ vs fr, w.heap[k]? = some (.cells vs 3 fr)
theorem intZ.to {w : World} {a : Option Addr} (h : intZ zn w a) : intT w a := fun k o e => (h k o e).2
instance {w : World} {a : Option Addr} : CoeOut (intZ zn w a) (intT w a) := ⟨intZ.to⟩
theorem intZ.ext {S : Nat → Prop} {w w' : World} {a : Option Addr} (h : intZ zn w a) (x : Ext S w w') (hs : NoInts S w) : intZ zn w' a := fun k o e => ⟨(h k o e).1, h.to.ext x hs k o e⟩
theorem _root_.Go.Proofs.YtflpkoafebjfdaaGreat.fresh.typedY {n : Nat} {w : World} {a : Option Addr} (h : fresh n w a) (hz : ∀ k, zn k → k < n) : intZ zn w a := fun k o e => ⟨fun q => by have := hz k q; have := (h k o e).1; omega, (h k o e).2⟩
/-- A ledger: block b, its keys in block m, its members in rows of their own. -/
structure LD (zn : Nat → Prop) (w : World) (b m : Nat) (g : Lg) : Prop where
  ex : ∃ a1 c1 a2 c2, w.heap[b]? = some (.cells (rowLg g a1 c1 a2 c2 m).toArray 172 (0, 0)) ∧ Ints w a1 c1 g.mem ∧ Ints w a2 c2 g.next ∧ intZ zn w a1 ∧ intZ zn w a2
  mp : MapW w m g.keys
  zlt : ∀ k, zn k → k < w.heap.size
theorem LD.lt {w : World} {b m : Nat} {g : Lg} (h : LD zn w b m g) : b < w.heap.size := by
  obtain ⟨_, _, _, _, h, _⟩ := h.ex
  exact (Array.getElem?_eq_some_iff.1 h).1
theorem LD.ne {w : World} {b m : Nat} {g : Lg} (h : LD zn w b m g) : b ≠ m := by
  obtain ⟨_, _, _, _, h1, _⟩ := h.ex
  obtain ⟨_, _, h2, _⟩ := h.mp.ex
  intro e
  rw [e, h2] at h1
  cases h1
theorem LD.ext {S : Nat → Prop} {w w' : World} {b m : Nat} {g : Lg} (h : LD zn w b m g) (x : Ext S w w') (hb : ¬ S b) (hm : ¬ S m) (hs : NoInts S w) : LD zn w' b m g := by
  obtain ⟨a1, c1, a2, c2, hh, i1, i2, f1, f2⟩ := h.ex
  exact ⟨⟨a1, c1, a2, c2, (x.block b h.lt hb).trans hh, i1.extT f1 x hs, i2.extT f2 x hs, f1.ext x hs, f2.ext x hs⟩, h.mp.ext x hm, fun k hk => Nat.lt_of_lt_of_le (h.zlt k hk) x.size⟩
theorem LD.noInts {w : World} {b m : Nat} {g : Lg} (h : LD zn w b m g) : NoInts (Two b m) w := by
  obtain ⟨_, _, _, _, h1, _⟩ := h.ex
  obtain ⟨_, _, h2, _⟩ := h.mp.ex
  rintro k (rfl | rfl) vs fr e
  · rw [h1] at e; cases e
  · rw [h2] at e; cases e
theorem LD.extN {w w' : World} {b m : Nat} {g : Lg} (h : LD zn w b m g) (x : Ext Non w w') : LD zn w' b m g := h.ext x (fun f => f) (fun f => f) (NoInts.non w)
theorem LD.to {w : World} {b m : Nat} {g : Lg} (h : LD zn w b m g) : Go.Proofs.YtflpkoafebjfdaaGreat.LD w b m g := by
  obtain ⟨a1, c1, a2, c2, hh, i1, i2, f1, f2⟩ := h.ex
  exact ⟨⟨a1, c1, a2, c2, hh, i1, i2, f1.to, f2.to⟩, h.mp⟩
/-- Another set. -/
theorem LD.mono {zn' : Nat → Prop} {w : World} {b m : Nat} {g : Lg} (h : LD zn w b m g) (hz : ∀ k, k < w.heap.size → zn' k → zn k) (hl : ∀ k, zn' k → k < w.heap.size) : LD zn' w b m g := by
  obtain ⟨a1, c1, a2, c2, hh, i1, i2, f1, f2⟩ := h.ex
  exact ⟨⟨a1, c1, a2, c2, hh, i1, i2, fun k o e => ⟨fun q => (f1 k o e).1 (hz k (hl k q) q), (f1 k o e).2⟩, fun k o e => ⟨fun q => (f2 k o e).1 (hz k (hl k q) q), (f2 k o e).2⟩⟩, h.mp, hl⟩
/-- Writes to blocks of the set. -/
theorem LD.extZ {S : Nat → Prop} {w w' : World} {b m : Nat} {g : Lg} (h : LD zn w b m g) (x : Ext S w w') (hb : ¬ S b) (hm : ¬ S m) (hs : ∀ k, k < w.heap.size → S k → zn k) : LD zn w' b m g := by
  obtain ⟨a1, c1, a2, c2, hh, i1, i2, f1, f2⟩ := h.ex
  have key : ∀ a, intZ zn w a → ∀ k o, a = some ⟨k, o, none⟩ → ¬ S k := fun a f k o e q => by
    obtain ⟨vs, fr, hk⟩ := (f k o e).2
    exact (f k o e).1 (hs k (Array.getElem?_eq_some_iff.1 hk).1 q)
  have up : ∀ a, intZ zn w a → intZ zn w' a := fun a f k o e => by
    obtain ⟨vs, fr, hk⟩ := (f k o e).2
    exact ⟨(f k o e).1, vs, fr, (x.block k (Array.getElem?_eq_some_iff.1 hk).1 (key a f k o e)).trans hk⟩
  exact ⟨⟨a1, c1, a2, c2, (x.block b h.lt hb).trans hh, i1.ext x (key a1 f1), i2.ext x (key a2 f2), up a1 f1, up a2 f2⟩, h.mp.ext x hm, fun k hk => Nat.lt_of_lt_of_le (h.zlt k hk) x.size⟩
theorem new_leaf {Z : World} {xs : List Int} {a1 a2 : Option Addr} {c1 c2 m : Nat} (h1 : Ints Z a1 c1 xs) (h2 : Ints Z a2 c2 xs) (f1 : intZ zn Z a1) (f2 : intZ zn Z a2)
    (hm : Z.heap[m]? = some (.map #[] 0)) (hz : ∀ k, zn k → k < Z.heap.size) : LD zn (Z.alloc (.cells (rowLg (newL xs) a1 c1 a2 c2 m).toArray 172)) Z.heap.size m (newL xs) := by
  have x : Ext Non Z (Z.alloc (.cells (rowLg (newL xs) a1 c1 a2 c2 m).toArray 172)) := (Ext.refl _ _).alloc _
  have hml : m < Z.heap.size := (Array.getElem?_eq_some_iff.1 hm).1
  exact ⟨⟨a1, c1, a2, c2, heap_alloc_new _ _, h1.extN x, h2.extN x, f1.ext x (NoInts.non _), f2.ext x (NoInts.non _)⟩, ⟨#[], 0, (x.block m hml id).trans hm, Go.MapKept.stamped_empty 0, rfl⟩, fun k hk => Nat.lt_of_lt_of_le (hz k hk) x.size⟩
set_option maxHeartbeats 400000 in
theorem ledger_New_ok (a : Option Addr) (cap : Nat) (xs : List Int) (hm : membersB xs = true) (w : World) (h : Ints w a cap xs) (hz : ∀ k, zn k → k < w.heap.size) : Calls Tryz.prog 42 #[.agg #[.int .i64 0, .slice a xs.length cap]] w fun e w' =>
    ∃ b m, e = .returned (.tuple #[.pointer (some ⟨b, 0, none⟩), .int .i64 0]) ∧ Ext Non w w' ∧ LD zn w' b m (newL xs) ∧ w.heap.size ≤ b ∧ w.heap.size ≤ m := by
  have HH := Go.Lib.hid h; clear h; have HZ := Go.Lib.hid hz; clear hz
  have hc : confB 0 xs = true := by unfold confB; rw [hm]; rfl
  have HC := Go.Lib.hid hc
  have hx10 := (members_facts hm).2.2.2
  clear hc hm
  have hmm := @run_makeMap Tryz.prog
  go_enter Tryz.func42, Tryz.ntmps42
  go_wp2_with fail
  refine (council_Right _ _ _ _ _ (HH.out.extN ((Ext.refl _ _).alloc _))).mono ?_
  rintro e w1 ⟨rfl, y⟩
  rw [HC.out]
  have q0 : w1.cell? ⟨w.heap.size, 0, none⟩ = some (.int .i64 0) := (y.cell (p := ⟨w.heap.size, 0, none⟩) (by simp) id).trans (cell_new w [.int .i64 0, .slice a xs.length cap] _ rfl)
  have q1 : w1.cell? ⟨w.heap.size, 1, none⟩ = some (.slice a xs.length cap) := (y.cell (p := ⟨w.heap.size, 1, none⟩) (by simp) id).trans (cell_new w [.int .i64 0, .slice a xs.length cap] _ rfl)
  have Y := Go.Lib.hid (((Ext.refl Non w).alloc (.cells #[.int .i64 0, .slice a xs.length cap] 24)).trans y)
  clear y
  have Y0 := Ext.refl Non w1
  go_wp2_with fail
  have hb8 : xs.length * 8 ≤ 140737488355328 := by omega
  have HB := Go.Lib.hid hb8; clear hb8
  have ks : ∀ w' : World, Ext Non w1 w' → w'.cell? ⟨w.heap.size, 0, none⟩ = some (.int .i64 0) ∧ w'.cell? ⟨w.heap.size, 1, none⟩ = some (.slice a xs.length cap) := fun w' X =>
    ⟨(X.cell (p := ⟨w.heap.size, 0, none⟩) (lt_of_cell q0) id).trans q0, (X.cell (p := ⟨w.heap.size, 1, none⟩) (lt_of_cell q1) id).trans q1⟩
  have KS := Go.Lib.hid ks; clear ks
  go_region_held3 (fun w' => w'.cell? ⟨w.heap.size, 0, none⟩ = some (.int .i64 0) ∧ w'.cell? ⟨w.heap.size, 1, none⟩ = some (.slice a xs.length cap))
    (first | exact KS.out _ (by (first | exact X2 | exact Ext.drew X2 | exact Ext.alloc X2 _ | exact Ext.alloc (Ext.drew X2) _ | exact Ext.drew (Ext.alloc X2 _) | exact Ext.alloc (Ext.alloc X2 _) _ | exact Ext.alloc (Ext.alloc (Ext.drew X2) _) _ | exact Ext.alloc (Ext.drew (Ext.alloc X2 _)) _ | exact Ext.drew (Ext.alloc (Ext.alloc X2 _) _))) | exact KS.out _ (by (first | exact X1 | exact Ext.drew X1 | exact Ext.alloc X1 _ | exact Ext.alloc (Ext.drew X1) _ | exact Ext.drew (Ext.alloc X1 _) | exact Ext.alloc (Ext.alloc X1 _) _ | exact Ext.alloc (Ext.alloc (Ext.drew X1) _) _ | exact Ext.alloc (Ext.drew (Ext.alloc X1 _)) _ | exact Ext.drew (Ext.alloc (Ext.alloc X1 _) _))) | exact KS.out _ (by (first | exact Y0 | exact Ext.drew Y0 | exact Ext.alloc Y0 _ | exact Ext.alloc (Ext.drew Y0) _ | exact Ext.drew (Ext.alloc Y0 _) | exact Ext.alloc (Ext.alloc Y0 _) _ | exact Ext.alloc (Ext.alloc (Ext.drew Y0) _) _ | exact Ext.alloc (Ext.drew (Ext.alloc Y0 _)) _ | exact Ext.drew (Ext.alloc (Ext.alloc Y0 _) _))))
    (first
    | (have := hI1
       go_at_call 87
       refine Calls.mono (slices_Clone a cap xs HB.out _ (HH.out.extN (Y.out.trans (by (first | exact X1 | exact Ext.drew X1 | exact Ext.alloc X1 _ | exact Ext.alloc (Ext.drew X1) _ | exact Ext.drew (Ext.alloc X1 _) | exact Ext.alloc (Ext.alloc X1 _) _ | exact Ext.alloc (Ext.alloc (Ext.drew X1) _) _ | exact Ext.alloc (Ext.drew (Ext.alloc X1 _)) _ | exact Ext.drew (Ext.alloc (Ext.alloc X1 _) _)))))) ?_
       rintro e w3 ⟨a2, cp2, rfl, x2, hI2, hf2⟩
       have X2 : Ext Non w1 w3 := (by (first | exact X1 | exact Ext.drew X1 | exact Ext.alloc X1 _ | exact Ext.alloc (Ext.drew X1) _ | exact Ext.drew (Ext.alloc X1 _) | exact Ext.alloc (Ext.alloc X1 _) _ | exact Ext.alloc (Ext.alloc (Ext.drew X1) _) _ | exact Ext.alloc (Ext.drew (Ext.alloc X1 _)) _ | exact Ext.drew (Ext.alloc (Ext.alloc X1 _) _)) : Ext Non w1 _).trans x2)
    | (go_at_call 87
       refine Calls.mono (slices_Clone a cap xs HB.out _ (HH.out.extN (Y.out.trans (by (first | exact Y0 | exact Ext.drew Y0 | exact Ext.alloc Y0 _ | exact Ext.alloc (Ext.drew Y0) _ | exact Ext.drew (Ext.alloc Y0 _) | exact Ext.alloc (Ext.alloc Y0 _) _ | exact Ext.alloc (Ext.alloc (Ext.drew Y0) _) _ | exact Ext.alloc (Ext.drew (Ext.alloc Y0 _)) _ | exact Ext.drew (Ext.alloc (Ext.alloc Y0 _) _)))))) ?_
       rintro e w2 ⟨a1, cp1, rfl, x1, hI1, hf1⟩
       have X1 : Ext Non w1 w2 := (by (first | exact Y0 | exact Ext.drew Y0 | exact Ext.alloc Y0 _ | exact Ext.alloc (Ext.drew Y0) _ | exact Ext.drew (Ext.alloc Y0 _) | exact Ext.alloc (Ext.alloc Y0 _) _ | exact Ext.alloc (Ext.alloc (Ext.drew Y0) _) _ | exact Ext.alloc (Ext.drew (Ext.alloc Y0 _)) _ | exact Ext.drew (Ext.alloc (Ext.alloc Y0 _) _)) : Ext Non w1 _).trans x1))
  · clear HH HC KS hmm q0 q1
    have ZS1 := (Y.out.trans (by (first | exact Y0 | exact Ext.drew Y0 | exact Ext.alloc Y0 _ | exact Ext.alloc (Ext.drew Y0) _ | exact Ext.drew (Ext.alloc Y0 _) | exact Ext.alloc (Ext.alloc Y0 _) _ | exact Ext.alloc (Ext.alloc (Ext.drew Y0) _) _ | exact Ext.alloc (Ext.drew (Ext.alloc Y0 _)) _ | exact Ext.drew (Ext.alloc (Ext.alloc Y0 _) _)) : Ext Non w1 _)).size; have ZS2 := (Y.out.trans (by (first | exact X1 | exact Ext.drew X1 | exact Ext.alloc X1 _ | exact Ext.alloc (Ext.drew X1) _ | exact Ext.drew (Ext.alloc X1 _) | exact Ext.alloc (Ext.alloc X1 _) _ | exact Ext.alloc (Ext.alloc (Ext.drew X1) _) _ | exact Ext.alloc (Ext.drew (Ext.alloc X1 _)) _ | exact Ext.drew (Ext.alloc (Ext.alloc X1 _) _)) : Ext Non w1 _)).size
    go_wp2
    go_returns
    have e : (w3.alloc (.map #[] 0)).heap.size = w3.heap.size + 1 := by simp
    have L := new_leaf (Z := w3.alloc (.map #[] 0)) (hI1.extN (x2.alloc _)) (hI2.extN ((Ext.refl _ _).alloc _)) ((hf1.typedY (fun k hk => by have := HZ.out k hk; have := ZS1; have := ZS2; first | omega | (simp; omega))).ext (x2.alloc _) (NoInts.non _)) ((hf2.typedY (fun k hk => by have := HZ.out k hk; have := ZS1; have := ZS2; first | omega | (simp; omega))).ext ((Ext.refl _ _).alloc _) (NoInts.non _)) (heap_alloc_new _ _) (fun k hk => by have := HZ.out k hk; have := (Y.out.trans X2).size; simp; omega)
    rw [e] at L
    refine ⟨w3.heap.size + 1, w3.heap.size, rfl, ((Y.out.trans X2).alloc _).alloc _, L, ?_, ?_⟩
    · have := (Y.out.trans X2).size; omega
    · exact (Y.out.trans X2).size
  · clear HH HC KS hmm q0 q1
    have ZS1 := (Y.out.trans (by (first | exact Y0 | exact Ext.drew Y0 | exact Ext.alloc Y0 _ | exact Ext.alloc (Ext.drew Y0) _ | exact Ext.drew (Ext.alloc Y0 _) | exact Ext.alloc (Ext.alloc Y0 _) _ | exact Ext.alloc (Ext.alloc (Ext.drew Y0) _) _ | exact Ext.alloc (Ext.drew (Ext.alloc Y0 _)) _ | exact Ext.drew (Ext.alloc (Ext.alloc Y0 _) _)) : Ext Non w1 _)).size; have ZS2 := (Y.out.trans (by (first | exact X1 | exact Ext.drew X1 | exact Ext.alloc X1 _ | exact Ext.alloc (Ext.drew X1) _ | exact Ext.drew (Ext.alloc X1 _) | exact Ext.alloc (Ext.alloc X1 _) _ | exact Ext.alloc (Ext.alloc (Ext.drew X1) _) _ | exact Ext.alloc (Ext.drew (Ext.alloc X1 _)) _ | exact Ext.drew (Ext.alloc (Ext.alloc X1 _) _)) : Ext Non w1 _)).size
    go_wp2
    go_returns
    have hm : w3.heap[w2.heap.size]? = some (.map #[] 0) := (x2.block w2.heap.size (by simp) id).trans (heap_alloc_new _ _)
    have xa : Ext Non w2 w3 := ((Ext.refl _ _).alloc _).trans x2
    refine ⟨w3.heap.size, w2.heap.size, rfl, (Y.out.trans X2).alloc _, ?_, ?_, ?_⟩
    · exact new_leaf (Z := w3) (hI1.extN xa) hI2 ((hf1.typedY (fun k hk => by have := HZ.out k hk; have := ZS1; have := ZS2; first | omega | (simp; omega))).ext xa (NoInts.non _)) (hf2.typedY (fun k hk => by have := HZ.out k hk; have := ZS1; have := ZS2; first | omega | (simp; omega))) hm (fun k hk => by have := HZ.out k hk; have := (Y.out.trans X2).size; omega)
    · exact (Y.out.trans X2).size
    · exact (Y.out.trans X1).size
  · clear HH HC KS hmm q0 q1
    have ZS1 := (Y.out.trans (by (first | exact Y0 | exact Ext.drew Y0 | exact Ext.alloc Y0 _ | exact Ext.alloc (Ext.drew Y0) _ | exact Ext.drew (Ext.alloc Y0 _) | exact Ext.alloc (Ext.alloc Y0 _) _ | exact Ext.alloc (Ext.alloc (Ext.drew Y0) _) _ | exact Ext.alloc (Ext.drew (Ext.alloc Y0 _)) _ | exact Ext.drew (Ext.alloc (Ext.alloc Y0 _) _)) : Ext Non w1 _)).size; have ZS2 := (Y.out.trans (by (first | exact X1 | exact Ext.drew X1 | exact Ext.alloc X1 _ | exact Ext.alloc (Ext.drew X1) _ | exact Ext.drew (Ext.alloc X1 _) | exact Ext.alloc (Ext.alloc X1 _) _ | exact Ext.alloc (Ext.alloc (Ext.drew X1) _) _ | exact Ext.alloc (Ext.drew (Ext.alloc X1 _)) _ | exact Ext.drew (Ext.alloc (Ext.alloc X1 _) _)) : Ext Non w1 _)).size
    go_wp2
    go_returns
    have hm1 : w2.heap[w1.heap.size]? = some (.map #[] 0) := (x1.block w1.heap.size (by simp) id).trans (heap_alloc_new _ _)
    have hl1 : w1.heap.size < w2.heap.size := (Array.getElem?_eq_some_iff.1 hm1).1
    have hm : w3.heap[w1.heap.size]? = some (.map #[] 0) := (x2.block w1.heap.size hl1 id).trans hm1
    refine ⟨w3.heap.size, w1.heap.size, rfl, (Y.out.trans X2).alloc _, ?_, ?_, ?_⟩
    · exact new_leaf (Z := w3) (hI1.extN x2) hI2 ((hf1.typedY (fun k hk => by have := HZ.out k hk; have := ZS1; have := ZS2; first | omega | (simp; omega))).ext x2 (NoInts.non _)) (hf2.typedY (fun k hk => by have := HZ.out k hk; have := ZS1; have := ZS2; first | omega | (simp; omega))) hm (fun k hk => by have := HZ.out k hk; have := (Y.out.trans X2).size; omega)
    · exact (Y.out.trans X2).size
    · exact Y.out.size
/-- A ledger in which a cell of its block was written, which makes it another one. -/
theorem LD.set {w w' : World} {b m : Nat} {g g' : Lg} (h : LD zn w b m g) (x : Ext (One b) w w') {a1 : Option Addr} {c1 : Nat} {a2 : Option Addr} {c2 : Nat} (r : LRow w' b m g' a1 c1 a2 c2)
    (i1 : Ints w a1 c1 g'.mem) (i2 : Ints w a2 c2 g'.next) (f1 : intZ zn w a1) (f2 : intZ zn w a2) (hk : g'.keys = g.keys) : LD zn w' b m g' := by
  have ns : NoInts (One b) w := fun k s => h.noInts k (.inl s)
  refine ⟨⟨a1, c1, a2, c2, r, i1.extT f1 x ns, i2.extT f2 x ns, f1.ext x ns, f2.ext x ns⟩, ?_, fun k hk => Nat.lt_of_lt_of_le (h.zlt k hk) x.size⟩
  rw [hk]
  exact h.mp.ext x (fun s => h.ne s.symm)
theorem ledger_Full (b m : Nat) (g : Lg) (I : Inv g) (w : World) (h : LD zn w b m g) : Calls Tryz.prog 322 #[.pointer (some ⟨b, 0, none⟩)] w fun e w' => e = .returned (.bool (fullB g)) ∧ ∃ n, w' = w.drewN n := by
  obtain ⟨a1, c1, a2, c2, r, _⟩ := h.ex
  have q0 : w.cell? ⟨b, 0, none⟩ = some (.int .i64 g.epoch) := cell_of_heap r rfl
  have q3 : w.cell? ⟨b, 3, none⟩ = some (.int .i64 g.done) := cell_of_heap r rfl
  have HF := Go.Lib.hid (show fullB g = decide (g.done = (g.epoch + 1) * 4) from rfl)
  have he := I.ep
  have w1 : IntKind.i64.wrap (g.epoch + 1) = g.epoch + 1 := IntWalk.i64_in _ (by omega)
  have w2 : IntKind.i64.wrap ((g.epoch + 1) * 4) = (g.epoch + 1) * 4 := IntWalk.i64_in _ (by omega)
  clear r he I h
  go_enter Tryz.func322, Tryz.ntmps322
  go_wp2_with fail
  go_quiet (fail)
  go_wp2
  go_ret
  exact ⟨ret_bool (by rw [HF.out]; rfl), _, rfl⟩
end Go.Proofs.YtflpkoafebjfdaaGreat.Y
