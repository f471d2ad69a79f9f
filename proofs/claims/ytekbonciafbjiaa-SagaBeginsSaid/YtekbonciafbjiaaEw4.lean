/- Rows that a call owns, in worlds that grow: an append of one element; ranges; stores into the midst of a block. -/
import Derived.Test.YtekbonciafbjiaaEw3
namespace Go.Proofs.Ytekbonciafbjiaa
open Go.RowKit
set_option linter.unusedVariables false

theorem ownR_ext {S : Nat → Prop} {w w' : World} {base : Nat} {e : TypeId} {size : Nat} {v : Value} {n : Nat} {xs : List Value} (h : w.ownsRow base e size v n xs) (x : Ext S w w') (hs : ∀ k, v.ownBlock = some k → ¬ S k) : w'.ownsRow base e size v n xs := by
  refine ⟨h.1, ?_⟩
  rcases h.2 with hn | ⟨g, cap, cur, rfl, hb, hg, r⟩
  · exact .inl hn
  · exact .inr ⟨g, cap, cur, rfl, hb, (x.block g (Array.getElem?_eq_some_iff.1 hg).1 (hs g rfl)).trans hg, r⟩
theorem ownR_extN {w w' : World} {base : Nat} {e : TypeId} {size : Nat} {v : Value} {n : Nat} {xs : List Value} (h : w.ownsRow base e size v n xs) (x : Ext Non w w') : w'.ownsRow base e size v n xs := ownR_ext h x fun _ _ f => f
theorem ownR_base {w : World} {base base' : Nat} {e : TypeId} {size : Nat} {v : Value} {n : Nat} {xs : List Value} (h : w.ownsRow base e size v n xs) (hb : base' ≤ base) : w.ownsRow base' e size v n xs :=
  ⟨h.1, h.2.imp id fun ⟨g, cap, cur, e, hg, r⟩ => ⟨g, cap, cur, e, Nat.le_trans hb hg, r⟩⟩
/-- 'append(s, x)' of one element that lies in a block of its own. -/
theorem wpList_append_ew {P : Program} {ops : Array Oper} {rest : List Oper} {o : Oper} {a : Act} {w : World} {Q : Exit → Act → World → Prop} (hgd : o.guard = none) (s x : Operand) (t : TypeId)
    (ho : o.op = .call { callee := .builtin .append, args := #[s, x], argTypes := #[t, t] })
    (base : Nat) (e : TypeId) (size bytes : Nat) (z : Value) (ht : P.underlying t = some (.slice e)) (hi : (P.info? e).map (fun i => (i.zero, i.size, i.bytes)) = some (some z, size, bytes)) (hzs : z.cells.size = size) (hsz : 0 < size) (hbs : bytes ≤ 1000)
    (v : Value) (n : Nat) (xs : List Value) (hs : a.eval s = v) (hown : w.ownsRow base e size v n xs)
    (k : Nat) (news : List Value) (t' : TypeId) (hx : a.eval x = .slice (some ⟨k, 0, none⟩) 1 1) (hB : Bx w k news t') (hl : news.length = size) (h1 : ∀ u ∈ news, u.oneCell' = true)
    (hn : n ≤ 1000000) (hbase : base ≤ w.heap.size)
    (h : ∀ (v' : Value) (W : EW (From base) w), W.on.ownsRow base e size v' (n + 1) (xs ++ news) → wpList P ops Q rest (a.put o.dst v') W.on) : wpList P ops Q (o :: rest) a w := by
  obtain ⟨i, hi0, hi1, hi2, hi3⟩ := info_parts hi
  refine wpList_append_own _ hgd s x t ho base e i z size bytes ht hi0 hi1 hi2 hi3 hzs hsz v n xs hs hown ⟨k, 0, none⟩ 1 1 news hx (by omega) (fun j u hu => ?_) h1 (by unfold maxLen; omega) ?_ hbase ?_
  · rw [addr_add, Nat.zero_add]; exact hB.cell hu
  · have : (n + 1) * bytes ≤ (n + 1) * 1000 := Nat.mul_le_mul_left _ hbs
    omega
  · intro v' w' ho' hg _
    exact h v' ⟨w', Ext.ofGrown hg fun q hq => .inl (hown.lt q hq).1⟩ ho'
theorem ownR_some {w : World} {base : Nat} {e : TypeId} {size : Nat} {v : Value} {n : Nat} {xs : List Value} (h : w.ownsRow base e size v (n + 1) xs) : ∃ g cap, v = .slice (some ⟨g, 0, none⟩) (n + 1) cap ∧ base ≤ g := by
  rcases h.2 with ⟨_, hn⟩ | ⟨g, cap, cur, rfl, hb, _⟩
  · omega
  · exact ⟨g, cap, rfl, hb⟩
/-- 'make([]T, 0, n)'. -/
theorem wpList_make_ew {P : Program} {ops : Array Oper} {rest : List Oper} {o : Oper} {a : Act} {w : World} {Q : Exit → Act → World → Prop} (hg : o.guard = none) (l c : Operand) (t : TypeId) (hop : o.op = Op.makeSlice t l c)
    (e : TypeId) (size bytes : Nat) (z : Value) (ht : P.underlying t = some (.slice e)) (hi : (P.info? e).map (fun i => (i.zero, i.size, i.bytes)) = some (some z, size, bytes)) (hbs : bytes ≤ 1000)
    (n : Nat) (hl : a.eval l = .int .i64 0) (hc : a.eval c = .int .i64 (n : Int)) (hn : n ≤ 1000000)
    (h : ∀ W : EW Non w, W.on.ownsRow w.heap.size e size (.slice (some ⟨w.heap.size, 0, none⟩) 0 n) 0 [] → wpList P ops Q rest (a.put o.dst (.slice (some ⟨w.heap.size, 0, none⟩) 0 n)) W.on) : wpList P ops Q (o :: rest) a w := by
  obtain ⟨i, hi0, hi1, hi2, hi3⟩ := info_parts hi
  refine wpList_make_own w hg l c t hop w.heap.size e i z size ht hi0 hi1 hi2 .i64 .i64 n n hl hc rfl ?_ (by unfold maxLen; omega) (Nat.le_refl _) ?_
  · rw [hi3]
    have : bytes * n ≤ 1000 * n := Nat.mul_le_mul_right _ hbs
    omega
  · intro w' ho hgr
    exact h ⟨w', Ext.ofGrown hgr (fun k hk => by cases hk)⟩ ho
theorem range_ext {S : Nat → Prop} {w w' : World} {b o : Nat} {cs : List Value} (h : w.rangeAt b o cs) (x : Ext S w w') (hs : ¬ S b) : w'.rangeAt b o cs := fun j v hv => by
  have := h j v hv
  exact (x.cell (p := ⟨b, o + j, none⟩) (lt_of_cell this) hs).trans this
theorem there_ext {S : Nat → Prop} {w w' : World} {b o n : Nat} (h : w.there b o n) (x : Ext S w w') (hs : ¬ S b) : w'.there b o n := fun j hj => by
  obtain ⟨h1, h2⟩ := h j hj
  obtain ⟨u, hu⟩ := Option.isSome_iff_exists.1 h1
  have hb := lt_of_cell hu
  exact ⟨by rw [x.cell (p := ⟨b, o + j, none⟩) hb hs]; exact h1, by rw [x.froz (p := ⟨b, o + j, none⟩) hb hs]; exact h2⟩
theorem there_sub {w : World} {b o n o' n' : Nat} (h : w.there b o n) (h1 : o ≤ o') (h2 : o' + n' ≤ o + n) : w.there b o' n' := fun j hj => by
  have := h (o' - o + j) (by omega)
  rwa [show o + (o' - o + j) = o' + j by omega] at this
/-- A store of a whole struct into the midst of a block. -/
theorem wpList_store_at {P : Program} {ops : Array Oper} {rest : List Oper} {op : Oper} {a : Act} {w : World} {Q : Exit → Act → World → Prop} (hgd : op.guard = none) (ty : TypeId) (x y : Operand) (ho : op.op = .store ty x y)
    (k off : Nat) (vs' : List Value) (hx : a.eval x = .pointer (some ⟨k, off, none⟩)) (hy : a.eval y = .agg vs'.toArray) (hT : w.there k off vs'.length)
    (hi : (P.info? ty).map (·.size) = some vs'.length) (h1 : ∀ v ∈ vs', v.oneCell' = true)
    (h : ∀ W : EW (One k) w, W.on.rangeAt k off vs' → (∀ o' cs, o' + cs.length ≤ off ∨ off + vs'.length ≤ o' → w.rangeAt k o' cs → W.on.rangeAt k o' cs) → (∀ o' n, w.there k o' n → W.on.there k o' n) → wpList P ops Q rest (a.put op.dst undef) W.on) : wpList P ops Q (op :: rest) a w :=
  wpList_store_mid hgd ty x y ho k off vs'.toArray hx hy (by simpa using hT) (by simpa using hi) (all_oneCell_toArray h1)
    (h ⟨w.setCells k off vs', Ext.setCells (.inl (one_self k)) vs' off w (Ext.refl _ _)⟩ (World.rangeAt_setCells_same w k off vs' hT)
      (fun o' cs hap hr => World.rangeAt_setCells_apart hr k off vs' (.inr hap)) (fun o' n ht => World.there_setCells ht k off vs'))
end Go.Proofs.Ytekbonciafbjiaa
