/- Joined texts: Ew5. What each proves stands at its head; no conditions beside those in its theorems. -/
import Derived.Maps.AppendAt
import Derived.Test.YtakbkpklfihfiaaPjAQ
/- Footprints: an append writes its own row alone, or a new block. -/
namespace Go.Proofs.Ytakbkpklfihfiaa
open Go.RowKit
set_option linter.unusedVariables false

/-- The block of a row. -/
def Row (v : Value) : Nat → Prop := fun k => v.ownBlock = some k
theorem Bx.drew {w : World} {k : Nat} {vs : List Value} {t : TypeId} (h : Bx w k vs t) : Bx w.drew k vs t := ⟨h.h⟩
/-- 'append(s, x)' of one element that lies in a block of its own: the row's block alone is written. -/
theorem wpList_append_row {P : Program} {ops : Array Oper} {rest : List Oper} {o : Oper} {a : Act} {w : World} {Q : Exit → Act → World → Prop} (hgd : o.guard = none) (s x : Operand) (t : TypeId)
    (ho : o.op = .call { callee := .builtin .append, args := #[s, x], argTypes := #[t, t] })
    (base : Nat) (e : TypeId) (size bytes : Nat) (z : Value) (ht : P.underlying t = some (.slice e)) (hi : (P.info? e).map (fun i => (i.zero, i.size, i.bytes)) = some (some z, size, bytes)) (hzs : z.cells.size = size) (hsz : 0 < size) (hbs : bytes ≤ 1000)
    (v : Value) (n : Nat) (xs : List Value) (hs : a.eval s = v) (hown : w.ownsRow base e size v n xs)
    (k : Nat) (news : List Value) (t' : TypeId) (hx : a.eval x = .slice (some ⟨k, 0, none⟩) 1 1) (hB : Bx w k news t') (hl : news.length = size) (h1 : ∀ u ∈ news, u.oneCell' = true)
    (hn : n ≤ 1000000) (hbase : base ≤ w.heap.size)
    (h : ∀ (v' : Value) (W : EW (Row v) w), W.on.ownsRow base e size v' (n + 1) (xs ++ news) → (∀ k, Row v' k → Row v k ∨ w.heap.size ≤ k) → wpList P ops Q rest (a.put o.dst v') W.on) : wpList P ops Q (o :: rest) a w := by
  obtain ⟨i, hi0, hi1, hi2, hi3⟩ := info_parts hi
  refine wpList_append_own_at w hgd s x t ho base e i z size bytes ht hi0 hi1 hi2 hi3 hzs hsz v n xs hs hown ⟨k, 0, none⟩ 1 1 news hx (by omega) (fun j u hu => ?_) h1 (by unfold maxLen; omega) ?_ hbase ?_
  · rw [addr_add, Nat.zero_add]; exact hB.cell hu
  · have : (n + 1) * bytes ≤ (n + 1) * 1000 := Nat.mul_le_mul_left _ hbs
    omega
  · intro v' w' ho' hg _ hv
    refine h v' ⟨w', Ext.ofGrown hg fun q hq => .inl hq⟩ ho' (fun k hk => ?_)
    unfold Row at *
    rcases hv with hv | hv
    · left; rw [← hv]; exact hk
    · right; rw [hv] at hk; injection hk with hk; omega
theorem own_row {w : World} {base : Nat} {e : TypeId} {size : Nat} {v : Value} {n : Nat} {xs : List Value} (h : w.ownsRow base e size v n xs) : ∀ k, Row v k → base ≤ k ∧ k < w.heap.size := fun k hk => h.lt k hk
end Go.Proofs.Ytakbkpklfihfiaa
