/- Joined texts: R12a, RelA. What each proves stands at its head; no conditions beside those in its theorems. -/
import Derived.Laws.CopyOwn
import Derived.Deep.OwnRows
import Derived.Deep.RegionLaw
import Derived.Test.YtakbkpklfihfiaaPjAE
import Derived.Test.YtakbkpklfihfiaaPjAJ
import Derived.Test.YtakbkpklfihfiaaPjAT
/- The reference of layer 12 in memory: its ledger; New, Full, Turn. -/
namespace Go.Proofs.Ytakbkpklfihfiaa
open Go.RowKit Go.Lib F64
set_option linter.unusedSimpArgs false
set_option linter.unusedVariables false
attribute [local go_sem] run_store_float
attribute [local go_sem low] EW.cellN EW.frozN alloc_cell_or alloc_froz_or EW.cellF EW.frozF EW.cell1 EW.froz1
attribute [local go_sem] relAt relUpon
/-- A row of ints that does not lie in block n. -/
def avT (n : Nat) (w : World) (a : Option Addr) : Prop := ∀ k o, a = some ⟨k, o, none⟩ → k ≠ n ∧ ∃ vs fr, w.heap[k]? = some (.cells vs 3 fr)
theorem avT.extN {n : Nat} {w w' : World} {a : Option Addr} (h : avT n w a) (x : Ext Non w w') : avT n w' a := fun k o e => by
  obtain ⟨h1, vs, fr, h2⟩ := h k o e
  exact ⟨h1, vs, fr, (x.block k (Array.getElem?_eq_some_iff.1 h2).1 (fun f => f)).trans h2⟩
theorem eval_tmp (a : Act) (n : Nat) : a.eval (.tmp n) = a.tmps[n]?.getD undef := by simp [Act.eval]
end Go.Proofs.Ytakbkpklfihfiaa

/- Regions with a call that writes and an append: what the append's operation yields; predicates of values. -/
namespace Go.Proofs.Ytakbkpklfihfiaa
open Go.RowKit
set_option linter.unusedVariables false
theorem rel_append_row {P : Program} {o : Oper} {a : Act} {w : World} {R : Value → World → Prop} (s x : Operand) (t : TypeId) (ho : o.op = .call { callee := .builtin .append, args := #[s, x], argTypes := #[t, t] })
    (base : Nat) (e : TypeId) (size bytes : Nat) (z : Value) (ht : P.underlying t = some (.slice e)) (hi : (P.info? e).map (fun i => (i.zero, i.size, i.bytes)) = some (some z, size, bytes)) (hzs : z.cells.size = size) (hsz : 0 < size) (hbs : bytes ≤ 1000)
    (v : Value) (n : Nat) (xs : List Value) (hs : a.eval s = v) (hown : w.ownsRow base e size v n xs)
    (k : Nat) (news : List Value) (t' : TypeId) (hx : a.eval x = .slice (some ⟨k, 0, none⟩) 1 1) (hB : Bx w k news t') (hl : news.length = size) (h1 : ∀ u ∈ news, u.oneCell' = true)
    (hn : n ≤ 1000000) (hbase : base ≤ w.heap.size)
    (h : ∀ (v' : Value) w', Ext (Row v) w w' → w'.ownsRow base e size v' (n + 1) (xs ++ news) → (∀ k, Row v' k → Row v k ∨ w.heap.size ≤ k) → R v' w') : relAtT P (Row v) o a w R := by
  obtain ⟨i, hi0, hi1, hi2, hi3⟩ := info_parts hi
  have hb1 : (n + 1) * bytes ≤ (n + 1) * 1000 := Nat.mul_le_mul_left _ hbs
  obtain ⟨v', w', hr, h2, h3, -, hv⟩ := run_append_own_at (P := P) (w := w) base t o.type e i z size bytes ht hi0 hi1 hi2 hi3 hzs hsz v n xs hown ⟨k, 0, none⟩ 1 1 news (by omega) (fun j u hu => by rw [addr_add, Nat.zero_add]; exact hB.cell hu) h1 (by unfold maxLen; omega) (by omega) hbase
  have hx3 : Ext (Row v) w w' := Ext.ofGrown h3 fun q hq => .inl hq
  unfold relAtT execOp
  simp only [ho, resolve, invoke, builtin, Sem.run_bind, Sem.run_pure, Result.andThen_ok, List.map_toArray, List.map_cons, List.map_nil, hs, hx, hr]
  refine ⟨hx3, h _ _ hx3 h2 (fun j hj => ?_)⟩
  unfold Row at *
  rcases hv with hv | hv
  · left; rw [← hv]; exact hj
  · right; rw [hv] at hj; injection hj with hj; omega
/-- A new block that holds one element. -/
def moOne (n : Nat) (news : List Value) (t : TypeId) : Mo := ⟨fun v w => ∃ k, v = .slice (some ⟨k, 0, none⟩) 1 1 ∧ n ≤ k ∧ Bx w k news t, fun _ _ _ x ⟨k, e, hn, h⟩ => ⟨k, e, hn, h.extN x⟩⟩
theorem moOne_still {S : Nat → Prop} {n : Nat} {news : List Value} {t : TypeId} (hS : ∀ k, S k → k < n) : (moOne n news t).Still S := fun _ _ _ x ⟨k, e, hn, h⟩ => ⟨k, e, hn, h.ext x (fun q => by have := hS k q; omega)⟩
/-- A row that grew. -/
def moRow (v0 : Value) (n0 base : Nat) (e : TypeId) (size n : Nat) (xs : List Value) : Mo := ⟨fun v w => ∃ u, v = u ∧ w.ownsRow base e size u n xs ∧ ∀ k, Row u k → Row v0 k ∨ n0 ≤ k, fun _ _ _ x ⟨u, q0, h, q⟩ => ⟨u, q0, ownR_extN h x, q⟩⟩
theorem row_slice {w : World} {base : Nat} {e : TypeId} {k : Nat} {v : Value} {n : Nat} {xs : List Value} (h : w.ownsRow base e k v n xs) : ∃ a cap, v = .slice a n cap := by
  rcases h.2 with ⟨rfl, rfl⟩ | ⟨q, cap, cur, rfl, -⟩
  · exact ⟨none, 0, rfl⟩
  · exact ⟨_, _, rfl⟩
/-- A plain value, and a state that the call leaves. -/
def moSt (v0 : Value) (p : World → Prop) (hp : ∀ w w', Ext Non w w' → p w → p w') : Mo := ⟨fun v w => v = v0 ∧ p w, fun _ _ _ x ⟨e, h⟩ => ⟨e, hp _ _ x h⟩⟩
theorem moSt_still {S : Nat → Prop} {v0 : Value} {p : World → Prop} {hp : ∀ w w', Ext Non w w' → p w → p w'} (h : ∀ w w', Ext S w w' → p w → p w') : (moSt v0 p hp).Still S := fun _ _ _ x ⟨e, q⟩ => ⟨e, h _ _ x q⟩
end Go.Proofs.Ytakbkpklfihfiaa
