/- Joined texts: RelR. What each proves stands at its head; no conditions beside those in its theorems. -/
import Derived.Great.BuildSlice
import Derived.Laws.CopyOwn
import Derived.Deep.OwnRows
import Derived.Deep.RegionLaw
import Derived.Test.YtflpkoafebjfdaaGreatPjAW
import Derived.Test.YtflpkoafebjfdaaGreatPjBB
/- Regions that draw their order: loads of rows that are not told cell by cell, structs built of them, a slice of one. -/
namespace Go.Proofs.YtflpkoafebjfdaaGreat
open Go.RowKit
set_option linter.unusedVariables false
theorem rel_load_row {P : Program} {o : Oper} {a : Act} {w : World} {R : Value → World → Prop} (ty : TypeId) (x : Operand) (ho : o.op = .load ty x) (k off : Nat) (hx : a.eval x = .pointer (some ⟨k, off, none⟩)) (cs : List Value) (d : TypeDesc) (hc : w.rangeAt k off cs)
    (hu : P.underlying ty = some d) (hd : d.isRow = true) (hi : (P.info? ty).map (·.size) = some cs.length) (h : R (.agg cs.toArray) w) : relAt P o a w R := by
  unfold relAt execOp
  simp only [ho, hx, Instr.loadAt, Instr.sureAddr, Sem.run_bind, Sem.run_pure, Result.andThen_ok, run_loadVar_mid w k off ty cs d hc hu hd hi]
  exact ⟨Ext.refl _ _, h⟩
theorem rel_build_is {P : Program} {o : Oper} {a : Act} {w : World} {R : Value → World → Prop} (t : TypeId) (parts : Array (Nat × Operand)) (ho : o.op = .build t parts) (c : Array Value)
    (hb : P.built t (parts.map fun (i, x) => (i, a.eval x)).toList = some c) (h : R (.agg c) w) : relAt P o a w R := by
  unfold relAt execOp
  simp only [ho, Sem.run_bind, run_build w t _ c hb, Result.andThen_ok]
  exact ⟨Ext.refl _ _, h⟩
theorem rel_slice_one {P : Program} {o : Oper} {a : Act} {w : World} {R : Value → World → Prop} (t e : TypeId) (x : Operand) (ho : o.op = .buildSlice t 1 #[(0, x)]) (c : List Value) (size : Nat) (z : Value) (hx : a.eval x = .agg c.toArray) (hu : P.underlying t = some (.slice e))
    (hi : (P.info? e).map (fun i => (i.zero, i.size)) = some (some z, size)) (hs : 0 < size) (hs2 : size ≤ 16777216) (hf : Instr.fill (fun i => some (i * size, size)) ((Array.range (1 * size)).map (z.cells[· % z.cells.size]!)) [(0, .agg c.toArray)] = some c.toArray)
    (h : ∀ k w', k = w.heap.size → Ext Non w w' → Bx w' k c e → R (.slice (some ⟨k, 0, none⟩) 1 1) w') : relAt P o a w R := by
  cases hie : P.info? e with
  | none => rw [hie] at hi; simp at hi
  | some ie =>
    rw [hie] at hi
    simp only [Option.map_some, Option.some.injEq, Prod.mk.injEq] at hi
    obtain ⟨hz, hsz⟩ := hi
    subst hsz
    have hr := run_buildSlice (P := P) w t e 1 #[(0, .agg c.toArray)] c.toArray ie z hu hie hz (by omega) (by omega) hf
    unfold relAt execOp
    simp only [ho, Sem.run_bind, Sem.run_pure, List.map_toArray, List.map_cons, List.map_nil, hx, hr, Result.andThen_ok]
    exact ⟨(Ext.refl _ _).alloc _, h _ _ rfl ((Ext.refl _ _).alloc _) (Bx.new w c e)⟩
/-- A row; or an empty one without room, wherever it points. -/
def RowZ (w : World) (e : TypeId) (size : Nat) (v : Value) (n : Nat) (xs : List Value) : Prop := w.ownsRow 0 e size v n xs ∨ (n = 0 ∧ xs = [] ∧ ∃ a, v = .slice (some a) 0 0)
theorem RowZ.extN {w w' : World} {e : TypeId} {size : Nat} {v : Value} {n : Nat} {xs : List Value} (h : RowZ w e size v n xs) (x : Ext Non w w') : RowZ w' e size v n xs := h.imp (fun q => ownR_extN q x) id
theorem run_append_z {P : Program} {w : World} (t ty e : TypeId) (i : TypeInfo) (z : Value) (size bytes : Nat) (ht : P.underlying t = some (.slice e)) (hi : P.info? e = some i) (hz : i.zero = some z)
    (hsize : i.size = size) (hby : i.bytes = bytes) (hzs : z.cells.size = size) (hsz : 0 < size) (v : Value) (n : Nat) (xs : List Value) (hown : RowZ w e size v n xs)
    (k : Nat) (news : List Value) (t' : TypeId) (hB : Bx w k news t') (hl : news.length = size) (h1 : ∀ u ∈ news, u.oneCell' = true) (hn : n ≤ 1000000) (hbs : bytes ≤ 1000) :
    ∃ v' w', (Builtin.append_ #[t, t] ty #[v, .slice (some ⟨k, 0, none⟩) 1 1]).run P w = .ok v' w' ∧ w'.ownsRow 0 e size v' (n + 1) (xs ++ news) ∧ w.grownBy w' v.ownBlock ∧ (v'.ownBlock = v.ownBlock ∨ v'.ownBlock = some w.heap.size) := by
  have hb1 : (n + 1) * bytes ≤ (n + 1) * 1000 := Nat.mul_le_mul_left _ hbs
  have hcell : ∀ j u, news[j]? = some u → w.cell? ((⟨k, 0, none⟩ : Addr).add j) = some u := fun j u hu => by rw [addr_add, Nat.zero_add]; exact hB.cell hu
  rcases hown with hown | ⟨rfl, rfl, p, rfl⟩
  · obtain ⟨v', w', hr, h2, h3, -, hv⟩ := run_append_own_at (P := P) (w := w) 0 t ty e i z size bytes ht hi hz hsize hby hzs hsz v n xs hown ⟨k, 0, none⟩ 1 1 news (by omega) hcell h1 (by unfold maxLen; omega) (by omega) (Nat.zero_le _)
    exact ⟨v', w', hr, h2, h3, hv⟩
  · subst hsize
    subst hby
    have hr := run_append_grow (P := P) (w := w) t ty e i z ht hi hz p 0 0 [] (by simp) (by simp) ⟨k, 0, none⟩ 1 1 news (by omega) hcell (by omega) (by omega) (growslice_fits (by omega) (by omega))
    have hge := grownCap_ge w (0 + 1) 0 e
    have hcm : grownCap w (0 + 1) 0 e ≤ maxLen := grownCap_le_maxLen w (0 + 1) 0 e (by unfold maxLen; omega)
    refine ⟨_, _, hr, ⟨by simp; omega, .inr ⟨w.heap.size, _, _, rfl, Nat.zero_le _, heap_alloc_new w.drew _, hge, hcm, ?_, ?_⟩⟩, ⟨rfl, rfl, rfl, by simp, fun k hk _ => Below.heap_alloc _ _ _ hk⟩, .inr rfl⟩
    · simp only [Array.size_append, List.size_toArray, size_zeroCells, hzs, List.length_nil, hl]
      have : grownCap w (0 + 1) 0 e * i.size = 1 * i.size + (grownCap w (0 + 1) 0 e - (0 + 1)) * i.size := by rw [← Nat.add_mul]; congr 1; omega
      omega
    · simp only [Array.toList_append, List.append_assoc, List.nil_append]
      rw [show (0 + 1) * i.size = news.length by omega]
      exact List.take_left
theorem rel_append_z {P : Program} {o : Oper} {a : Act} {w : World} {R : Value → World → Prop} (s x : Operand) (t : TypeId) (ho : o.op = .call { callee := .builtin .append, args := #[s, x], argTypes := #[t, t] })
    (e : TypeId) (size bytes : Nat) (z : Value) (ht : P.underlying t = some (.slice e)) (hi : (P.info? e).map (fun i => (i.zero, i.size, i.bytes)) = some (some z, size, bytes)) (hzs : z.cells.size = size) (hsz : 0 < size) (hbs : bytes ≤ 1000)
    (v : Value) (n : Nat) (xs : List Value) (hs : a.eval s = v) (hown : RowZ w e size v n xs)
    (k : Nat) (news : List Value) (t' : TypeId) (hx : a.eval x = .slice (some ⟨k, 0, none⟩) 1 1) (hB : Bx w k news t') (hl : news.length = size) (h1 : ∀ u ∈ news, u.oneCell' = true)
    (hn : n ≤ 1000000)
    (h : ∀ (v' : Value) w', Ext (Row v) w w' → w'.ownsRow 0 e size v' (n + 1) (xs ++ news) → (∀ k, Row v' k → Row v k ∨ w.heap.size ≤ k) → R v' w') : relAtT P (Row v) o a w R := by
  obtain ⟨i, hi0, hi1, hi2, hi3⟩ := info_parts hi
  obtain ⟨v', w', hr, h2, h3, hv⟩ := run_append_z (P := P) (w := w) t o.type e i z size bytes ht hi0 hi1 hi2 hi3 hzs hsz v n xs hown k news t' hB hl h1 hn hbs
  have hx3 : Ext (Row v) w w' := Ext.ofGrown h3 fun q hq => .inl hq
  unfold relAtT execOp
  simp only [ho, resolve, invoke, builtin, Sem.run_bind, Sem.run_pure, Result.andThen_ok, List.map_toArray, List.map_cons, List.map_nil, hs, hx, hr]
  refine ⟨hx3, h _ _ hx3 h2 (fun j hj => ?_)⟩
  unfold Row at *
  rcases hv with hv | hv
  · left; rw [← hv]; exact hj
  · right; rw [hv] at hj; injection hj with hj; omega
end Go.Proofs.YtflpkoafebjfdaaGreat
