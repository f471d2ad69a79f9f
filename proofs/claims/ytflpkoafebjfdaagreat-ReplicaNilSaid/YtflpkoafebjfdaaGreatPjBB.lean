/- Joined texts: R12a, RelA, RdG. What each proves stands at its head; no conditions beside those in its theorems. -/
import Derived.Laws.CopyOwn
import Derived.Deep.OwnRows
import Derived.Deep.RegionLaw
import Derived.Test.YtflpkoafebjfdaaGreatPjAF
import Derived.Test.YtflpkoafebjfdaaGreatPjAK
import Derived.Test.YtflpkoafebjfdaaGreatPjAU
/- The reference of layer 12 in memory: its ledger; New, Full, Turn. -/
namespace Go.Proofs.YtflpkoafebjfdaaGreat
open Go.RowKit Go.Lib F64
set_option linter.unusedSimpArgs false
set_option linter.unusedVariables false
attribute [local go_sem] run_store_float
attribute [local go_sem low] EW.cellN EW.frozN alloc_cell_or alloc_froz_or EW.cellF EW.frozF EW.cell1 EW.froz1
attribute [local go_sem] relAt relUpon
def itC (p : ByteArray × Nat) : List Value := [.string p.1, .int .u64 p.2]
def stRow (cl : Nat → Cl) : List Value := [.int .i64 0, .int .i64 (cl 0).stamp, .int .i64 (cl 1).stamp, .int .i64 (cl 2).stamp, .int .i64 (cl 3).stamp, .int .i64 (cl 4).stamp, .int .i64 (cl 5).stamp, .int .i64 (cl 6).stamp, .int .i64 (cl 7).stamp]
def rsRow (cl : Nat → Cl) : List Value := [.int .i64 0, .float .f64 0, .int .i64 (cl 0).code, .float .f64 (cl 0).real, .int .i64 (cl 1).code, .float .f64 (cl 1).real, .int .i64 (cl 2).code, .float .f64 (cl 2).real, .int .i64 (cl 3).code, .float .f64 (cl 3).real, .int .i64 (cl 4).code, .float .f64 (cl 4).real, .int .i64 (cl 5).code, .float .f64 (cl 5).real, .int .i64 (cl 6).code, .float .f64 (cl 6).real, .int .i64 (cl 7).code, .float .f64 (cl 7).real]
/-- A row of ints that does not lie in block n. -/
def avT (n : Nat) (w : World) (a : Option Addr) : Prop := ∀ k o, a = some ⟨k, o, none⟩ → k ≠ n ∧ ∃ vs fr, w.heap[k]? = some (.cells vs 3 fr)
theorem avT.extN {n : Nat} {w w' : World} {a : Option Addr} (h : avT n w a) (x : Ext Non w w') : avT n w' a := fun k o e => by
  obtain ⟨h1, vs, fr, h2⟩ := h k o e
  exact ⟨h1, vs, fr, (x.block k (Array.getElem?_eq_some_iff.1 h2).1 (fun f => f)).trans h2⟩
def lrow (g : Lg) (a1 : Option Addr) (c1 : Nat) (a2 : Option Addr) (c2 : Nat) (v : Value) (sb rb : Nat) : List Value := [.int .i64 g.epoch, .slice a1 g.mem.length c1, .slice a2 g.next.length c2, .int .i64 g.done, v, .slice (some ⟨sb, 0, none⟩) 9 9, .slice (some ⟨rb, 0, none⟩) 9 9]
/-- A ledger of the reference that stands for g: its box b, its stamps' block, its results' block. -/
structure RL (w : World) (b sb rb : Nat) (g : Lg) : Prop where
  ex : ∃ a1 c1 a2 c2 v, Bx w b (lrow g a1 c1 a2 c2 v sb rb) 146 ∧ Ints w a1 c1 g.mem ∧ Ints w a2 c2 g.next ∧ avT sb w a1 ∧ avT sb w a2 ∧ w.ownsRow 0 156 2 v g.keys.length ((sortK g.keys).flatMap itC)
  st : Bx w sb (stRow g.cl) 3
  rs : Bx w rb (rsRow g.cl) 39
  nd : NdK g.keys
theorem RL.extN {w w' : World} {b sb rb : Nat} {g : Lg} (h : RL w b sb rb g) (x : Ext Non w w') : RL w' b sb rb g := by
  obtain ⟨a1, c1, a2, c2, v, h1, h2, h3, h4, h5, h6⟩ := h.ex
  exact ⟨⟨a1, c1, a2, c2, v, h1.extN x, h2.extN x, h3.extN x, h4.extN x, h5.extN x, ownR_extN h6 x⟩, h.st.extN x, h.rs.extN x, h.nd⟩
theorem RL.lt {w : World} {b sb rb : Nat} {g : Lg} (h : RL w b sb rb g) : b < w.heap.size ∧ sb < w.heap.size ∧ rb < w.heap.size := by
  obtain ⟨a1, c1, a2, c2, v, h1, -⟩ := h.ex
  exact ⟨h1.lt, h.st.lt, h.rs.lt⟩
theorem eval_tmp (a : Act) (n : Nat) : a.eval (.tmp n) = a.tmps[n]?.getD undef := by simp [Act.eval]
def clZ : Nat → Cl := fun _ => ⟨0, 0, 0⟩
theorem mk_stamps (w : World) : (Instr.makeSlice 22 (.int .i64 9) (.int .i64 9)).run Tryz.prog w = .ok (.slice (some ⟨w.heap.size, 0, none⟩) 9 9) (w.alloc (.cells (stRow clZ).toArray 3)) := by
  obtain ⟨i, hi0, hi1, hi2, hi3⟩ := info_parts info_int
  rw [run_makeSlice w 22 3 i _ Tryz.underlying22 hi0 hi1 .i64 .i64 9 9 (by omega) (by omega) (by rw [hi2]; decide) (by rw [hi3]; decide) (by omega), hi2]
  have h : madeCells (Value.int IntKind.i64 0).cells (Int.toNat 9 * 1) = (stRow clZ).toArray := by
    first | rfl | kernel_rfl | (unfold madeCells stRow; simp [Value.cells, Array.range_succ]) | (unfold madeCells stRow; apply Array.ext <;> simp [Value.cells])
  rw [h]
  rfl
theorem info_result : (Tryz.prog.info? 39).map (fun i => (i.zero, i.size, i.bytes)) = some (some (.agg #[.int .i64 0, .float .f64 0]), 2, 16) := by kernel_rfl
theorem mk_results (w : World) : (Instr.makeSlice 144 (.int .i64 9) (.int .i64 9)).run Tryz.prog w = .ok (.slice (some ⟨w.heap.size, 0, none⟩) 9 9) (w.alloc (.cells (rsRow clZ).toArray 39)) := by
  obtain ⟨i, hi0, hi1, hi2, hi3⟩ := info_parts info_result
  rw [run_makeSlice w 144 39 i _ Tryz.underlying144 hi0 hi1 .i64 .i64 9 9 (by omega) (by omega) (by rw [hi2]; decide) (by rw [hi3]; decide) (by omega), hi2]
  have h : madeCells (Value.agg #[.int .i64 0, .float .f64 0]).cells (Int.toNat 9 * 2) = (rsRow clZ).toArray := by
    first | rfl | kernel_rfl | (unfold madeCells rsRow; simp [Value.cells, Array.range_succ]) | (unfold madeCells rsRow; apply Array.ext <;> simp [Value.cells])
  rw [h]
  rfl
attribute [local go_sem] mk_stamps mk_results
end Go.Proofs.YtflpkoafebjfdaaGreat

/- Regions with a call that writes and an append: what the append's operation yields; predicates of values. -/
namespace Go.Proofs.YtflpkoafebjfdaaGreat
open Go.RowKit
set_option linter.unusedVariables false
theorem rel_append_row {P : Program} {o : Oper} {a : Act} {w : World} {R : Value → World → Prop} (s x : Operand) (t : TypeId) (ho : o.op = .call { callee := .builtin .append, args := #[s, x], argTypes := #[t, t] })
    (base : Nat) (e : TypeId) (size bytes : Nat) (z : Value) (ht : P.underlying t = some (.slice e)) (hi : (P.info? e).map (fun i => (i.zero, i.size, i.bytes)) = some (some z, size, bytes)) (hzs : z.cells.size = size) (hsz : 0 < size) (hbs : bytes ≤ 1000)
    (v : Value) (n : Nat) (xs : List Value) (hs : a.eval s = v) (hown : w.ownsRow base e size v n xs)
    (k : Nat) (news : List Value) (t' : TypeId) (hx : a.eval x = .slice (some ⟨k, 0, none⟩) 1 1) (hB : Bx w k news t') (hl : news.length = size) (h1 : ∀ u ∈ news, u.oneCell' = true)
    (hn : n ≤ 1000000) (hbase : base ≤ w.heap.size)
    (h : ∀ (v' : Value) w', Ext (Row v) w w' → w'.ownsRow base e size v' (n + 1) (xs ++ news) → (∀ k, Row v' k → Row v k ∨ w.heap.size ≤ k) → R v' w') : relAtT P (Row v) o a w R := by
  obtain ⟨i, hi0, hi1, hi2, hi3⟩ := info_parts hi
  have hb1 : (n + 1) * bytes ≤ (n + 1) * 1000 := Nat.mul_le_mul_left _ hbs
  obtain ⟨v', w', hr, h2, h3, -, hv⟩ := run_append_own_at (P := P) (w := w) base t o.type e i z size bytes ht hi0 hi1 hi2 hi3 hzs hsz v n xs hown ⟨k, 0, none⟩ 1 1 news (by omega) (fun j u hu => by rw [addr_add, Nat.zero_add]; exact hB.cell hu) h1 (by unfold maxLen; omega) (by omega) hbase
  have hx3 : Ext (Row v) w w' := Ext.ofGrown h3 fun q hq => .inl hq
  unfold relAtT execOp
  simp only [ho, resolve, invoke, builtin, Sem.run_bind, Sem.run_pure, Result.andThen_ok, List.map_toArray, List.map_cons, List.map_nil, hs, hx, hr]
  refine ⟨hx3, h _ _ hx3 h2 (fun j hj => ?_)⟩
  unfold Row at *
  rcases hv with hv | hv
  · left; rw [← hv]; exact hj
  · right; rw [hv] at hj; injection hj with hj; omega
/-- A new block that holds one element. -/
def moOne (n : Nat) (news : List Value) (t : TypeId) : Mo := ⟨fun v w => ∃ k, v = .slice (some ⟨k, 0, none⟩) 1 1 ∧ n ≤ k ∧ Bx w k news t, fun _ _ _ x ⟨k, e, hn, h⟩ => ⟨k, e, hn, h.extN x⟩⟩
theorem moOne_still {S : Nat → Prop} {n : Nat} {news : List Value} {t : TypeId} (hS : ∀ k, S k → k < n) : (moOne n news t).Still S := fun _ _ _ x ⟨k, e, hn, h⟩ => ⟨k, e, hn, h.ext x (fun q => by have := hS k q; omega)⟩
/-- A row that grew. -/
def moRow (v0 : Value) (n0 base : Nat) (e : TypeId) (size n : Nat) (xs : List Value) : Mo := ⟨fun v w => ∃ u, v = u ∧ w.ownsRow base e size u n xs ∧ ∀ k, Row u k → Row v0 k ∨ n0 ≤ k, fun _ _ _ x ⟨u, q0, h, q⟩ => ⟨u, q0, ownR_extN h x, q⟩⟩
theorem row_slice {w : World} {base : Nat} {e : TypeId} {k : Nat} {v : Value} {n : Nat} {xs : List Value} (h : w.ownsRow base e k v n xs) : ∃ a cap, v = .slice a n cap := by
  rcases h.2 with ⟨rfl, rfl⟩ | ⟨q, cap, cur, rfl, -⟩
  · exact ⟨none, 0, rfl⟩
  · exact ⟨_, _, rfl⟩
end Go.Proofs.YtflpkoafebjfdaaGreat

/- Layer 1 (pack): the program's reader. -/
namespace Go.Proofs.YtflpkoafebjfdaaGreat
open Go.RowKit Go.Lib
set_option linter.unusedSimpArgs false
set_option linter.unusedVariables false
attribute [local go_sem] run_store_float
attribute [local go_sem low] EW.cellN EW.frozN alloc_cell_or alloc_froz_or EW.cellF EW.frozF EW.cell1 EW.froz1
attribute [local go_sem] relAt relUpon
/-- The bytes of a string, in a block. -/
def Byt (w : World) (k : Nat) (s : List UInt8) : Prop := k < w.heap.size ∧ ∀ i (h : i < s.length), w.cell? ⟨k, i, none⟩ = some (.int .u8 (s[i].toNat : Int))
theorem Byt.extN {w w' : World} {k : Nat} {s : List UInt8} (h : Byt w k s) (x : Ext Non w w') : Byt w' k s := ⟨Nat.lt_of_lt_of_le h.1 x.size, fun i hi => by rw [x.cell (p := ⟨k, i, none⟩) h.1 (fun f => f)]; exact h.2 i hi⟩
theorem Byt.ext {S : Nat → Prop} {w w' : World} {k : Nat} {s : List UInt8} (h : Byt w k s) (x : Ext S w w') (hk : ¬ S k) : Byt w' k s := ⟨Nat.lt_of_lt_of_le h.1 x.size, fun i hi => by rw [x.cell (p := ⟨k, i, none⟩) h.1 hk]; exact h.2 i hi⟩
/-- A reader of the program, in its box: T its text, a how far it has come. -/
structure RdG (w : World) (b : Nat) (r : Rd) : Prop where
  box : ∃ (T : List UInt8) (a : Nat), a ≤ T.length ∧ r.s = T.drop a ∧ T.length ≤ 4611686018427387904 ∧ Bx w b [.string (sB T), .int .i64 a, .bool r.bad] 382
theorem RdG.extN {w w' : World} {b : Nat} {r : Rd} (h : RdG w b r) (x : Ext Non w w') : RdG w' b r := by obtain ⟨T, a, h1, h2, h3, h4⟩ := h.box; exact ⟨T, a, h1, h2, h3, h4.extN x⟩
theorem RdG.ext {S : Nat → Prop} {w w' : World} {b : Nat} {r : Rd} (h : RdG w b r) (x : Ext S w w') (hs : ¬ S b) : RdG w' b r := by obtain ⟨T, a, h1, h2, h3, h4⟩ := h.box; exact ⟨T, a, h1, h2, h3, h4.ext x hs⟩
theorem RdG.lt {w : World} {b : Nat} {r : Rd} (h : RdG w b r) : b < w.heap.size := by obtain ⟨T, a, h1, h2, h3, h4⟩ := h.box; exact h4.lt
theorem RdG.small {w : World} {b : Nat} {r : Rd} (h : RdG w b r) : r.s.length ≤ 4611686018427387904 := by obtain ⟨T, a, h1, h2, h3, h4⟩ := h.box; rw [h2, List.length_drop]; omega
theorem sB_inj {a b : List UInt8} (h : sB a = sB b) : a = b := by rw [← sB_toList a, h, sB_toList]
/-- The same text in the box: how far it has come follows. -/
theorem RdG.at_ {w : World} {b : Nat} {r : Rd} (h : RdG w b r) {T : List UInt8} {k : Nat} (hc : w.cell? ⟨b, 0, none⟩ = some (.string (sB T))) (hk : k ≤ T.length) (hs : r.s = T.drop k) : Bx w b [.string (sB T), .int .i64 k, .bool r.bad] 382 := by
  obtain ⟨T2, a2, h1, h2, h3, h4⟩ := h.box
  have e : w.cell? ⟨b, 0, none⟩ = some (.string (sB T2)) := h4.cell rfl
  rw [hc] at e
  injection e with e; injection e with e
  have e := sB_inj e
  subst e
  have hl : (T.drop a2).length = (T.drop k).length := by rw [← h2, ← hs]
  rw [List.length_drop, List.length_drop] at hl
  obtain rfl : a2 = k := by omega
  exact h4
end Go.Proofs.YtflpkoafebjfdaaGreat
