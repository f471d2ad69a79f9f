/- Joined texts: R12a, RelA. What each proves stands at its head; no conditions beside those in its theorems. -/
import Derived.Test.YtfefeepljbfcdaaGreatPjAF
import Derived.Test.YtfefeepljbfcdaaGreatPjAJ
import Derived.Test.YtfefeepljbfcdaaGreatPjAN
import Derived.Test.YtfefeepljbfcdaaGreatPjAQ
/- The reference of layer 12 in memory: its ledger; New, Full, Turn. -/
namespace Go.Proofs.YtfefeepljbfcdaaGreat
open Go.RowKit Go.Lib F64
set_option linter.unusedSimpArgs false
set_option linter.unusedVariables false
attribute [local go_sem] run_store_float
attribute [local go_sem low] EW.cellN EW.frozN alloc_cell_or alloc_froz_or EW.cellF EW.frozF EW.cell1 EW.froz1
attribute [local go_sem] relAt relUpon
def itC (p : ByteArray × Nat) : List Value := [.string p.1, .int .u64 p.2]
def stRow (cl : Nat → Cl) : List Value := [.int .i64 0, .int .i64 (cl 0).stamp, .int .i64 (cl 1).stamp, .int .i64 (cl 2).stamp, .int .i64 (cl 3).stamp, .int .i64 (cl 4).stamp, .int .i64 (cl 5).stamp, .int .i64 (cl 6).stamp, .int .i64 (cl 7).stamp]
def rsRow (cl : Nat → Cl) : List Value := [.int .i64 0, .float .f64 0, .int .i64 (cl 0).code, .float .f64 (cl 0).real, .int .i64 (cl 1).code, .float .f64 (cl 1).real, .int .i64 (cl 2).code, .float .f64 (cl 2).real, .int .i64 (cl 3).code, .float .f64 (cl 3).real, .int .i64 (cl 4).code, .float .f64 (cl 4).real, .int .i64 (cl 5).code, .float .f64 (cl 5).real, .int .i64 (cl 6).code, .float .f64 (cl 6).real, .int .i64 (cl 7).code, .float .f64 (cl 7).real]
theorem cl8 {i : Nat} (h : i < 8) : i = 0 ∨ i = 1 ∨ i = 2 ∨ i = 3 ∨ i = 4 ∨ i = 5 ∨ i = 6 ∨ i = 7 := by omega
theorem st_get (cl : Nat → Cl) {i : Nat} (h : i < 8) : (stRow cl)[i + 1]? = some (.int .i64 (cl i).stamp) := by
 rcases cl8 h with rfl | rfl | rfl | rfl | rfl | rfl | rfl | rfl <;> rfl
theorem rs_get (cl : Nat → Cl) {i : Nat} (h : i < 8) : (rsRow cl)[(i + 1) * 2]? = some (.int .i64 (cl i).code) ∧ (rsRow cl)[(i + 1) * 2 + 1]? = some (.float .f64 (cl i).real) := by
 rcases cl8 h with rfl | rfl | rfl | rfl | rfl | rfl | rfl | rfl <;> exact ⟨rfl, rfl⟩
def setC (cl : Nat → Cl) (i : Nat) (c : Cl) : Nat → Cl := fun j => if j = i then c else cl j
theorem st_set (cl : Nat → Cl) (c : Cl) {i : Nat} (h : i < 8) : (stRow cl).set (i + 1) (.int .i64 c.stamp) = stRow (setC cl i c) := by
 rcases cl8 h with rfl | rfl | rfl | rfl | rfl | rfl | rfl | rfl <;> rfl
theorem rs_set (cl : Nat → Cl) (c : Cl) {i : Nat} (h : i < 8) : ((rsRow cl).set ((i + 1) * 2) (.int .i64 c.code)).set ((i + 1) * 2 + 1) (.float .f64 c.real) = rsRow (setC cl i c) := by
 rcases cl8 h with rfl | rfl | rfl | rfl | rfl | rfl | rfl | rfl <;> rfl
def avT (n : Nat) (w : World) (a : Option Addr) : Prop := ∀ k o, a = some ⟨k, o, none⟩ → k ≠ n ∧ ∃ vs fr, w.heap[k]? = some (.cells vs 3 fr)
theorem avT.extN {n : Nat} {w w' : World} {a : Option Addr} (h : avT n w a) (x : Ext Non w w') : avT n w' a := fun k o e => by
 obtain ⟨h1, vs, fr, h2⟩ := h k o e
 exact ⟨h1, vs, fr, (x.block k (Array.getElem?_eq_some_iff.1 h2).1 (fun f => f)).trans h2⟩
def lrow (g : Lg) (a1 : Option Addr) (c1 : Nat) (a2 : Option Addr) (c2 : Nat) (v : Value) (sb rb : Nat) : List Value := [.int .i64 g.epoch, .slice a1 g.mem.length c1, .slice a2 g.next.length c2, .int .i64 g.done, v, .slice (some ⟨sb, 0, none⟩) 9 9, .slice (some ⟨rb, 0, none⟩) 9 9]
structure RL (w : World) (b sb rb : Nat) (g : Lg) : Prop where
 ex : ∃ a1 c1 a2 c2 v, Bx w b (lrow g a1 c1 a2 c2 v sb rb) 68 ∧ Ints w a1 c1 g.mem ∧ Ints w a2 c2 g.next ∧ avT sb w a1 ∧ avT sb w a2 ∧ w.ownsRow 0 78 2 v g.keys.length ((sortK g.keys).flatMap itC)
 st : Bx w sb (stRow g.cl) 3
 rs : Bx w rb (rsRow g.cl) 48
 nd : NdK g.keys
theorem RL.extN {w w' : World} {b sb rb : Nat} {g : Lg} (h : RL w b sb rb g) (x : Ext Non w w') : RL w' b sb rb g := by
 obtain ⟨a1, c1, a2, c2, v, h1, h2, h3, h4, h5, h6⟩ := h.ex
 exact ⟨⟨a1, c1, a2, c2, v, h1.extN x, h2.extN x, h3.extN x, h4.extN x, h5.extN x, ownR_extN h6 x⟩, h.st.extN x, h.rs.extN x, h.nd⟩
theorem RL.lt {w : World} {b sb rb : Nat} {g : Lg} (h : RL w b sb rb g) : b < w.heap.size ∧ sb < w.heap.size ∧ rb < w.heap.size := by
 obtain ⟨a1, c1, a2, c2, v, h1, -⟩ := h.ex
 exact ⟨h1.lt, h.st.lt, h.rs.lt⟩
def Tri (b sb rb : Nat) : Nat → Prop := fun k => k = b ∨ k = sb ∨ k = rb
theorem eval_tmp (a : Act) (n : Nat) : a.eval (.tmp n) = a.tmps[n]?.getD undef := by simp [Act.eval]
theorem rel_append_some {P : Program} {o : Oper} {a : Act} {w : World} {R : Value → World → Prop} (s x : Operand) (t : TypeId) (ho : o.op = .call { callee := .builtin .append, args := #[s, x], argTypes := #[t, t] })
  (e : TypeId) (size bytes : Nat) (z : Value) (ht : P.underlying t = some (.slice e)) (hi : (P.info? e).map (fun i => (i.zero, i.size, i.bytes)) = some (some z, size, bytes)) (hzs : z.cells.size = size) (hsz : 0 < size)
  (hs : a.eval s = .slice none 0 0) (ad : Addr) (m c : Nat) (news : List Value) (hx : a.eval x = .slice (some ad) m c) (hnews : ∀ j u, news[j]? = some u → w.cell? (ad.add j) = some u) (hl : news.length = m * size) (h1 : ∀ u ∈ news, u.oneCell' = true)
  (hn : m * bytes ≤ 140737488355328) (hn2 : m ≤ 9223372036854775807)
  (h : ∀ v' w', Ext Non w w' → w'.ownsRow w.heap.size e size v' m news → R v' w') : relAt P o a w R := by
 obtain ⟨i, hi0, hi1, hi2, hi3⟩ := info_parts hi
 obtain ⟨v', w', hr, h2, h3, -, -⟩ := run_append_own_at (P := P) (w := w) w.heap.size t o.type e i z size bytes ht hi0 hi1 hi2 hi3 hzs hsz (.slice none 0 0) 0 [] (World.ownsRow_nil _ _ _ _) ad m c news hl hnews h1 (by unfold maxLen; omega) (by rw [Nat.zero_add]; exact hn) (Nat.le_refl _)
 rw [Nat.zero_add, List.nil_append] at h2
 have hx3 : Ext Non w w' := Ext.ofGrown h3 fun q hq => by cases hq
 unfold relAt execOp
 simp only [ho, resolve, invoke, builtin, Sem.run_bind, Sem.run_pure, Result.andThen_ok, List.map_toArray, List.map_cons, List.map_nil, hs, hx, hr]
 exact ⟨hx3, h _ _ hx3 h2⟩
theorem ic_news {w : World} {a : Option Addr} {cap : Nat} {xs : List Int} (h : Ints w a cap xs) {ad : Addr} (e : a = some ad) : ∀ j u, (xs.map (Value.int .i64))[j]? = some u → w.cell? (ad.add j) = some u := fun j u hu => by
 have hj : j < xs.length := by have := (List.getElem?_eq_some_iff.1 hu).1; rwa [List.length_map] at this
 obtain ⟨b, o, e2, hc, _⟩ := h.at_ j hj
 rw [e] at e2; injection e2 with e2; subst e2
 rw [List.getElem?_map, List.getElem?_eq_getElem hj] at hu
 rw [addr_add, hc]; exact hu
def clZ : Nat → Cl := fun _ => ⟨0, 0, 0⟩
def moNine (n : Nat) (vs : List Value) (t : TypeId) : Mo := ⟨fun v w => ∃ k, v = .slice (some ⟨k, 0, none⟩) 9 9 ∧ Bx w k vs t ∧ n ≤ k, fun _ _ _ x ⟨k, e, h, q⟩ => ⟨k, e, h.extN x, q⟩⟩
theorem mk_stamps (w : World) : (Instr.makeSlice 22 (.int .i64 9) (.int .i64 9)).run Tryz.prog w = .ok (.slice (some ⟨w.heap.size, 0, none⟩) 9 9) (w.alloc (.cells (stRow clZ).toArray 3)) := by
 obtain ⟨i, hi0, hi1, hi2, hi3⟩ := info_parts info_int
 rw [run_makeSlice w 22 3 i _ Tryz.underlying22 hi0 hi1 .i64 .i64 9 9 (by omega) (by omega) (by rw [hi2]; decide) (by rw [hi3]; decide) (by omega), hi2]
 have h : madeCells (Value.int IntKind.i64 0).cells (Int.toNat 9 * 1) = (stRow clZ).toArray := by
  first | rfl | kernel_rfl | (unfold madeCells stRow; simp [Value.cells, Array.range_succ]) | (unfold madeCells stRow; apply Array.ext <;> simp [Value.cells])
 rw [h]
 rfl
theorem info_result : (Tryz.prog.info? 48).map (fun i => (i.zero, i.size, i.bytes)) = some (some (.agg #[.int .i64 0, .float .f64 0]), 2, 16) := by kernel_rfl
theorem mk_results (w : World) : (Instr.makeSlice 65 (.int .i64 9) (.int .i64 9)).run Tryz.prog w = .ok (.slice (some ⟨w.heap.size, 0, none⟩) 9 9) (w.alloc (.cells (rsRow clZ).toArray 48)) := by
 obtain ⟨i, hi0, hi1, hi2, hi3⟩ := info_parts info_result
 rw [run_makeSlice w 65 48 i _ Tryz.underlying65 hi0 hi1 .i64 .i64 9 9 (by omega) (by omega) (by rw [hi2]; decide) (by rw [hi3]; decide) (by omega), hi2]
 have h : madeCells (Value.agg #[.int .i64 0, .float .f64 0]).cells (Int.toNat 9 * 2) = (rsRow clZ).toArray := by
  first | rfl | kernel_rfl | (unfold madeCells rsRow; simp [Value.cells, Array.range_succ]) | (unfold madeCells rsRow; apply Array.ext <;> simp [Value.cells])
 rw [h]
 rfl
attribute [local go_sem] mk_stamps mk_results
theorem members_i64 {xs : List Int} (h : membersB xs = true) : ∀ x ∈ xs, I64 x := fun x hx => by
 have := (members_facts h).1 x hx
 unfold I64; omega
end Go.Proofs.YtfefeepljbfcdaaGreat

/- Regions with a call that writes and an append: what the append's operation yields; predicates of values. -/
namespace Go.Proofs.YtfefeepljbfcdaaGreat
open Go.RowKit
set_option linter.unusedVariables false
theorem rel_append_row {P : Program} {o : Oper} {a : Act} {w : World} {R : Value → World → Prop} (s x : Operand) (t : TypeId) (ho : o.op = .call { callee := .builtin .append, args := #[s, x], argTypes := #[t, t] })
  (base : Nat) (e : TypeId) (size bytes : Nat) (z : Value) (ht : P.underlying t = some (.slice e)) (hi : (P.info? e).map (fun i => (i.zero, i.size, i.bytes)) = some (some z, size, bytes)) (hzs : z.cells.size = size) (hsz : 0 < size) (hbs : bytes ≤ 1000)
  (v : Value) (n : Nat) (xs : List Value) (hs : a.eval s = v) (hown : w.ownsRow base e size v n xs)
  (k : Nat) (news : List Value) (t' : TypeId) (hx : a.eval x = .slice (some ⟨k, 0, none⟩) 1 1) (hB : Bx w k news t') (hl : news.length = size) (h1 : ∀ u ∈ news, u.oneCell' = true)
  (hn : n ≤ 1000000) (hbase : base ≤ w.heap.size)
  (h : ∀ (v' : Value) w', Ext (Row v) w w' → w'.ownsRow base e size v' (n + 1) (xs ++ news) → (∀ k, Row v' k → Row v k ∨ w.heap.size ≤ k) → R v' w') : relAtT P (Row v) o a w R := by
 obtain ⟨i, hi0, hi1, hi2, hi3⟩ := info_parts hi
 have hb1 : (n + 1) * bytes ≤ (n + 1) * 1000 := Nat.mul_le_mul_left _ hbs
 obtain ⟨v', w', hr, h2, h3, -, hv⟩ := run_append_own_at (P := P) (w := w) base t o.type e i z size bytes ht hi0 hi1 hi2 hi3 hzs hsz v n xs hown ⟨k, 0, none⟩ 1 1 news (by omega) (fun j u hu => by rw [addr_add, Nat.zero_add]; exact hB.cell hu) h1 (by unfold maxLen; omega) (by omega) hbase
 have hx3 : Ext (Row v) w w' := Ext.ofGrown h3 fun q hq => .inl hq
 unfold relAtT execOp
 simp only [ho, resolve, invoke, builtin, Sem.run_bind, Sem.run_pure, Result.andThen_ok, List.map_toArray, List.map_cons, List.map_nil, hs, hx, hr]
 refine ⟨hx3, h _ _ hx3 h2 (fun j hj => ?_)⟩
 unfold Row at *
 rcases hv with hv | hv
 ·left; rw [← hv]; exact hj
 ·right; rw [hv] at hj; injection hj with hj; omega
def moOne (n : Nat) (news : List Value) (t : TypeId) : Mo := ⟨fun v w => ∃ k, v = .slice (some ⟨k, 0, none⟩) 1 1 ∧ n ≤ k ∧ Bx w k news t, fun _ _ _ x ⟨k, e, hn, h⟩ => ⟨k, e, hn, h.extN x⟩⟩
theorem moOne_still {S : Nat → Prop} {n : Nat} {news : List Value} {t : TypeId} (hS : ∀ k, S k → k < n) : (moOne n news t).Still S := fun _ _ _ x ⟨k, e, hn, h⟩ => ⟨k, e, hn, h.ext x (fun q => by have := hS k q; omega)⟩
def moRow (v0 : Value) (n0 base : Nat) (e : TypeId) (size n : Nat) (xs : List Value) : Mo := ⟨fun v w => ∃ u, v = u ∧ w.ownsRow base e size u n xs ∧ ∀ k, Row u k → Row v0 k ∨ n0 ≤ k, fun _ _ _ x ⟨u, q0, h, q⟩ => ⟨u, q0, ownR_extN h x, q⟩⟩
theorem moRow_still {S : Nat → Prop} {v0 : Value} {n0 base : Nat} {e : TypeId} {size n : Nat} {xs : List Value} (hS : ∀ k, S k → k < n0) (hv : ∀ k, S k → ¬ Row v0 k) : (moRow v0 n0 base e size n xs).Still S := fun _ _ _ x ⟨u, q0, h, q⟩ =>
 ⟨u, q0, ownR_ext h x (fun k hk hs => by rcases q k hk with z | z; exact hv k hs z; have := hS k hs; omega), q⟩
theorem row_slice {w : World} {base : Nat} {e : TypeId} {k : Nat} {v : Value} {n : Nat} {xs : List Value} (h : w.ownsRow base e k v n xs) : ∃ a cap, v = .slice a n cap := by
 rcases h.2 with ⟨rfl, rfl⟩ | ⟨q, cap, cur, rfl, -⟩
 ·exact ⟨none, 0, rfl⟩
 ·exact ⟨_, _, rfl⟩
def moSt (v0 : Value) (p : World → Prop) (hp : ∀ w w', Ext Non w w' → p w → p w') : Mo := ⟨fun v w => v = v0 ∧ p w, fun _ _ _ x ⟨e, h⟩ => ⟨e, hp _ _ x h⟩⟩
theorem moSt_still {S : Nat → Prop} {v0 : Value} {p : World → Prop} {hp : ∀ w w', Ext Non w w' → p w → p w'} (h : ∀ w w', Ext S w w' → p w → p w') : (moSt v0 p hp).Still S := fun _ _ _ x ⟨e, q⟩ => ⟨e, h _ _ x q⟩
end Go.Proofs.YtfefeepljbfcdaaGreat
