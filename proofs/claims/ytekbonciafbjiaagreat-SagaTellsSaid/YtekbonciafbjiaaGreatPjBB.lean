/- Joined texts: R12a. What each proves stands at its head; no conditions beside those in its theorems. -/
import Derived.Test.YtekbonciafbjiaaGreatPjAA
import Derived.Test.YtekbonciafbjiaaGreatPjAC
import Derived.Test.YtekbonciafbjiaaGreatPjAD
import Derived.Test.YtekbonciafbjiaaGreatPjAG
import Derived.Test.YtekbonciafbjiaaGreatPjAI
import Derived.Test.YtekbonciafbjiaaGreatPjAN
import Derived.Test.YtekbonciafbjiaaGreatPjAJ
import Derived.Test.YtekbonciafbjiaaGreatPjAL
import Derived.Test.YtekbonciafbjiaaGreatPjAM
import Derived.Test.YtekbonciafbjiaaGreatPjAO
import Derived.Test.YtekbonciafbjiaaGreatPjAR
import Derived.Test.YtekbonciafbjiaaGreatPjAW
import Derived.Test.YtekbonciafbjiaaGreatPjAE
import Derived.Test.YtekbonciafbjiaaGreatPjAQ
import Derived.Test.YtekbonciafbjiaaGreatPjAK
/- The reference of layer 12 in memory: its ledger; New, Full, Turn. -/
namespace Go.Proofs.YtekbonciafbjiaaGreat
open Go.RowKit Go.Lib F64
set_option linter.unusedSimpArgs false
set_option linter.unusedVariables false
attribute [local go_sem] run_store_float
attribute [local go_sem low] EW.cellN EW.frozN alloc_cell_or alloc_froz_or EW.cellF EW.frozF EW.cell1 EW.froz1
attribute [local go_sem] relAt relUpon
def itC (p : ByteArray × Nat) : List Value := [.string p.1, .int .u64 p.2]
def stRow (cl : Nat → Cl) : List Value := [.int .i64 0, .int .i64 (cl 0).stamp, .int .i64 (cl 1).stamp, .int .i64 (cl 2).stamp, .int .i64 (cl 3).stamp, .int .i64 (cl 4).stamp, .int .i64 (cl 5).stamp, .int .i64 (cl 6).stamp, .int .i64 (cl 7).stamp]
def rsRow (cl : Nat → Cl) : List Value := [.int .i64 0, .float .f64 0, .int .i64 (cl 0).code, .float .f64 (cl 0).real, .int .i64 (cl 1).code, .float .f64 (cl 1).real, .int .i64 (cl 2).code, .float .f64 (cl 2).real, .int .i64 (cl 3).code, .float .f64 (cl 3).real, .int .i64 (cl 4).code, .float .f64 (cl 4).real, .int .i64 (cl 5).code, .float .f64 (cl 5).real, .int .i64 (cl 6).code, .float .f64 (cl 6).real, .int .i64 (cl 7).code, .float .f64 (cl 7).real]
theorem cl8 {i : Nat} (h : i < 8) : i = 0 ∨ i = 1 ∨ i = 2 ∨ i = 3 ∨ i = 4 ∨ i = 5 ∨ i = 6 ∨ i = 7 := by omega
theorem st_get (cl : Nat → Cl) {i : Nat} (h : i < 8) : (stRow cl)[i + 1]? = some (.int .i64 (cl i).stamp) := by
  rcases cl8 h with rfl | rfl | rfl | rfl | rfl | rfl | rfl | rfl <;> rfl
theorem rs_get (cl : Nat → Cl) {i : Nat} (h : i < 8) : (rsRow cl)[(i + 1) * 2]? = some (.int .i64 (cl i).code) ∧ (rsRow cl)[(i + 1) * 2 + 1]? = some (.float .f64 (cl i).real) := by
  rcases cl8 h with rfl | rfl | rfl | rfl | rfl | rfl | rfl | rfl <;> exact ⟨rfl, rfl⟩
def setC (cl : Nat → Cl) (i : Nat) (c : Cl) : Nat → Cl := fun j => if j = i then c else cl j
theorem st_set (cl : Nat → Cl) (c : Cl) {i : Nat} (h : i < 8) : (stRow cl).set (i + 1) (.int .i64 c.stamp) = stRow (setC cl i c) := by
  rcases cl8 h with rfl | rfl | rfl | rfl | rfl | rfl | rfl | rfl <;> rfl
theorem rs_set (cl : Nat → Cl) (c : Cl) {i : Nat} (h : i < 8) : ((rsRow cl).set ((i + 1) * 2) (.int .i64 c.code)).set ((i + 1) * 2 + 1) (.float .f64 c.real) = rsRow (setC cl i c) := by
  rcases cl8 h with rfl | rfl | rfl | rfl | rfl | rfl | rfl | rfl <;> rfl
/-- A row of ints that does not lie in block n. -/
def avT (n : Nat) (w : World) (a : Option Addr) : Prop := ∀ k o, a = some ⟨k, o, none⟩ → k ≠ n ∧ ∃ vs fr, w.heap[k]? = some (.cells vs 3 fr)
theorem avT.extN {n : Nat} {w w' : World} {a : Option Addr} (h : avT n w a) (x : Ext Non w w') : avT n w' a := fun k o e => by
  obtain ⟨h1, vs, fr, h2⟩ := h k o e
  exact ⟨h1, vs, fr, (x.block k (Array.getElem?_eq_some_iff.1 h2).1 (fun f => f)).trans h2⟩
def lrow (g : Lg) (a1 : Option Addr) (c1 : Nat) (a2 : Option Addr) (c2 : Nat) (v : Value) (sb rb : Nat) : List Value := [.int .i64 g.epoch, .slice a1 g.mem.length c1, .slice a2 g.next.length c2, .int .i64 g.done, v, .slice (some ⟨sb, 0, none⟩) 9 9, .slice (some ⟨rb, 0, none⟩) 9 9]
/-- A ledger of the reference that stands for g: its box b, its stamps' block, its results' block. -/
structure RL (w : World) (b sb rb : Nat) (g : Lg) : Prop where
  ex : ∃ a1 c1 a2 c2 v, Bx w b (lrow g a1 c1 a2 c2 v sb rb) 82 ∧ Ints w a1 c1 g.mem ∧ Ints w a2 c2 g.next ∧ avT sb w a1 ∧ avT sb w a2 ∧ w.ownsRow 0 124 2 v g.keys.length ((sortK g.keys).flatMap itC)
  st : Bx w sb (stRow g.cl) 3
  rs : Bx w rb (rsRow g.cl) 47
  nd : NdK g.keys
theorem RL.extN {w w' : World} {b sb rb : Nat} {g : Lg} (h : RL w b sb rb g) (x : Ext Non w w') : RL w' b sb rb g := by
  obtain ⟨a1, c1, a2, c2, v, h1, h2, h3, h4, h5, h6⟩ := h.ex
  exact ⟨⟨a1, c1, a2, c2, v, h1.extN x, h2.extN x, h3.extN x, h4.extN x, h5.extN x, ownR_extN h6 x⟩, h.st.extN x, h.rs.extN x, h.nd⟩
theorem RL.lt {w : World} {b sb rb : Nat} {g : Lg} (h : RL w b sb rb g) : b < w.heap.size ∧ sb < w.heap.size ∧ rb < w.heap.size := by
  obtain ⟨a1, c1, a2, c2, v, h1, -⟩ := h.ex
  exact ⟨h1.lt, h.st.lt, h.rs.lt⟩
/-- The blocks that such a ledger's methods write. -/
def Tri (b sb rb : Nat) : Nat → Prop := fun k => k = b ∨ k = sb ∨ k = rb
theorem eval_tmp (a : Act) (n : Nat) : a.eval (.tmp n) = a.tmps[n]?.getD undef := by simp [Act.eval]
theorem rel_append_some {P : Program} {o : Oper} {a : Act} {w : World} {R : Value → World → Prop} (s x : Operand) (t : TypeId) (ho : o.op = .call { callee := .builtin .append, args := #[s, x], argTypes := #[t, t] })
    (e : TypeId) (size bytes : Nat) (z : Value) (ht : P.underlying t = some (.slice e)) (hi : (P.info? e).map (fun i => (i.zero, i.size, i.bytes)) = some (some z, size, bytes)) (hzs : z.cells.size = size) (hsz : 0 < size)
    (hs : a.eval s = .slice none 0 0) (ad : Addr) (m c : Nat) (news : List Value) (hx : a.eval x = .slice (some ad) m c) (hnews : ∀ j u, news[j]? = some u → w.cell? (ad.add j) = some u) (hl : news.length = m * size) (h1 : ∀ u ∈ news, u.oneCell' = true)
    (hn : m * bytes ≤ 140737488355328) (hn2 : m ≤ 9223372036854775807)
    (h : ∀ v' w', Ext Non w w' → w'.ownsRow w.heap.size e size v' m news → R v' w') : relAt P o a w R := by
  obtain ⟨i, hi0, hi1, hi2, hi3⟩ := info_parts hi
  obtain ⟨v', w', hr, h2, h3, -, -⟩ := run_append_own_at (P := P) (w := w) w.heap.size t o.type e i z size bytes ht hi0 hi1 hi2 hi3 hzs hsz (.slice none 0 0) 0 [] (World.ownsRow_nil _ _ _ _) ad m c news hl hnews h1 (by unfold maxLen; omega) (by rw [Nat.zero_add]; exact hn) (Nat.le_refl _)
  rw [Nat.zero_add, List.nil_append] at h2
  have hx3 : Ext Non w w' := Ext.ofGrown h3 fun q hq => by cases hq
  unfold relAt execOp
  simp only [ho, resolve, invoke, builtin, Sem.run_bind, Sem.run_pure, Result.andThen_ok, List.map_toArray, List.map_cons, List.map_nil, hs, hx, hr]
  exact ⟨hx3, h _ _ hx3 h2⟩
theorem ic_news {w : World} {a : Option Addr} {cap : Nat} {xs : List Int} (h : Ints w a cap xs) {ad : Addr} (e : a = some ad) : ∀ j u, (xs.map (Value.int .i64))[j]? = some u → w.cell? (ad.add j) = some u := fun j u hu => by
  have hj : j < xs.length := by have := (List.getElem?_eq_some_iff.1 hu).1; rwa [List.length_map] at this
  obtain ⟨b, o, e2, hc, _⟩ := h.at_ j hj
  rw [e] at e2; injection e2 with e2; subst e2
  rw [List.getElem?_map, List.getElem?_eq_getElem hj] at hu
  rw [addr_add, hc]; exact hu
def clZ : Nat → Cl := fun _ => ⟨0, 0, 0⟩
def moInts (xs : List Int) : Mo := ⟨fun v w => ∃ a cap, v = .slice a xs.length cap ∧ Ints w a cap xs ∧ intT w a, fun _ _ _ x ⟨a, c, e, h, t⟩ => ⟨a, c, e, h.extN x, t.ext x (NoInts.non _)⟩⟩
def moConf (ep : Int) (xs : List Int) : Mo := ⟨fun v w => ∃ a cap, v = .agg #[.int .i64 ep, .slice a xs.length cap] ∧ Ints w a cap xs ∧ intT w a, fun _ _ _ x ⟨a, c, e, h, t⟩ => ⟨a, c, e, h.extN x, t.ext x (NoInts.non _)⟩⟩
def moNine (n : Nat) (vs : List Value) (t : TypeId) : Mo := ⟨fun v w => ∃ k, v = .slice (some ⟨k, 0, none⟩) 9 9 ∧ Bx w k vs t ∧ n ≤ k, fun _ _ _ x ⟨k, e, h, q⟩ => ⟨k, e, h.extN x, q⟩⟩
def moLed (n : Nat) (xs : List Int) : Mo := ⟨fun u w => ∃ a1 c1 a2 c2 sb rb, u = .agg (lrow (newL xs) a1 c1 a2 c2 (.slice none 0 0) sb rb).toArray ∧ Ints w a1 c1 xs ∧ intT w a1 ∧ Ints w a2 c2 xs ∧ intT w a2 ∧ Bx w sb (stRow clZ) 3 ∧ Bx w rb (rsRow clZ) 47 ∧ n ≤ sb ∧ n ≤ rb,
  fun _ _ _ x ⟨a1, c1, a2, c2, sb, rb, e, h1, h2, h3, h4, h5, h6, h7⟩ => ⟨a1, c1, a2, c2, sb, rb, e, h1.extN x, h2.ext x (NoInts.non _), h3.extN x, h4.ext x (NoInts.non _), h5.extN x, h6.extN x, h7⟩⟩
def moRL (n : Nat) (g : Lg) : Mo := ⟨fun v w => ∃ b sb rb, v = .pointer (some ⟨b, 0, none⟩) ∧ RL w b sb rb g ∧ n ≤ b ∧ n ≤ sb ∧ n ≤ rb, fun _ _ _ x ⟨b, sb, rb, e, h, q⟩ => ⟨b, sb, rb, e, h.extN x, q⟩⟩
theorem mk_stamps (w : World) : (Instr.makeSlice 22 (.int .i64 9) (.int .i64 9)).run Tryz.prog w = .ok (.slice (some ⟨w.heap.size, 0, none⟩) 9 9) (w.alloc (.cells (stRow clZ).toArray 3)) := by
  obtain ⟨i, hi0, hi1, hi2, hi3⟩ := info_parts info_int
  rw [run_makeSlice w 22 3 i _ Tryz.underlying22 hi0 hi1 .i64 .i64 9 9 (by omega) (by omega) (by rw [hi2]; decide) (by rw [hi3]; decide) (by omega), hi2]
  have h : madeCells (Value.int IntKind.i64 0).cells (Int.toNat 9 * 1) = (stRow clZ).toArray := by
    first | rfl | kernel_rfl | (unfold madeCells stRow; simp [Value.cells, Array.range_succ]) | (unfold madeCells stRow; apply Array.ext <;> simp [Value.cells])
  rw [h]
  rfl
theorem info_result : (Tryz.prog.info? 47).map (fun i => (i.zero, i.size, i.bytes)) = some (some (.agg #[.int .i64 0, .float .f64 0]), 2, 16) := by kernel_rfl
theorem mk_results (w : World) : (Instr.makeSlice 80 (.int .i64 9) (.int .i64 9)).run Tryz.prog w = .ok (.slice (some ⟨w.heap.size, 0, none⟩) 9 9) (w.alloc (.cells (rsRow clZ).toArray 47)) := by
  obtain ⟨i, hi0, hi1, hi2, hi3⟩ := info_parts info_result
  rw [run_makeSlice w 80 47 i _ Tryz.underlying80 hi0 hi1 .i64 .i64 9 9 (by omega) (by omega) (by rw [hi2]; decide) (by rw [hi3]; decide) (by omega), hi2]
  have h : madeCells (Value.agg #[.int .i64 0, .float .f64 0]).cells (Int.toNat 9 * 2) = (rsRow clZ).toArray := by
    first | rfl | kernel_rfl | (unfold madeCells rsRow; simp [Value.cells, Array.range_succ]) | (unfold madeCells rsRow; apply Array.ext <;> simp [Value.cells])
  rw [h]
  rfl
attribute [local go_sem] mk_stamps mk_results
theorem ints_apart {w : World} {a : Option Addr} {cap : Nat} {xs : List Int} (h : Ints w a cap xs) (ht : intT w a) (hm : membersB xs = true) {sb : Nat} (hs : Bx w sb (stRow clZ) 3) : avT sb w a := fun k o e => by
  refine ⟨fun ek => ?_, ht k o e⟩
  subst ek
  obtain ⟨-, p, h4, -⟩ := members_facts hm
  obtain ⟨b0, o0, e0, c0, -⟩ := h.at_ 0 (by omega)
  obtain ⟨b1, o1, e1, c1, -⟩ := h.at_ 1 (by omega)
  rw [e] at e0 e1
  injection e0 with e0; injection e0 with e0 e0'; injection e1 with e1; injection e1 with e1 e1'
  subst e0; subst e0'; subst e1; subst e1'
  have hlt : xs[0] < xs[1] := List.pairwise_iff_getElem.1 p 0 1 (by omega) (by omega) (by omega)
  have z : ∀ j x, w.cell? ⟨k, j, none⟩ = some (.int .i64 x) → x = 0 := fun j x hx => by
    have hg := hs.h
    by_cases hj : j < 9
    · have hr : (stRow clZ)[j]? = some (.int .i64 0) := by
        have : j = 0 ∨ j = 1 ∨ j = 2 ∨ j = 3 ∨ j = 4 ∨ j = 5 ∨ j = 6 ∨ j = 7 ∨ j = 8 := by omega
        rcases this with rfl | rfl | rfl | rfl | rfl | rfl | rfl | rfl | rfl <;> rfl
      have := hs.cell hr
      rw [hx] at this
      injection this with this; injection this with _ this
    · exfalso
      have hn : (stRow clZ)[j]? = none := List.getElem?_eq_none_iff.2 (by show 9 ≤ j; omega)
      simp [World.cell?, hg, hn] at hx
  have := z _ _ c0; have := z _ _ c1
  omega
theorem members_i64 {xs : List Int} (h : membersB xs = true) : ∀ x ∈ xs, I64 x := fun x hx => by
  have := (members_facts h).1 x hx
  unfold I64; omega
theorem box_new {n : Nat} {w : World} {xs : List Int} {a1 a2 : Option Addr} {c1 c2 sb rb : Nat} (hn : n ≤ w.heap.size) (hn2 : n ≤ sb ∧ n ≤ rb) (hm : membersB xs = true) (h1 : Ints w a1 c1 xs) (t1 : intT w a1) (h2 : Ints w a2 c2 xs) (t2 : intT w a2) (hs : Bx w sb (stRow clZ) 3) (hr : Bx w rb (rsRow clZ) 47) :
    Ext Non w (w.alloc (.cells (lrow (newL xs) a1 c1 a2 c2 (.slice none 0 0) sb rb).toArray 82)) ∧ (moRL n (newL xs)).p (.pointer (some ⟨w.heap.size, 0, none⟩)) (w.alloc (.cells (lrow (newL xs) a1 c1 a2 c2 (.slice none 0 0) sb rb).toArray 82)) := by
  have x : Ext Non w (w.alloc (.cells (lrow (newL xs) a1 c1 a2 c2 (.slice none 0 0) sb rb).toArray 82)) := (Ext.refl _ _).alloc _
  exact ⟨x, w.heap.size, sb, rb, rfl, ⟨⟨a1, c1, a2, c2, _, Bx.newAt _ _ _ _ rfl, h1.extN x, h2.extN x, (ints_apart h1 t1 hm hs).extN x, (ints_apart h2 t2 hm hs).extN x, by rw [show (newL xs).keys = [] from rfl, show sortK [] = [] by simp [sortK]]; exact World.ownsRow_nil _ _ _ _⟩, hs.extN x, hr.extN x, List.nodup_nil⟩, hn, hn2.1, hn2.2⟩
set_option maxHeartbeats 2000000 in
set_option maxRecDepth 100000 in
theorem ref12_New (a : Option Addr) (cap : Nat) (xs : List Int) (hm : membersB xs = true) (w : World) (h : Ints w a cap xs) : Calls Tryz.prog 36 #[.agg #[.int .i64 0, .slice a xs.length cap]] w fun e w' =>
    ∃ b sb rb, e = .returned (.tuple #[.pointer (some ⟨b, 0, none⟩), .int .i64 0]) ∧ RL w' b sb rb (newL xs) ∧ Ext Non w w' ∧ w.heap.size ≤ b ∧ w.heap.size ≤ sb ∧ w.heap.size ≤ rb := by
  have HI := Go.Lib.hid h; have HM := Go.Lib.hid hm
  have hc : confB 0 xs = true := by unfold confB; rw [hm]; rfl
  have HC := Go.Lib.hid hc
  obtain ⟨-, -, h4, h10⟩ := members_facts hm
  obtain ⟨ab, ao, rfl, -⟩ := h.at_ 0 (by omega)
  clear h hm hc
  go_enter Tryz.func36, Tryz.ntmps36
  go_wp2_with fail
  have B0 := Go.Lib.hid (Bx.newAt w [.int .i64 0, .slice (some ⟨ab, ao, none⟩) xs.length cap] 24 _ rfl)
  refine Calls.ew (ref_Right07 0 (some ⟨ab, ao, none⟩) cap xs _ (HI.out.extN (by (repeat (first | with_reducible (first | exact Ext.refl _ _ | assumption | refine Ext.upN ?_ | refine Ext.alloc ?_ _ | refine Ext.drew ?_ | refine Ext.drewN ?_ _ | refine Ext.up1N (by first | omega | simp) ?_) | refine Ext.alloc ?_ _ | refine Ext.setCell ?_ (.inr (by first | omega | simp)) _))))) ?_
  rintro e x1 rfl
  rw [HC.out]
  have X1 : Ext Non w x1.on := by (repeat (first | with_reducible (first | exact Ext.refl _ _ | assumption | refine Ext.upN ?_ | refine Ext.alloc ?_ _ | refine Ext.drew ?_ | refine Ext.drewN ?_ _ | refine Ext.up1N (by first | omega | simp) ?_) | refine Ext.alloc ?_ _ | refine Ext.setCell ?_ (.inr (by first | omega | simp)) _))
  have B1 := Go.Lib.hid (B0.out.extN x1.ext)
  have I1 := Go.Lib.hid (HI.out.extN X1)
  have c0 : x1.on.cell? ⟨w.heap.size, 0, none⟩ = some (.int .i64 0) := B1.out.cell rfl
  have c1 : x1.on.cell? ⟨w.heap.size, 1, none⟩ = some (.slice (some ⟨ab, ao, none⟩) xs.length cap) := B1.out.cell rfl
  have HX1 := Go.Lib.hid X1
  clear X1 B0 HI
  go_upto_region 3 with fail
  apply wp_region_rel (relR [Mo.is _, Mo.is _, moInts xs, moConf 0 xs, Mo.is _, Mo.is _, moInts xs, moNine w.heap.size (stRow clZ) 3, moNine w.heap.size (rsRow clZ) 47, moLed w.heap.size xs, moRL w.heap.size (newL xs), moRL w.heap.size (newL xs), Mo.is _]) (by kernel_rfl) (by kernel_rfl) (by kernel_rfl) (relR_mono _) (StepD.all ?st6) ?q6
  case st6 =>
    refine ⟨?_, ?_, ?_, ?_, ?_, ?_, ?_, ?_, ?_, ?_, ?_, ?_, ?_, trivial⟩
    · intro a' w' hx hs hd
      obtain ⟨y, rfl⟩ := hx.ew
      have e1 : a'.tmps[1]?.getD undef = _ := hs 1 rfl
      simp only [List.getElem?_toArray, List.getElem?_cons_succ, List.getElem?_cons_zero, Option.getD_some, Array.getElem?_eq_some_iff] at e1
      refine .inl ⟨rfl, ?_⟩
      clear hs hd hx
      go_simp
      exact ⟨Ext.refl _ _, rfl⟩
    · intro a' w' hx hs hd
      obtain ⟨y, rfl⟩ := hx.ew
      have e12 : a'.tmps[12]?.getD undef = _ := hd 0 12 rfl rfl
      refine .inl ⟨rfl, ?_⟩
      clear hs hd hx
      go_simp
      exact ⟨Ext.refl _ _, rfl⟩
    · intro a' w' hx hs hd
      obtain ⟨y, rfl⟩ := hx.ew
      have e13 : a'.tmps[13]?.getD undef = _ := hd 1 13 rfl rfl
      refine .inl ⟨rfl, ?_⟩
      clear hs hd hx
      exact rel_append_some _ _ 22 rfl 3 1 8 _ Tryz.underlying22 info_int (by rfl) (by omega) rfl _ xs.length cap (xs.map (Value.int .i64)) ((eval_tmp _ _).trans e13) (ic_news (I1.out.extN y.ext) rfl) (by rw [List.length_map]; omega) (ic_one xs) (by omega) (by omega) (fun v' w' x o => by obtain ⟨a, c, e, h1, h2⟩ := Ints.ofOwn o (members_i64 HM.out); exact ⟨a, c, e, h1, h2.typed⟩)
    · intro a' w' hx hs hd
      obtain ⟨y, rfl⟩ := hx.ew
      obtain ⟨a3, c3, e14, hI3, hT3⟩ : ∃ a cap, a'.tmps[14]?.getD undef = .slice a xs.length cap ∧ Ints y.on a cap xs ∧ intT y.on a := hd 2 14 rfl rfl
      refine .inl ⟨rfl, ?_⟩
      clear hs hd hx
      go_simp
      exact ⟨Ext.refl _ _, a3, c3, rfl, hI3, hT3⟩
    · intro a' w' hx hs hd
      obtain ⟨y, rfl⟩ := hx.ew
      have e1 : a'.tmps[1]?.getD undef = _ := hs 1 rfl
      simp only [List.getElem?_toArray, List.getElem?_cons_succ, List.getElem?_cons_zero, Option.getD_some, Array.getElem?_eq_some_iff] at e1
      refine .inl ⟨rfl, ?_⟩
      clear hs hd hx
      go_simp
      exact ⟨Ext.refl _ _, rfl⟩
    · intro a' w' hx hs hd
      obtain ⟨y, rfl⟩ := hx.ew
      have e16 : a'.tmps[16]?.getD undef = _ := hd 4 16 rfl rfl
      refine .inl ⟨rfl, ?_⟩
      clear hs hd hx
      go_simp
      exact ⟨Ext.refl _ _, rfl⟩
    · intro a' w' hx hs hd
      obtain ⟨y, rfl⟩ := hx.ew
      have e17 : a'.tmps[17]?.getD undef = _ := hd 5 17 rfl rfl
      refine .inl ⟨rfl, ?_⟩
      clear hs hd hx
      exact rel_append_some _ _ 22 rfl 3 1 8 _ Tryz.underlying22 info_int (by rfl) (by omega) rfl _ xs.length cap (xs.map (Value.int .i64)) ((eval_tmp _ _).trans e17) (ic_news (I1.out.extN y.ext) rfl) (by rw [List.length_map]; omega) (ic_one xs) (by omega) (by omega) (fun v' w' x o => by obtain ⟨a, c, e, h1, h2⟩ := Ints.ofOwn o (members_i64 HM.out); exact ⟨a, c, e, h1, h2.typed⟩)
    · intro a' w' hx hs hd
      obtain ⟨y, rfl⟩ := hx.ew
      refine .inl ⟨rfl, ?_⟩
      clear hs hd hx
      go_simp
      exact ⟨by (repeat (first | with_reducible (first | exact Ext.refl _ _ | assumption | refine Ext.upN ?_ | refine Ext.alloc ?_ _ | refine Ext.drew ?_ | refine Ext.drewN ?_ _ | refine Ext.up1N (by first | omega | simp) ?_) | refine Ext.alloc ?_ _ | refine Ext.setCell ?_ (.inr (by first | omega | simp)) _)), _, rfl, Bx.newAt _ _ _ _ rfl, (by have h1 := (by (repeat (first | with_reducible (first | exact Ext.refl _ _ | assumption | refine Ext.upN ?_ | refine Ext.alloc ?_ _ | refine Ext.drew ?_ | refine Ext.drewN ?_ _ | refine Ext.up1N (by first | omega | simp) ?_) | refine Ext.alloc ?_ _ | refine Ext.setCell ?_ (.inr (by first | omega | simp)) _)) : Ext Non x1.on y.on).size; have h2 := HX1.out.size; omega)⟩
    · intro a' w' hx hs hd
      obtain ⟨y, rfl⟩ := hx.ew
      refine .inl ⟨rfl, ?_⟩
      clear hs hd hx
      go_simp
      exact ⟨by (repeat (first | with_reducible (first | exact Ext.refl _ _ | assumption | refine Ext.upN ?_ | refine Ext.alloc ?_ _ | refine Ext.drew ?_ | refine Ext.drewN ?_ _ | refine Ext.up1N (by first | omega | simp) ?_) | refine Ext.alloc ?_ _ | refine Ext.setCell ?_ (.inr (by first | omega | simp)) _)), _, rfl, Bx.newAt _ _ _ _ rfl, (by have h1 := (by (repeat (first | with_reducible (first | exact Ext.refl _ _ | assumption | refine Ext.upN ?_ | refine Ext.alloc ?_ _ | refine Ext.drew ?_ | refine Ext.drewN ?_ _ | refine Ext.up1N (by first | omega | simp) ?_) | refine Ext.alloc ?_ _ | refine Ext.setCell ?_ (.inr (by first | omega | simp)) _)) : Ext Non x1.on y.on).size; have h2 := HX1.out.size; omega)⟩
    · intro a' w' hx hs hd
      obtain ⟨y, rfl⟩ := hx.ew
      obtain ⟨a4, c4, e15, hI4, hT4⟩ : ∃ a cap, a'.tmps[15]?.getD undef = .agg #[.int .i64 0, .slice a xs.length cap] ∧ Ints y.on a cap xs ∧ intT y.on a := hd 3 15 rfl rfl
      obtain ⟨a5, c5, e18, hI5, hT5⟩ : ∃ a cap, a'.tmps[18]?.getD undef = .slice a xs.length cap ∧ Ints y.on a cap xs ∧ intT y.on a := hd 6 18 rfl rfl
      obtain ⟨ks, e19, hS, hsn⟩ : ∃ k, a'.tmps[19]?.getD undef = .slice (some ⟨k, 0, none⟩) 9 9 ∧ Bx y.on k (stRow clZ) 3 ∧ w.heap.size ≤ k := hd 7 19 rfl rfl
      obtain ⟨kr, e20, hR, hrn⟩ : ∃ k, a'.tmps[20]?.getD undef = .slice (some ⟨k, 0, none⟩) 9 9 ∧ Bx y.on k (rsRow clZ) 47 ∧ w.heap.size ≤ k := hd 8 20 rfl rfl
      refine .inl ⟨rfl, ?_⟩
      clear hs hd hx
      go_simp
      exact ⟨Ext.refl _ _, a4, c4, a5, c5, ks, kr, rfl, hI4, hT4, hI5, hT5, hS, hR, hsn, hrn⟩
    · intro a' w' hx hs hd
      obtain ⟨y, rfl⟩ := hx.ew
      obtain ⟨a6, c6, a7, c7, ks2, kr2, e21, hI6, hT6, hI7, hT7, hS2, hR2, hsr⟩ : ∃ a1 c1 a2 c2 sb rb, a'.tmps[21]?.getD undef = .agg (lrow (newL xs) a1 c1 a2 c2 (.slice none 0 0) sb rb).toArray ∧ Ints y.on a1 c1 xs ∧ intT y.on a1 ∧ Ints y.on a2 c2 xs ∧ intT y.on a2 ∧ Bx y.on sb (stRow clZ) 3 ∧ Bx y.on rb (rsRow clZ) 47 ∧ w.heap.size ≤ sb ∧ w.heap.size ≤ rb := hd 9 21 rfl rfl
      refine .inl ⟨rfl, ?_⟩
      clear hs hd hx
      go_simp
      exact box_new (by have h1 := (by (repeat (first | with_reducible (first | exact Ext.refl _ _ | assumption | refine Ext.upN ?_ | refine Ext.alloc ?_ _ | refine Ext.drew ?_ | refine Ext.drewN ?_ _ | refine Ext.up1N (by first | omega | simp) ?_) | refine Ext.alloc ?_ _ | refine Ext.setCell ?_ (.inr (by first | omega | simp)) _)) : Ext Non x1.on y.on).size; have h2 := HX1.out.size; omega) hsr HM.out hI6 hT6 hI7 hT7 hS2 hR2
    · intro a' w' hx hs hd
      obtain ⟨y, rfl⟩ := hx.ew
      obtain ⟨kb, kb1, kb2, e22, hRL, hRn⟩ : ∃ b sb rb, a'.tmps[22]?.getD undef = .pointer (some ⟨b, 0, none⟩) ∧ RL y.on b sb rb (newL xs) ∧ w.heap.size ≤ b ∧ w.heap.size ≤ sb ∧ w.heap.size ≤ rb := hd 10 22 rfl rfl
      refine .inl ⟨rfl, ?_⟩
      clear hs hd hx
      go_simp
      exact ⟨Ext.refl _ _, kb, kb1, kb2, rfl, hRL, hRn⟩
    · intro a' w' hx hs hd
      obtain ⟨y, rfl⟩ := hx.ew
      refine .inl ⟨rfl, ?_⟩
      clear hs hd hx
      go_simp
      exact ⟨Ext.refl _ _, rfl⟩
  case' q6 =>
    intro vs w' hx hRR
    obtain ⟨x2, rfl⟩ := hx.ew
    have q0 : vs 0 = _ := hRR 0 (by decide)
    have q1 : vs 1 = _ := hRR 1 (by decide)
    obtain ⟨a3, c3, q2, hI3, hT3⟩ : ∃ a cap, vs 2 = .slice a xs.length cap ∧ Ints x2.on a cap xs ∧ intT x2.on a := hRR 2 (by decide)
    obtain ⟨a4, c4, q3, hI4, hT4⟩ : ∃ a cap, vs 3 = .agg #[.int .i64 0, .slice a xs.length cap] ∧ Ints x2.on a cap xs ∧ intT x2.on a := hRR 3 (by decide)
    have q4 : vs 4 = _ := hRR 4 (by decide)
    have q5 : vs 5 = _ := hRR 5 (by decide)
    obtain ⟨a5, c5, q6, hI5, hT5⟩ : ∃ a cap, vs 6 = .slice a xs.length cap ∧ Ints x2.on a cap xs ∧ intT x2.on a := hRR 6 (by decide)
    obtain ⟨ks, q7, hS, hsn⟩ : ∃ k, vs 7 = .slice (some ⟨k, 0, none⟩) 9 9 ∧ Bx x2.on k (stRow clZ) 3 ∧ w.heap.size ≤ k := hRR 7 (by decide)
    obtain ⟨kr, q8, hR, hrn⟩ : ∃ k, vs 8 = .slice (some ⟨k, 0, none⟩) 9 9 ∧ Bx x2.on k (rsRow clZ) 47 ∧ w.heap.size ≤ k := hRR 8 (by decide)
    obtain ⟨a6, c6, a7, c7, ks2, kr2, q9, hI6, hT6, hI7, hT7, hS2, hR2, hsr⟩ : ∃ a1 c1 a2 c2 sb rb, vs 9 = .agg (lrow (newL xs) a1 c1 a2 c2 (.slice none 0 0) sb rb).toArray ∧ Ints x2.on a1 c1 xs ∧ intT x2.on a1 ∧ Ints x2.on a2 c2 xs ∧ intT x2.on a2 ∧ Bx x2.on sb (stRow clZ) 3 ∧ Bx x2.on rb (rsRow clZ) 47 ∧ w.heap.size ≤ sb ∧ w.heap.size ≤ rb := hRR 9 (by decide)
    obtain ⟨kb, kb1, kb2, q10, hRL, hRn⟩ : ∃ b sb rb, vs 10 = .pointer (some ⟨b, 0, none⟩) ∧ RL x2.on b sb rb (newL xs) ∧ w.heap.size ≤ b ∧ w.heap.size ≤ sb ∧ w.heap.size ≤ rb := hRR 10 (by decide)
    obtain ⟨kc, kc1, kc2, q11, hRL2, hRn2⟩ : ∃ b sb rb, vs 11 = .pointer (some ⟨b, 0, none⟩) ∧ RL x2.on b sb rb (newL xs) ∧ w.heap.size ≤ b ∧ w.heap.size ≤ sb ∧ w.heap.size ≤ rb := hRR 11 (by decide)
    have q12 : vs 12 = _ := hRR 12 (by decide)
    clear hRR hx
    simp only [putAll, List.take_succ_cons, List.take_zero, List.drop_succ_cons, List.drop_zero, Act.put, List.setIfInBounds_toArray, List.set_cons_zero, List.set_cons_succ, Nat.reduceAdd, Nat.zero_add]
    simp only [q0, q1, q2, q3, q4, q5, q6, q7, q8, q9, q10, q11, q12]
    clear q0 q1 q2 q3 q4 q5 q6 q7 q8 q9 q10 q11 q12 vs
  have HRL := Go.Lib.hid (And.intro hRL2 hRn2)
  clear hI3 hT3 hI4 hT4 hI5 hT5 hS hR hI6 hT6 hI7 hT7 hS2 hR2 hRL hRL2 hRn hRn2 hsn hrn hsr
  go_wp2
  go_returns
  exact ⟨kc, kc1, kc2, rfl, HRL.out.1, HX1.out.trans x2.ext, HRL.out.2⟩
end Go.Proofs.YtekbonciafbjiaaGreat
