/- Joined texts: Ask22. What each proves stands at its head; no conditions beside those in its theorems. -/
import Derived.Test.YtekbonciafbjiaaGreatPjAA
import Derived.Test.YtekbonciafbjiaaGreatPjAC
import Derived.Test.YtekbonciafbjiaaGreatPjAD
import Derived.Test.YtekbonciafbjiaaGreatPjAG
import Derived.Test.YtekbonciafbjiaaGreatPjAI
import Derived.Test.YtekbonciafbjiaaGreatPjAJ
import Derived.Test.YtekbonciafbjiaaGreatPjAL
import Derived.Test.YtekbonciafbjiaaGreatPjAM
import Derived.Test.YtekbonciafbjiaaGreatPjAO
import Derived.Test.YtekbonciafbjiaaGreatPjAR
import Derived.Test.YtekbonciafbjiaaGreatPjAW
import Derived.Test.YtekbonciafbjiaaGreatPjAE
import Derived.Test.YtekbonciafbjiaaGreatPjAP
/- Contracts of the law of layer 11: a request of an Ask. -/
namespace Go.Proofs.YtekbonciafbjiaaGreat
open Go.RowKit Go.Lib F64
set_option linter.unusedSimpArgs false
set_option linter.unusedVariables false
attribute [local go_sem] run_store_float
attribute [local go_sem low] EW.cellN EW.frozN alloc_cell_or alloc_froz_or EW.cellF EW.frozF EW.cell1 EW.froz1
attribute [local go_sem] relAt relUpon
theorem info_req6 : (Tryz.prog.info? 53).map (·.size) = some 6 := by kernel_rfl
set_option maxHeartbeats 1000000 in
set_option maxRecDepth 100000 in
theorem law11_Request (c s k : Int) (key : ByteArray) (b id : Int) (w : World) :
    Calls Tryz.prog 13 #[.agg #[.int .i64 c, .int .i64 s, .int .i64 k, .string key, .int .u64 b, .int .i64 id]] w fun e w' =>
    e = .returned (.agg #[.int .i64 c, .int .i64 s, .int .i64 k, .string key, .float .f64 b.toNat, .int .i64 id]) ∧ Ext Non w w' := by
  go_enter Tryz.func13, Tryz.ntmps13
  go_upto_region 1 with fail
  apply wp_region_rel_tail 15 (relR [Mo.is _, Mo.is _, Mo.is _, Mo.is _, Mo.is _, Mo.is _, Mo.is _, Mo.is _, Mo.is _, Mo.is _, Mo.is _, Mo.is _, Mo.is _, Mo.is _, Mo.is _]) (by kernel_rfl) (by kernel_rfl) (by kernel_rfl) (by kernel_rfl) (by kernel_rfl) (by decide) (by kernel_rfl) (relR_mono _) (StepD.all ?st1) ?q1
  case st1 =>
    refine ⟨?_, ?_, ?_, ?_, ?_, ?_, ?_, ?_, ?_, ?_, ?_, ?_, ?_, ?_, ?_, trivial⟩
    · intro a' w' hx hs hd
      obtain ⟨y, rfl⟩ := hx.ew
      have e1 : a'.tmps[1]?.getD undef = _ := hs 1 rfl
      simp only [List.getElem?_toArray, List.getElem?_cons_succ, List.getElem?_cons_zero, Option.getD_some, Array.getElem?_eq_some_iff] at e1
      refine .inl ⟨rfl, ?_⟩
      clear hs hd hx
      go_simp
      exact ⟨Ext.refl _ _, rfl⟩
    · intro a' w' hx hs hd
      obtain ⟨y, rfl⟩ := hx.ew
      have e3 : a'.tmps[3]?.getD undef = _ := hd 0 3 rfl rfl
      refine .inl ⟨rfl, ?_⟩
      clear hs hd hx
      go_simp
      exact ⟨Ext.refl _ _, rfl⟩
    · intro a' w' hx hs hd
      obtain ⟨y, rfl⟩ := hx.ew
      have e1 : a'.tmps[1]?.getD undef = _ := hs 1 rfl
      simp only [List.getElem?_toArray, List.getElem?_cons_succ, List.getElem?_cons_zero, Option.getD_some, Array.getElem?_eq_some_iff] at e1
      refine .inl ⟨rfl, ?_⟩
      clear hs hd hx
      go_simp
      exact ⟨Ext.refl _ _, rfl⟩
    · intro a' w' hx hs hd
      obtain ⟨y, rfl⟩ := hx.ew
      have e5 : a'.tmps[5]?.getD undef = _ := hd 2 5 rfl rfl
      refine .inl ⟨rfl, ?_⟩
      clear hs hd hx
      go_simp
      exact ⟨Ext.refl _ _, rfl⟩
    · intro a' w' hx hs hd
      obtain ⟨y, rfl⟩ := hx.ew
      have e1 : a'.tmps[1]?.getD undef = _ := hs 1 rfl
      simp only [List.getElem?_toArray, List.getElem?_cons_succ, List.getElem?_cons_zero, Option.getD_some, Array.getElem?_eq_some_iff] at e1
      refine .inl ⟨rfl, ?_⟩
      clear hs hd hx
      go_simp
      exact ⟨Ext.refl _ _, rfl⟩
    · intro a' w' hx hs hd
      obtain ⟨y, rfl⟩ := hx.ew
      have e7 : a'.tmps[7]?.getD undef = _ := hd 4 7 rfl rfl
      refine .inl ⟨rfl, ?_⟩
      clear hs hd hx
      go_simp
      exact ⟨Ext.refl _ _, rfl⟩
    · intro a' w' hx hs hd
      obtain ⟨y, rfl⟩ := hx.ew
      have e1 : a'.tmps[1]?.getD undef = _ := hs 1 rfl
      simp only [List.getElem?_toArray, List.getElem?_cons_succ, List.getElem?_cons_zero, Option.getD_some, Array.getElem?_eq_some_iff] at e1
      refine .inl ⟨rfl, ?_⟩
      clear hs hd hx
      go_simp
      exact ⟨Ext.refl _ _, rfl⟩
    · intro a' w' hx hs hd
      obtain ⟨y, rfl⟩ := hx.ew
      have e9 : a'.tmps[9]?.getD undef = _ := hd 6 9 rfl rfl
      refine .inl ⟨rfl, ?_⟩
      clear hs hd hx
      go_simp
      exact ⟨Ext.refl _ _, rfl⟩
    · intro a' w' hx hs hd
      obtain ⟨y, rfl⟩ := hx.ew
      have e1 : a'.tmps[1]?.getD undef = _ := hs 1 rfl
      simp only [List.getElem?_toArray, List.getElem?_cons_succ, List.getElem?_cons_zero, Option.getD_some, Array.getElem?_eq_some_iff] at e1
      refine .inl ⟨rfl, ?_⟩
      clear hs hd hx
      go_simp
      exact ⟨Ext.refl _ _, rfl⟩
    · intro a' w' hx hs hd
      obtain ⟨y, rfl⟩ := hx.ew
      have e11 : a'.tmps[11]?.getD undef = _ := hd 8 11 rfl rfl
      refine .inl ⟨rfl, ?_⟩
      clear hs hd hx
      go_simp
      exact ⟨Ext.refl _ _, rfl⟩
    · intro a' w' hx hs hd
      obtain ⟨y, rfl⟩ := hx.ew
      have e12 : a'.tmps[12]?.getD undef = _ := hd 9 12 rfl rfl
      refine .inl ⟨rfl, ?_⟩
      clear hs hd hx
      go_simp
      exact ⟨Ext.refl _ _, rfl⟩
    · intro a' w' hx hs hd
      obtain ⟨y, rfl⟩ := hx.ew
      have e1 : a'.tmps[1]?.getD undef = _ := hs 1 rfl
      simp only [List.getElem?_toArray, List.getElem?_cons_succ, List.getElem?_cons_zero, Option.getD_some, Array.getElem?_eq_some_iff] at e1
      refine .inl ⟨rfl, ?_⟩
      clear hs hd hx
      go_simp
      exact ⟨Ext.refl _ _, rfl⟩
    · intro a' w' hx hs hd
      obtain ⟨y, rfl⟩ := hx.ew
      have e14 : a'.tmps[14]?.getD undef = _ := hd 11 14 rfl rfl
      refine .inl ⟨rfl, ?_⟩
      clear hs hd hx
      go_simp
      exact ⟨Ext.refl _ _, rfl⟩
    · intro a' w' hx hs hd
      obtain ⟨y, rfl⟩ := hx.ew
      have e8 : a'.tmps[8]?.getD undef = _ := hd 5 8 rfl rfl
      have e10 : a'.tmps[10]?.getD undef = _ := hd 7 10 rfl rfl
      have e13 : a'.tmps[13]?.getD undef = _ := hd 10 13 rfl rfl
      have e15 : a'.tmps[15]?.getD undef = _ := hd 12 15 rfl rfl
      refine .inl ⟨rfl, ?_⟩
      clear hs hd hx
      go_simp
      exact ⟨Ext.refl _ _, rfl⟩
    · intro a' w' hx hs hd
      obtain ⟨y, rfl⟩ := hx.ew
      have e4 : a'.tmps[4]?.getD undef = _ := hd 1 4 rfl rfl
      have e6 : a'.tmps[6]?.getD undef = _ := hd 3 6 rfl rfl
      have e16 : a'.tmps[16]?.getD undef = _ := hd 13 16 rfl rfl
      refine .inl ⟨rfl, ?_⟩
      clear hs hd hx
      go_simp
      exact ⟨Ext.refl _ _, rfl⟩
  case' q1 =>
    intro vs w' hx hRR
    obtain ⟨xq, rfl⟩ := hx.ew
    have q0 : vs 0 = _ := hRR 0 (by decide)
    have q1 : vs 1 = _ := hRR 1 (by decide)
    have q2 : vs 2 = _ := hRR 2 (by decide)
    have q3 : vs 3 = _ := hRR 3 (by decide)
    have q4 : vs 4 = _ := hRR 4 (by decide)
    have q5 : vs 5 = _ := hRR 5 (by decide)
    have q6 : vs 6 = _ := hRR 6 (by decide)
    have q7 : vs 7 = _ := hRR 7 (by decide)
    have q8 : vs 8 = _ := hRR 8 (by decide)
    have q9 : vs 9 = _ := hRR 9 (by decide)
    have q10 : vs 10 = _ := hRR 10 (by decide)
    have q11 : vs 11 = _ := hRR 11 (by decide)
    have q12 : vs 12 = _ := hRR 12 (by decide)
    have q13 : vs 13 = _ := hRR 13 (by decide)
    have q14 : vs 14 = _ := hRR 14 (by decide)
    clear hRR hx
    simp only [putAll, List.take_succ_cons, List.take_zero, List.drop_succ_cons, List.drop_zero, Act.put, List.setIfInBounds_toArray, List.set_cons_zero, List.set_cons_succ, Nat.reduceAdd, Nat.zero_add]
    simp only [q0, q1, q2, q3, q4, q5, q6, q7, q8, q9, q10, q11, q12, q13, q14]
    clear q0 q1 q2 q3 q4 q5 q6 q7 q8 q9 q10 q11 q12 q13 q14 vs
  go_wp2_with (refine wpList_store_box rfl 53 _ _ rfl (w.heap.size + 1) _ [.int .i64 c, .int .i64 s, .int .i64 k, .string key, .float .f64 b.toNat, .int .i64 id] _ rfl rfl (Bx.extN (Bx.newAt _ _ _ _ (by simp)) xq.ext) rfl info_req6 (by simp [Value.oneCell']) (fun W hB => ?_); have BZ := Go.Lib.hid hB; clear hB)
  have r0 : W.on.cell? ⟨w.heap.size + 1, 0, none⟩ = some (.int .i64 c) := BZ.out.cell rfl
  have r1 : W.on.cell? ⟨w.heap.size + 1, 1, none⟩ = some (.int .i64 s) := BZ.out.cell rfl
  have r2 : W.on.cell? ⟨w.heap.size + 1, 2, none⟩ = some (.int .i64 k) := BZ.out.cell rfl
  have r3 : W.on.cell? ⟨w.heap.size + 1, 3, none⟩ = some (.string key) := BZ.out.cell rfl
  have r4 : W.on.cell? ⟨w.heap.size + 1, 4, none⟩ = some (.float .f64 b.toNat) := BZ.out.cell rfl
  have r5 : W.on.cell? ⟨w.heap.size + 1, 5, none⟩ = some (.int .i64 id) := BZ.out.cell rfl
  go_wp2
  exact bodyPost_ret (v := .agg #[.int .i64 c, .int .i64 s, .int .i64 k, .string key, .float .f64 b.toNat, .int .i64 id]) (by simp [results, Tryz.results13, go_sem, r0, r1, r2, r3, r4, r5]) rfl ⟨rfl, by (repeat (first | with_reducible (first | exact Ext.refl _ _ | assumption | refine Ext.upN ?_ | refine Ext.alloc ?_ _ | refine Ext.drew ?_ | refine Ext.drewN ?_ _ | refine Ext.up1N (by first | omega | simp) ?_) | refine Ext.alloc ?_ _ | refine Ext.setCell ?_ (.inr (by first | omega | simp)) _))⟩
section
open Go.ChangeShapes Go.WideShapes
variable {H : Type} {enc : TypeId × Value → H} {W : World} {base n : Nat} {spare : Nat → Bool} {held : Bool}
theorem read_str {cs : List Value} {x : DataW H × List MemPlace} (h : DataW.trod enc Tryz.prog W base spare held n 9 cs = some x) : ∃ s : ByteArray, cs = [.string s] ∧ s.size ≤ 9223372036854775807 := by
  obtain ⟨s, e, _, hs⟩ := DataW.trod_string Tryz.underlying9 h
  exact ⟨s, e, by unfold maxLen at hs; omega⟩
theorem read_u64 {cs : List Value} {x : DataW H × List MemPlace} (h : DataW.trod enc Tryz.prog W base spare held n 26 cs = some x) : ∃ k : Int, cs = [.int .u64 k] ∧ 0 ≤ k ∧ k ≤ 18446744073709551615 := by
  obtain ⟨k, e, _, w⟩ := DataW.trod_int Tryz.underlying26 h
  refine ⟨k, e, ?_⟩
  simp only [Lit.wf, Bool.and_eq_true, decide_eq_true_eq] at w
  exact w
theorem c_u64 : (Tryz.prog).cellsOf 26 = 1 := by kernel_rfl
theorem c_ask : (Tryz.prog).cellsOf 28 = 6 := by kernel_rfl
theorem read_ask {cs : List Value} {x : DataW H × List MemPlace} (h : DataW.trod enc Tryz.prog W base spare held n 28 cs = some x) :
    ∃ (c s k : Int) (key : ByteArray) (b id : Int), cs = [.int .i64 c, .int .i64 s, .int .i64 k, .string key, .int .u64 b, .int .i64 id] ∧ ReqOk ⟨c, s, ⟨k, key, b.toNat, id⟩⟩ := by
  obtain ⟨hl, hf⟩ := read_struct Tryz.underlying28 h
  have hl : cs.length = 6 := hl.trans c_ask
  match cs, hl with
  | [v0, v1, v2, v3, v4, v5], _ =>
    obtain ⟨_, _, h0⟩ := hf 0 _ 3 0 1 rfl rfl rfl c_int
    obtain ⟨_, _, h1⟩ := hf 1 _ 3 1 1 rfl rfl rfl c_int
    obtain ⟨_, _, h2⟩ := hf 2 _ 3 2 1 rfl rfl rfl c_int
    obtain ⟨_, _, h3⟩ := hf 3 _ 9 3 1 rfl rfl rfl c_string
    obtain ⟨_, _, h4⟩ := hf 4 _ 26 4 1 rfl rfl rfl c_u64
    obtain ⟨_, _, h5⟩ := hf 5 _ 3 5 1 rfl rfl rfl c_int
    obtain ⟨k0, e0, w0⟩ := read_int h0
    obtain ⟨k1, e1, w1⟩ := read_int h1
    obtain ⟨k2, e2, w2⟩ := read_int h2
    obtain ⟨k3, e3, w3⟩ := read_str h3
    obtain ⟨k4, e4, w4⟩ := read_u64 h4
    obtain ⟨k5, e5, w5⟩ := read_int h5
    simp at e0 e1 e2 e3 e4 e5
    subst e0; subst e1; subst e2; subst e3; subst e4; subst e5
    exact ⟨k0, k1, k2, k3, k4, k5, rfl, ⟨w0, w1, w2, w5, by show k4.toNat < _; omega, w3⟩⟩
/-- A question, as it comes in. -/
structure Ak where
  c : Int
  s : Int
  k : Int
  key : ByteArray
  b : Int
  id : Int
def Ak.cells (o : Ak) : List Value := [.int .i64 o.c, .int .i64 o.s, .int .i64 o.k, .string o.key, .int .u64 o.b, .int .i64 o.id]
def Ak.req (o : Ak) : Req := ⟨o.c, o.s, ⟨o.k, o.key, o.b.toNat, o.id⟩⟩
instance : Inhabited Ak := ⟨⟨0, 0, 0, ByteArray.empty, 0, 0⟩⟩
structure Aks (w : World) (a : Option Addr) (cap : Nat) (l : List Ak) : Prop where
  le : l.length ≤ cap
  small : cap ≤ 9223372036854775807
  at_ : ∀ j (h : j < l.length), ∃ b o, a = some ⟨b, o, none⟩ ∧ b < w.heap.size ∧ (∀ i v, (l[j].cells)[i]? = some v → w.cell? ⟨b, o + j * 6 + i, none⟩ = some v) ∧ ReqOk l[j].req
theorem read_asks {cs : List Value} {x : DataW H × List MemPlace} (h : DataW.trod enc Tryz.prog W base spare held n 25 cs = some x) : ∃ a cap l, cs = [.slice a (l : List Ak).length cap] ∧ Aks W a cap l := by
  obtain ⟨a, len, cap, rfl, hl, hc, hm, hn, F, hF⟩ := read_slice (α := Ak) (k := 6) (fun q cs => cs = q.cells ∧ ReqOk q.req) Tryz.underlying25 c_ask (fun m cs y hy => by
    obtain ⟨c, s, k, key, b, id, e, h⟩ := read_ask hy
    exact ⟨⟨c, s, k, key, b, id⟩, e, h⟩) h
  have hlen : ((List.range len).map F).length = len := by simp
  refine ⟨a, cap, (List.range len).map F, by rw [hlen], ⟨by rw [hlen]; exact hc, by unfold maxLen at hm; omega, fun j hj => ?_⟩⟩
  have hj' : j < len := by rw [hlen] at hj; exact hj
  obtain ⟨cs', ⟨rfl, w1⟩, hlc, hcell⟩ := hF j hj'
  obtain ⟨b, o, rfl, hcc⟩ := hcell (by omega)
  have e : ((List.range len).map F)[j] = F j := by simp
  rw [e]
  refine ⟨b, o, rfl, lt_of_cell (hcc 0 (by rw [hlc]; omega)), fun i v hv => ?_, w1⟩
  obtain ⟨hi, rfl⟩ := List.getElem?_eq_some_iff.1 hv
  exact hcc i hi
theorem Aks.extN {w w' : World} {a : Option Addr} {cap : Nat} {l : List Ak} (h : Aks w a cap l) (x : Ext Non w w') : Aks w' a cap l :=
  ⟨h.le, h.small, fun j hj => by
    obtain ⟨b, o, e, hb, c, r⟩ := h.at_ j hj
    exact ⟨b, o, e, Nat.lt_of_lt_of_le hb x.size, fun i v hv => (x.cell (p := ⟨b, o + j * 6 + i, none⟩) hb (fun f => f)).trans (c i v hv), r⟩⟩
end
/-- A row of requests. -/
structure Reqs (w : World) (a : Option Addr) (cap : Nat) (l : List Req) : Prop where
  le : l.length ≤ cap
  small : cap ≤ 9223372036854775807
  at_ : ∀ j (h : j < l.length), ∃ b o, a = some ⟨b, o, none⟩ ∧ b < w.heap.size ∧ (∀ i v, (l[j].cells)[i]? = some v → w.cell? ⟨b, o + j * 6 + i, none⟩ = some v)
theorem Reqs.ext {S : Nat → Prop} {w w' : World} {a : Option Addr} {cap : Nat} {l : List Req} (h : Reqs w a cap l) (x : Ext S w w') (hs : ∀ b o, a = some ⟨b, o, none⟩ → ¬ S b) : Reqs w' a cap l :=
  ⟨h.le, h.small, fun j hj => by
    obtain ⟨b, o, e, hb, c⟩ := h.at_ j hj
    exact ⟨b, o, e, Nat.lt_of_lt_of_le hb x.size, fun i v hv => (x.cell (p := ⟨b, o + j * 6 + i, none⟩) hb (hs b o e)).trans (c i v hv)⟩⟩
theorem Reqs.extN {w w' : World} {a : Option Addr} {cap : Nat} {l : List Req} (h : Reqs w a cap l) (x : Ext Non w w') : Reqs w' a cap l := h.ext x fun _ _ _ f => f
theorem flatA_get {α : Type} (f : α → List Value) (k : Nat) (hk : ∀ a, (f a).length = k) : ∀ (l : List α) (j i : Nat) (h : j < l.length), i < k → (l.flatMap f)[j * k + i]? = (f l[j])[i]?
  | a :: t, 0, i, _, hi => by
    rw [List.flatMap_cons, List.getElem?_append_left (by rw [hk]; omega), Nat.zero_mul, Nat.zero_add]; rfl
  | a :: t, j + 1, i, h, hi => by
    have e : (j + 1) * k + i = k + (j * k + i) := by rw [Nat.add_mul]; omega
    rw [List.flatMap_cons, List.getElem?_append_right (by rw [hk]; omega), hk, show (j + 1) * k + i - k = j * k + i by omega]
    exact flatA_get f k hk t j i (by simpa using h) hi
theorem ownA_rows {α : Type} {w : World} {base : Nat} {e : TypeId} {k : Nat} {v : Value} (l : List α) (f : α → List Value) (hk : ∀ a, (f a).length = k) (h : w.ownsRow base e k v l.length (l.flatMap f)) :
    ∃ a cap, v = .slice a l.length cap ∧ l.length ≤ cap ∧ cap ≤ 9223372036854775807 ∧ ∀ j (hj : j < l.length), ∃ g, a = some ⟨g, 0, none⟩ ∧ g < w.heap.size ∧ ∀ i u, (f l[j])[i]? = some u → w.cell? ⟨g, 0 + j * k + i, none⟩ = some u := by
  rcases h.2 with ⟨rfl, hn⟩ | ⟨g, cap, cur, rfl, hb, hg, hc, hm, hs, ht⟩
  · exact ⟨none, 0, by rw [hn], by omega, by omega, fun j hj => by omega⟩
  · refine ⟨_, cap, rfl, hc, by unfold maxLen at hm; omega, fun j hj => ⟨g, rfl, (Array.getElem?_eq_some_iff.1 hg).1, fun i u hu => ?_⟩⟩
    have hi : i < k := by have := (List.getElem?_eq_some_iff.1 hu).1; rw [hk] at this; exact this
    have q := flatA_get f k hk l j i hj hi
    have hlt : j * k + i < l.length * k := by
      have : (j + 1) * k ≤ l.length * k := Nat.mul_le_mul_right _ hj
      rw [Nat.add_mul] at this; omega
    rw [hu, ← ht, List.getElem?_take, if_pos (by omega), Array.getElem?_toList] at q
    have hgc : w.cell? ⟨g, j * k + i, none⟩ = cur[j * k + i]? := by simp [World.cell?, hg]
    rw [Nat.zero_add, hgc]; exact q
theorem reqs_of_own {w : World} {base : Nat} {e : TypeId} {v : Value} (l : List Req) (h : w.ownsRow base e 6 v l.length (l.flatMap Req.cells)) : ∃ a cap, v = .slice a l.length cap ∧ Reqs w a cap l := by
  obtain ⟨a, cap, rfl, h1, h2, h3⟩ := ownA_rows l Req.cells (fun _ => rfl) h
  exact ⟨a, cap, rfl, h1, h2, fun j hj => by
    obtain ⟨g, rfl, hg, hc⟩ := h3 j hj
    exact ⟨g, 0, rfl, hg, hc⟩⟩
end Go.Proofs.YtekbonciafbjiaaGreat
