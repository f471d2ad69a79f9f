/- Joined texts: Ops12. What each proves stands at its head; no conditions beside those in its theorems. -/
import Derived.Test.YtfefeepljbfcdaaGreatPjAO
import Derived.Test.YtfefeepljbfcdaaGreatPjAU
/- The scripts of layer 12, read as plain data. -/
namespace Go.Proofs.YtfefeepljbfcdaaGreat
open Go.RowKit Go.ChangeShapes Go.WideShapes
set_option linter.unusedSimpArgs false
set_option linter.unusedVariables false
structure Qop where
 turn : Bool
 c : Int
 s : Int
 k : Int
 key : ByteArray
 bits : Int
 id : Int
instance : Inhabited Qop := ⟨⟨false, 0, 0, 0, ByteArray.empty, 0, 0⟩⟩
def Qop.ask (q : Qop) : List Value := [.int .i64 q.c, .int .i64 q.s, .int .i64 q.k, .string q.key, .int .u64 q.bits, .int .i64 q.id]
structure Qop.Ok (q : Qop) : Prop where
 c : I64 q.c
 s : I64 q.s
 k : I64 q.k
 id : I64 q.id
 b0 : 0 ≤ q.bits
 b1 : q.bits ≤ 18446744073709551615
def Qop.req (q : Qop) : Req := ⟨q.c, q.s, ⟨q.k, q.key, q.bits.toNat, q.id⟩⟩
section
variable {H : Type} {enc : TypeId × Value → H} {W : World} {base n : Nat} {spare : Nat → Bool} {held : Bool}
theorem c_ask12 : (Tryz.prog).cellsOf 37 = 6 := by kernel_rfl
theorem c_bool12 : (Tryz.prog).cellsOf 4 = 1 := by kernel_rfl
theorem c_u6412 : (Tryz.prog).cellsOf 35 = 1 := by kernel_rfl
theorem read_u6412 {cs : List Value} {x : DataW H × List MemPlace} (h : DataW.trod enc Tryz.prog W base spare held n 35 cs = some x) : ∃ k : Int, cs = [.int .u64 k] ∧ 0 ≤ k ∧ k ≤ 18446744073709551615 := by
 obtain ⟨k, e, _, w⟩ := DataW.trod_int Tryz.underlying35 h
 simp only [Lit.wf, Bool.and_eq_true, decide_eq_true_eq] at w
 exact ⟨k, e, w⟩
theorem read_ask12 {cs : List Value} {x : DataW H × List MemPlace} (h : DataW.trod enc Tryz.prog W base spare held n 37 cs = some x) : ∃ q : Qop, cs = q.ask ∧ q.Ok := by
 obtain ⟨hl, hf⟩ := read_struct Tryz.underlying37 h
 have hl : cs.length = 6 := hl.trans c_ask12
 match cs, hl with
 | [v0, v1, v2, v3, v4, v5], _ =>
  obtain ⟨_, _, h0⟩ := hf 0 _ 3 0 1 rfl rfl rfl c_int
  obtain ⟨_, _, h1⟩ := hf 1 _ 3 1 1 rfl rfl rfl c_int
  obtain ⟨_, _, h2⟩ := hf 2 _ 3 2 1 rfl rfl rfl c_int
  obtain ⟨_, _, h3⟩ := hf 3 _ 9 3 1 rfl rfl rfl c_string
  obtain ⟨_, _, h4⟩ := hf 4 _ 35 4 1 rfl rfl rfl c_u6412
  obtain ⟨_, _, h5⟩ := hf 5 _ 3 5 1 rfl rfl rfl c_int
  obtain ⟨k0, e0, w0⟩ := read_int h0
  obtain ⟨k1, e1, w1⟩ := read_int h1
  obtain ⟨k2, e2, w2⟩ := read_int h2
  obtain ⟨k3, e3, _⟩ := DataW.trod_string Tryz.underlying9 h3
  obtain ⟨k4, e4, w4, w4'⟩ := read_u6412 h4
  obtain ⟨k5, e5, w5⟩ := read_int h5
  simp at e0 e1 e2 e3 e4 e5
  subst e0; subst e1; subst e2; subst e3; subst e4; subst e5
  exact ⟨⟨false, k0, k1, k2, k3, k4, k5⟩, rfl, ⟨w0, w1, w2, w5, w4, w4'⟩⟩
structure Ops (w : World) (a : Option Addr) (len : Nat) (F : Nat → Qop) : Prop where
 at_ : ∀ i, i < len → ∃ b o, a = some ⟨b, o, none⟩ ∧ b < w.heap.size ∧ w.cell? ⟨b, o + i * 7, none⟩ = some (.bool (F i).turn) ∧
  w.cell? ⟨b, o + i * 7 + 1, none⟩ = some (.int .i64 (F i).c) ∧ w.cell? ⟨b, o + i * 7 + 2, none⟩ = some (.int .i64 (F i).s) ∧ w.cell? ⟨b, o + i * 7 + 3, none⟩ = some (.int .i64 (F i).k) ∧
  w.cell? ⟨b, o + i * 7 + 4, none⟩ = some (.string (F i).key) ∧ w.cell? ⟨b, o + i * 7 + 5, none⟩ = some (.int .u64 (F i).bits) ∧ w.cell? ⟨b, o + i * 7 + 6, none⟩ = some (.int .i64 (F i).id)
 ok : ∀ i, i < len → (F i).Ok
theorem Ops.extN {w w' : World} {a : Option Addr} {len : Nat} {F : Nat → Qop} (h : Ops w a len F) (x : Ext Non w w') : Ops w' a len F where
 ok := h.ok
 at_ := fun i hi => by
  obtain ⟨b, o, e, hb, h0, h1, h2, h3, h4, h5, h6⟩ := h.at_ i hi
  have t : ∀ {k v}, w.cell? ⟨b, k, none⟩ = some v → w'.cell? ⟨b, k, none⟩ = some v := fun {k v} hc => (x.cell (p := ⟨b, k, none⟩) hb id).trans hc
  exact ⟨b, o, e, Nat.lt_of_lt_of_le hb x.size, t h0, t h1, t h2, t h3, t h4, t h5, t h6⟩
theorem c_op12 : (Tryz.prog).cellsOf 39 = 7 := by kernel_rfl
theorem read_op {cs : List Value} {x : DataW H × List MemPlace} (h : DataW.trod enc Tryz.prog W base spare held n 39 cs = some x) : ∃ q : Qop, cs = .bool q.turn :: q.ask ∧ q.Ok := by
 obtain ⟨hl, hf⟩ := read_struct Tryz.underlying39 h
 have hl : cs.length = 7 := hl.trans c_op12
 match cs, hl with
 | [v0, v1, v2, v3, v4, v5, v6], _ =>
  obtain ⟨_, _, h0⟩ := hf 0 _ 4 0 1 rfl rfl rfl c_bool12
  obtain ⟨_, _, h1⟩ := hf 1 _ 37 1 6 rfl rfl rfl c_ask12
  obtain ⟨b, e0, _⟩ := DataW.trod_bool Tryz.underlying4 h0
  obtain ⟨q, e1, w⟩ := read_ask12 h1
  simp at e0
  subst e0
  have e1 : [v1, v2, v3, v4, v5, v6] = q.ask := e1
  exact ⟨⟨b, q.c, q.s, q.k, q.key, q.bits, q.id⟩, by rw [e1]; rfl, ⟨w.c, w.s, w.k, w.id, w.b0, w.b1⟩⟩
set_option maxRecDepth 100000 in
theorem arg_ops {v : Value} {d : DataW H} {p : List MemPlace} {b0 : Nat} {r : Reach} (ok : Value.okWide Tryz.prog W r b0 25 v) (h : DataW.Trod enc Tryz.prog W base spare held 25 v d p) :
  ∃ a len cap F, v = .slice a len cap ∧ len ≤ maxLen ∧ Ops W a len F := by
 obtain ⟨n, x, hx⟩ := arg_slice Tryz.underlying25 ok h
 obtain ⟨a, len, cap, e, hl, _, _, _, F, hF⟩ := read_slice (fun (q : Qop) cs => cs = .bool q.turn :: q.ask ∧ q.Ok) Tryz.underlying25 c_op12 (fun m cs y hh => read_op hh) hx
 simp at e
 refine ⟨a, len, cap, F, e, hl, ⟨fun i hi => ?_, fun i hi => by obtain ⟨cs, ⟨_, w⟩, _⟩ := hF i hi; exact w⟩⟩
 obtain ⟨cs, ⟨rfl, w⟩, _, hc⟩ := hF i hi
 obtain ⟨b, o, ea, hcell⟩ := hc (by decide)
 have h0 := hcell 0 (by simp [Qop.ask])
 exact ⟨b, o, ea, lt_of_cell h0, h0, hcell 1 (by simp [Qop.ask]), hcell 2 (by simp [Qop.ask]), hcell 3 (by simp [Qop.ask]), hcell 4 (by simp [Qop.ask]), hcell 5 (by simp [Qop.ask]), hcell 6 (by simp [Qop.ask])⟩
end
end Go.Proofs.YtfefeepljbfcdaaGreat
