/- Arguments of layer 16 read as plain data: requests, signatures, certificates, changes. -/
import Derived.Test.YtakbkpklfihfiaaRead
import Derived.Test.YtakbkpklfihfiaaPickP
namespace Go.Proofs.Ytakbkpklfihfiaa
open Go.RowKit Go.ChangeShapes Go.WideShapes
set_option linter.unusedSimpArgs false
set_option linter.unusedVariables false

section
variable {H : Type} {enc : TypeId × Value → H} {W : World} {base n : Nat} {spare : Nat → Bool} {held : Bool}
theorem trod_float {P : Program} {t : TypeId} {k : FloatKind} {cs : List Value} {x : DataW H × List MemPlace} (ht : P.underlying t = some (.float k)) (h : DataW.trod enc P W base spare held n t cs = some x) : ∃ b, cs = [.float k b] ∧ (Lit.float k b).wf = true := by
  cases n with
  | zero => simp [DataW.trod] at h
  | succ n =>
    unfold DataW.trod at h
    rw [ht] at h
    split at h <;> simp_all
theorem read_float {cs : List Value} {x : DataW H × List MemPlace} (h : DataW.trod enc Try.prog W base spare held n 45 cs = some x) : ∃ k : Nat, cs = [.float .f64 k] ∧ k < 18446744073709551616 := by
  obtain ⟨b, e, w⟩ := trod_float Try.underlying45 h
  refine ⟨b, e, ?_⟩
  simpa [Lit.wf] using w
theorem read_str {cs : List Value} {x : DataW H × List MemPlace} (h : DataW.trod enc Try.prog W base spare held n 9 cs = some x) : ∃ s : ByteArray, cs = [.string s] ∧ s.size ≤ 9223372036854775807 := by
  obtain ⟨s, e, _, hs⟩ := DataW.trod_string Try.underlying9 h
  exact ⟨s, e, by unfold maxLen at hs; omega⟩
theorem c_float : (Try.prog).cellsOf 45 = 1 := by kernel_rfl
theorem c_sig : (Try.prog).cellsOf 24 = 2 := by kernel_rfl
theorem c_sigs : (Try.prog).cellsOf 50 = 1 := by kernel_rfl
theorem c_op : (Try.prog).cellsOf 47 = 4 := by kernel_rfl
theorem c_req : (Try.prog).cellsOf 49 = 6 := by kernel_rfl
theorem c_cert : (Try.prog).cellsOf 52 = 9 := by kernel_rfl
theorem c_certs : (Try.prog).cellsOf 22 = 1 := by kernel_rfl
theorem c_change : (Try.prog).cellsOf 26 = 5 := by kernel_rfl
theorem read_sig {cs : List Value} {x : DataW H × List MemPlace} (h : DataW.trod enc Try.prog W base spare held n 24 cs = some x) : ∃ s : Sg, cs = [.int .i64 s.by_, .string s.text] ∧ I64 s.by_ ∧ s.text.size ≤ 9223372036854775807 := by
  obtain ⟨hl, hf⟩ := read_struct Try.underlying24 h
  have hl : cs.length = 2 := hl.trans c_sig
  match cs, hl with
  | [v0, v1], _ =>
    obtain ⟨_, _, h0⟩ := hf 0 _ 3 0 1 rfl rfl rfl c_int
    obtain ⟨_, _, h1⟩ := hf 1 _ 9 1 1 rfl rfl rfl c_string
    obtain ⟨k, e0, hk⟩ := read_int h0
    obtain ⟨s, e1, hs⟩ := read_str h1
    simp at e0 e1
    subst e0; subst e1
    exact ⟨⟨k, s⟩, rfl, hk, hs⟩
theorem read_req {cs : List Value} {x : DataW H × List MemPlace} (h : DataW.trod enc Try.prog W base spare held n 49 cs = some x) : ∃ r : Req, cs = r.cells ∧ ReqOk r := by
  obtain ⟨hl, hf⟩ := read_struct Try.underlying49 h
  have hl : cs.length = 6 := hl.trans c_req
  match cs, hl with
  | [v0, v1, v2, v3, v4, v5], _ =>
    obtain ⟨_, _, h0⟩ := hf 0 _ 3 0 1 rfl rfl rfl c_int
    obtain ⟨_, _, h1⟩ := hf 1 _ 3 1 1 rfl rfl rfl c_int
    obtain ⟨_, _, h2⟩ := hf 2 _ 47 2 4 rfl rfl rfl c_op
    obtain ⟨k0, e0, w0⟩ := read_int h0
    obtain ⟨k1, e1, w1⟩ := read_int h1
    obtain ⟨_, gf⟩ := read_struct Try.underlying47 h2
    obtain ⟨_, _, g0⟩ := gf 0 _ 3 0 1 rfl rfl rfl c_int
    obtain ⟨_, _, g1⟩ := gf 1 _ 9 1 1 rfl rfl rfl c_string
    obtain ⟨_, _, g2⟩ := gf 2 _ 45 2 1 rfl rfl rfl c_float
    obtain ⟨_, _, g3⟩ := gf 3 _ 3 3 1 rfl rfl rfl c_int
    obtain ⟨k2, e2, w2⟩ := read_int g0
    obtain ⟨k3, e3, w3⟩ := read_str g1
    obtain ⟨k4, e4, w4⟩ := read_float g2
    obtain ⟨k5, e5, w5⟩ := read_int g3
    simp at e0 e1 e2 e3 e4 e5
    subst e0; subst e1; subst e2; subst e3; subst e4; subst e5
    exact ⟨⟨k0, k1, ⟨k2, k3, k4, k5⟩⟩, rfl, ⟨w0, w1, w2, w5, w4, w3⟩⟩
theorem read_sigs {cs : List Value} {x : DataW H × List MemPlace} (h : DataW.trod enc Try.prog W base spare held n 50 cs = some x) : ∃ a cap l, cs = [.slice a (l : List Sg).length cap] ∧ Sigs W a cap l := by
  obtain ⟨a, len, cap, rfl, hl, hc, hm, hn, F, hF⟩ := read_slice (α := Sg) (k := 2) (fun q cs => cs = [.int .i64 q.by_, .string q.text] ∧ I64 q.by_ ∧ q.text.size ≤ 9223372036854775807) Try.underlying50 c_sig (fun m cs y hy => read_sig hy) h
  have hlen : ((List.range len).map F).length = len := by simp
  refine ⟨a, cap, (List.range len).map F, by rw [hlen], ⟨by rw [hlen]; exact hc, by unfold maxLen at hm; omega, fun j hj => ?_⟩⟩
  have hj' : j < len := by rw [hlen] at hj; exact hj
  obtain ⟨cs', ⟨rfl, w1, w2⟩, _, hcell⟩ := hF j hj'
  obtain ⟨b, o, rfl, hcc⟩ := hcell (by omega)
  have e : sgAt ((List.range len).map F) j = F j := by rw [sgAt_get hj]; simp
  rw [e]
  have c0 := hcc 0 (by simp)
  have c1 := hcc 1 (by simp)
  exact ⟨b, o, rfl, lt_of_cell c0, c0, c1, w1, w2⟩
theorem read_cert {cs : List Value} {x : DataW H × List MemPlace} (h : DataW.trod enc Try.prog W base spare held n 52 cs = some x) : ∃ q : Ct × Option Addr × Nat, cs = q.1.cells q.2.1 q.2.2 ∧ Sigs W q.2.1 q.2.2 q.1.sigs ∧ ReqOk q.1.req ∧ I64 q.1.view ∧ I64 q.1.slot := by
  obtain ⟨hl, hf⟩ := read_struct Try.underlying52 h
  have hl : cs.length = 9 := hl.trans c_cert
  match cs, hl with
  | [v0, v1, v2, v3, v4, v5, v6, v7, v8], _ =>
    obtain ⟨_, _, h0⟩ := hf 0 _ 3 0 1 rfl rfl rfl c_int
    obtain ⟨_, _, h1⟩ := hf 1 _ 3 1 1 rfl rfl rfl c_int
    obtain ⟨_, _, h2⟩ := hf 2 _ 49 2 6 rfl rfl rfl c_req
    obtain ⟨_, _, h3⟩ := hf 3 _ 50 8 1 rfl rfl rfl c_sigs
    obtain ⟨k0, e0, w0⟩ := read_int h0
    obtain ⟨k1, e1, w1⟩ := read_int h1
    obtain ⟨r, e2, w2⟩ := read_req h2
    obtain ⟨a, cap, l, e3, w3⟩ := read_sigs h3
    obtain ⟨rc, rs, ⟨rk, rkey, rx, rid⟩⟩ := r
    simp [Req.cells] at e0 e1 e2 e3
    obtain ⟨rfl, rfl, rfl, rfl, rfl, rfl⟩ := e2
    subst e0; subst e1; subst e3
    exact ⟨(⟨k0, k1, ⟨rc, rs, ⟨rk, rkey, rx, rid⟩⟩, l⟩, a, cap), rfl, w3, w2, w0, w1⟩
theorem read_certs {cs : List Value} {x : DataW H × List MemPlace} (h : DataW.trod enc Try.prog W base spare held n 22 cs = some x) : ∃ a cap l, cs = [.slice a (l : List Ct).length cap] ∧ Certs W a cap l := by
  obtain ⟨a, len, cap, rfl, hl, hc, hm, hn, F, hF⟩ := read_slice (α := Ct × Option Addr × Nat) (k := 9) (fun q cs => cs = q.1.cells q.2.1 q.2.2 ∧ Sigs W q.2.1 q.2.2 q.1.sigs ∧ ReqOk q.1.req ∧ I64 q.1.view ∧ I64 q.1.slot) Try.underlying22 c_cert (fun m cs y hy => read_cert hy) h
  have hlen : ((List.range len).map fun i => (F i).1).length = len := by simp
  refine ⟨a, cap, (List.range len).map fun i => (F i).1, by rw [hlen], ⟨by rw [hlen]; exact hc, by unfold maxLen at hm; omega, fun j hj => ?_⟩⟩
  have hj' : j < len := by rw [hlen] at hj; exact hj
  obtain ⟨cs', ⟨rfl, w1, w2, w3, w4⟩, hlc, hcell⟩ := hF j hj'
  obtain ⟨b, o, rfl, hcc⟩ := hcell (by omega)
  have e : ctAt ((List.range len).map fun i => (F i).1) j = (F j).1 := by rw [ctAt_get hj]; simp
  rw [e]
  refine ⟨b, o, (F j).2.1, (F j).2.2, rfl, lt_of_cell (hcc 0 (by rw [hlc]; omega)), fun i v hv => ?_, w1, w2, w3, w4⟩
  obtain ⟨hi, rfl⟩ := List.getElem?_eq_some_iff.1 hv
  exact hcc i hi
theorem read_change {cs : List Value} {x : DataW H × List MemPlace} (h : DataW.trod enc Try.prog W base spare held n 26 cs = some x) : ∃ q : Ch × Option Addr × Nat, cs = q.1.cells q.2.1 q.2.2 ∧ Certs W q.2.1 q.2.2 q.1.certs ∧ I64 q.1.from_ ∧ I64 q.1.view ∧ I64 q.1.by_ ∧ q.1.text.size ≤ 9223372036854775807 := by
  obtain ⟨hl, hf⟩ := read_struct Try.underlying26 h
  have hl : cs.length = 5 := hl.trans c_change
  match cs, hl with
  | [v0, v1, v2, v3, v4], _ =>
    obtain ⟨_, _, h0⟩ := hf 0 _ 3 0 1 rfl rfl rfl c_int
    obtain ⟨_, _, h1⟩ := hf 1 _ 3 1 1 rfl rfl rfl c_int
    obtain ⟨_, _, h2⟩ := hf 2 _ 22 2 1 rfl rfl rfl c_certs
    obtain ⟨_, _, h3⟩ := hf 3 _ 24 3 2 rfl rfl rfl c_sig
    obtain ⟨k0, e0, w0⟩ := read_int h0
    obtain ⟨k1, e1, w1⟩ := read_int h1
    obtain ⟨a, cap, l, e2, w2⟩ := read_certs h2
    obtain ⟨s, e3, w3, w3'⟩ := read_sig h3
    obtain ⟨sb, st⟩ := s
    simp at e0 e1 e2 e3
    obtain ⟨rfl, rfl⟩ := e3
    subst e0; subst e1; subst e2
    exact ⟨(⟨k0, k1, l, sb, st⟩, a, cap), rfl, w2, w0, w1, w3, w3'⟩
theorem read_changes {cs : List Value} {x : DataW H × List MemPlace} (h : DataW.trod enc Try.prog W base spare held n 37 cs = some x) : ∃ a cap l, cs = [.slice a (l : List Ch).length cap] ∧ Chs W a cap l := by
  obtain ⟨a, len, cap, rfl, hl, hc, hm, hn, F, hF⟩ := read_slice (α := Ch × Option Addr × Nat) (k := 5) (fun q cs => cs = q.1.cells q.2.1 q.2.2 ∧ Certs W q.2.1 q.2.2 q.1.certs ∧ I64 q.1.from_ ∧ I64 q.1.view ∧ I64 q.1.by_ ∧ q.1.text.size ≤ 9223372036854775807) Try.underlying37 c_change (fun m cs y hy => read_change hy) h
  have hlen : ((List.range len).map fun i => (F i).1).length = len := by simp
  refine ⟨a, cap, (List.range len).map fun i => (F i).1, by rw [hlen], ⟨by rw [hlen]; exact hc, by unfold maxLen at hm; omega, fun j hj => ?_⟩⟩
  have hj' : j < len := by rw [hlen] at hj; exact hj
  obtain ⟨cs', ⟨rfl, w1, w2, w3, w4, w5⟩, hlc, hcell⟩ := hF j hj'
  obtain ⟨b, o, rfl, hcc⟩ := hcell (by omega)
  have e : chAt ((List.range len).map fun i => (F i).1) j = (F j).1 := by rw [chAt_get hj]; simp
  rw [e]
  refine ⟨b, o, (F j).2.1, (F j).2.2, rfl, lt_of_cell (hcc 0 (by rw [hlc]; omega)), fun i v hv => ?_, w1, w2, w3, w4, w5⟩
  obtain ⟨hi, rfl⟩ := List.getElem?_eq_some_iff.1 hv
  exact hcc i hi
set_option maxRecDepth 100000 in
theorem arg_change {v : Value} {d : DataW H} {p : List MemPlace} {b0 : Nat} {r : Reach} (ok : Value.okWide Try.prog W r b0 26 v) (h : DataW.Trod enc Try.prog W base spare held 26 v d p) :
    ∃ (c : Ch) (a : Option Addr) (cap : Nat), v = .agg (c.cells a cap).toArray ∧ Certs W a cap c.certs ∧ I64 c.from_ ∧ I64 c.view := by
  obtain ⟨cs, rfl, n, x, hx⟩ := arg_struct Try.underlying26 ok h
  obtain ⟨q, rfl, w1, w2, w3, _⟩ := read_change hx
  exact ⟨q.1, q.2.1, q.2.2, rfl, w1, w2, w3⟩
set_option maxRecDepth 100000 in
theorem arg_changes {v : Value} {d : DataW H} {p : List MemPlace} {b0 : Nat} {r : Reach} (ok : Value.okWide Try.prog W r b0 37 v) (h : DataW.Trod enc Try.prog W base spare held 37 v d p) :
    ∃ (a : Option Addr) (cap : Nat) (l : List Ch), v = .slice a l.length cap ∧ Chs W a cap l := by
  obtain ⟨n, x, hx⟩ := arg_slice Try.underlying37 ok h
  obtain ⟨a, cap, l, e, hc⟩ := read_changes hx
  simp at e
  exact ⟨a, cap, l, e, hc⟩
set_option maxRecDepth 100000 in
theorem arg_int {v : Value} {d : DataW H} {p : List MemPlace} {b0 : Nat} {r : Reach} (ok : Value.okWide Try.prog W r b0 3 v) (h : DataW.Trod enc Try.prog W base spare held 3 v d p) : ∃ k : Int, v = .int .i64 k ∧ I64 k := by
  obtain ⟨k, rfl⟩ := okWide_int Try.underlying3 ok
  obtain ⟨m, hm⟩ := h
  have hm' : DataW.trod enc Try.prog W base spare held m 3 [.int .i64 k] = some (d, p) := hm
  obtain ⟨k', e, hk⟩ := read_int hm'
  simp at e
  subst e
  exact ⟨_, rfl, hk⟩
end
end Go.Proofs.Ytakbkpklfihfiaa
