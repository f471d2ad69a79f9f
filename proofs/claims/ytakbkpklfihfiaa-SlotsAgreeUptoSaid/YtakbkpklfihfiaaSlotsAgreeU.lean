/- The law SlotsAgree over readings, where what comes in is of bulk at most 1048576. -/
import Derived.Test.YtakbkpklfihfiaaRows
import Derived.Test.YtakbkpklfihfiaaSlotsAgree14
namespace Go.Proofs.Ytakbkpklfihfiaa
open Go.RowKit Go.ChangeShapes Go.WideShapes
set_option linter.unusedSimpArgs false
set_option linter.unusedVariables false
theorem bulk_one {H : Type} (d : DataW H) : 1 ≤ Rows.uptoBulk d := by
  cases d with
  | lit l => cases l <;> simp [Rows.uptoBulk]
  | nil => simp [Rows.uptoBulk]
  | ptr d => simp [Rows.uptoBulk]
  | slice elems spare => simp [Rows.uptoBulk]
  | agg parts => simp [Rows.uptoBulk]
  | iface t d => simp [Rows.uptoBulk]
  | map entries => simp [Rows.uptoBulk]
  | held h => simp [Rows.uptoBulk]
theorem bulk_part {H : Type} {d : DataW H} {l : List (DataW H)} (h : d ∈ l) : Rows.uptoBulk d ≤ Rows.uptoBulkAll l := by
  induction l with
  | nil => cases h
  | cons x r ih =>
    simp only [Rows.uptoBulkAll]
    rcases List.mem_cons.1 h with e | e
    · subst e; omega
    · have := ih e; omega
theorem bulk_twice {H : Type} (l : List (DataW H)) (h : ∀ d ∈ l, 2 ≤ Rows.uptoBulk d) : 2 * l.length ≤ Rows.uptoBulkAll l := by
  induction l with
  | nil => simp [Rows.uptoBulkAll]
  | cons x r ih =>
    have h1 := h x List.mem_cons_self
    have h2 := ih (fun d hd => h d (List.mem_cons_of_mem _ hd))
    simp only [Rows.uptoBulkAll, List.length_cons]
    omega
section
variable {H : Type} {enc : TypeId × Value → H} {W : World} {base n : Nat} {spare : Nat → Bool} {held : Bool}
theorem bulk_op {cs : List Value} {x : DataW H × List MemPlace} (h : DataW.trod enc Try.prog W base spare held n 75 cs = some x) : 2 ≤ Rows.uptoBulk x.1 := by
  obtain ⟨xs, m, _, rfl, _, hl, _⟩ := DataW.trod_struct Try.underlying75 h
  have hl : xs.length = 6 := hl
  match xs, hl with
  | y :: ys, _ =>
    have := bulk_one y.1
    simp only [List.map_cons, Rows.uptoBulk, Rows.uptoBulkAll]
    omega
theorem bulk_ops {cs : List Value} {x : DataW H × List MemPlace} (h : DataW.trod enc Try.prog W base spare held n 69 cs = some x) : ∃ a len cap, cs = [.slice a len cap] ∧ 2 * len ≤ Rows.uptoBulk x.1 := by
  rcases Go.Deep.open_slice Try.underlying69 h with ⟨rfl, rfl⟩ | ⟨a, len, cap, m, k', D, Pl, rfl, hb, hl, hm, hmm, rfl, hx⟩
  · exact ⟨none, 0, 0, rfl, by omega⟩
  · refine ⟨some a, len, cap, rfl, ?_⟩
    have hlm : len ≤ m := by rw [hmm]; split <;> omega
    have hb := bulk_twice ((List.range len).map D) (fun d hd => by
      obtain ⟨i, hi, rfl⟩ := List.mem_map.1 hd
      obtain ⟨cs', h1, h2⟩ := hx i (by have := List.mem_range.1 hi; omega)
      exact bulk_op h2)
    simp only [List.length_map, List.length_range] at hb
    simp only [Rows.uptoBulk]
    omega
theorem okWide_arr {P : Program} {w : World} {r : Reach} {base m : Nat} {t e : TypeId} {v : Value} (ht : P.underlying t = some (.array m e)) (h : Value.okWide P w r base t v) : ∃ cs, v = .agg cs ∧ cs.size = P.cellsOf t := by
  simp only [Value.okWide, ht] at h
  obtain ⟨cs, h1, h2, _⟩ := h
  exact ⟨cs, h1, h2⟩
theorem c_ops14' : (Try.prog).cellsOf 69 = 1 := by kernel_rfl
set_option maxRecDepth 100000 in
theorem arg_two {v : Value} {d : DataW H} {p : List MemPlace} {b0 : Nat} {r : Reach} (ok : Value.okWide Try.prog W r b0 70 v) (h : DataW.Trod enc Try.prog W base spare held 70 v d p) :
    ∃ (p0 : Option Addr) (c0 : Nat) (l0 : List Stp) (p1 : Option Addr) (c1 : Nat) (l1 : List Stp), v = .agg #[.slice p0 l0.length c0, .slice p1 l1.length c1] ∧ Stps W p0 c0 l0 ∧ Stps W p1 c1 l1 ∧ 2 * (l0.length + l1.length) ≤ Rows.uptoBulk d := by
  obtain ⟨cs, rfl, hcs⟩ := okWide_arr Try.underlying70 ok
  obtain ⟨m, hm⟩ := h
  have hm' : DataW.trod enc Try.prog W base spare held m 70 cs.toList = some (d, p) := hm
  obtain ⟨xs, m', _, hx, hl, hn, hf⟩ := DataW.trod_array Try.underlying70 hm'
  have hl : cs.toList.length = 2 := hl.trans (by kernel_rfl)
  obtain ⟨cl, hcl⟩ : ∃ cl, cl = cs.toList := ⟨_, rfl⟩
  have hcs' : cs = cl.toArray := by rw [hcl]
  rw [← hcl] at hl hf
  subst hcs'
  match cl, hl, xs, hn with
  | [u0, u1], _, [y0, y1], _ =>
    have f0 := hf 0 (by omega)
    have f1 := hf 1 (by omega)
    rw [c_ops14'] at f0 f1
    simp at f0 f1
    obtain ⟨a0, k0, l0, e0, s0⟩ := read_ops14 f0
    obtain ⟨a1, k1, l1, e1, s1⟩ := read_ops14 f1
    obtain ⟨b0, n0, j0, g0, t0⟩ := bulk_ops f0
    obtain ⟨b1, n1, j1, g1, t1⟩ := bulk_ops f1
    injection e0 with e0; injection e1 with e1; injection g0 with g0; injection g1 with g1
    subst e0; subst e1
    injection g0 with _ g0 _; injection g1 with _ g1 _
    subst g0; subst g1
    refine ⟨a0, k0, l0, a1, k1, l1, rfl, s0, s1, ?_⟩
    injection hx with hx _
    rw [hx]
    simp only [List.map_cons, List.map_nil, Rows.uptoBulk, Rows.uptoBulkAll]
    omega
end
set_option maxRecDepth 100000 in
theorem law_SlotsAgree {H : Type} {enc : TypeId × Value → H} (W : World) {base : Nat} (v0 : Value) (d0 : DataW H) (p0 : List MemPlace) (v1 : Value) (d1 : DataW H) (p1 : List MemPlace) (v2 : Value) (d2 : DataW H) (p2 : List MemPlace)
    (h0 : DataW.Trod enc Try.prog W 0 (fun _ => true) true 34 v0 d0 p0) (ok0 : Value.okWide Try.prog W .any base 34 v0)
    (h1 : DataW.Trod enc Try.prog W 0 (fun _ => true) true 32 v1 d1 p1) (ok1 : Value.okWide Try.prog W .any base 32 v1)
    (h2 : DataW.Trod enc Try.prog W 0 (fun _ => true) true 70 v2 d2 p2) (ok2 : Value.okWide Try.prog W .any base 70 v2)
    (hk : Rows.uptoSmall H [d0, d1, d2] = true) :
    Calls Try.prog 9 #[v0, v1, v2] W fun e w' => e = .returned (.bool true) ∧ Below W.heap.size W w' := by
  obtain ⟨ep, a, cap, xs, rfl, hep, hi, _⟩ := arg_conf ok0 h0
  obtain ⟨n, x, hx⟩ := arg_slice Try.underlying32 ok1 h1
  obtain ⟨da, dcap, bad, e1, hb, _⟩ := read_ints hx
  have e1' : v1 = .slice da bad.length dcap := by simpa using e1
  subst e1'
  obtain ⟨q0, c0, l0, q1, c1, l1, rfl, s0, s1, hbk⟩ := arg_two ok2 h2
  have hall : Rows.uptoBulkAll [d0, d1, d2] ≤ 1048576 := of_decide_eq_true hk
  have hd := bulk_part (d := d2) (l := [d0, d1, d2]) (by simp)
  exact (walk_SlotsAgree ep hep a cap xs da dcap bad q0 c0 l0 q1 c1 l1 (by omega) W hi hb s0 s1).mono fun _ _ ⟨a, b⟩ => ⟨a, b.toBelow⟩
end Go.Proofs.Ytakbkpklfihfiaa
