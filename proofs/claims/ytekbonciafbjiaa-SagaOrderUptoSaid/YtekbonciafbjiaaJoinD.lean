/- Joined texts: SagaMerges22, SagaU. What each proves stands at its head; no conditions beside those in its theorems. -/
import Derived.Test.YtekbonciafbjiaaJoinC
import Derived.Test.YtekbonciafbjiaaRows
/- The law SagaMerges: the walk. -/
namespace Go.Proofs.Ytekbonciafbjiaa
open Go.RowKit Go.Lib F64
set_option linter.unusedSimpArgs false
set_option linter.unusedVariables false
attribute [local go_sem] run_store_float
attribute [local go_sem low] EW.cellN EW.frozN alloc_cell_or alloc_froz_or EW.cellF EW.frozF EW.cell1 EW.froz1
attribute [local go_sem] relAt relUpon
def allL (l : List (List Ln)) : List En := l.flatMap ensOf
theorem allE_allL {rs : List EnR} {l : List (List Ln)} (h : rs.map (·.2.2) = l.map ensOf) : allE rs = allL l := by
  unfold allE allL
  rw [List.flatMap_def, List.flatMap_def, h]
theorem lls_ok {w : World} {a : Option Addr} {cap : Nat} {l : List (List Ln)} (h : LLs w a cap l) : ∀ x ∈ allL l, x.ok := fun x hx => by
  unfold allL at hx
  obtain ⟨y, hy, hx⟩ := List.mem_flatMap.1 hx
  obtain ⟨j, hj, rfl⟩ := List.mem_iff_getElem.1 hy
  obtain ⟨b, o, ia, ic, -, -, -, hL⟩ := h.at_ j hj
  unfold ensOf at hx
  obtain ⟨z, hz, rfl⟩ := List.mem_map.1 hx
  obtain ⟨k, hk, rfl⟩ := List.mem_iff_getElem.1 hz
  obtain ⟨b2, o2, -, -, -, r⟩ := hL.at_ k hk
  exact r
set_option maxHeartbeats 2000000 in
set_option maxRecDepth 100000 in
theorem walk_SagaMerges (a : Option Addr) (cap : Nat) (l : List (List Ln)) (hlim : l.length ≤ 1048576 ∧ ∀ x ∈ l, x.length ≤ 1048576) (hsum : (allL l).length ≤ 1048576) (w : World) (h : LLs w a cap l) :
    Calls Try.prog 5 #[.slice a l.length cap] w fun e w' => e = .returned (.bool true) ∧ Ext Non w w' := by
  have HA := Go.Lib.hid h
  have HLM := Go.Lib.hid hlim
  have HOK := Go.Lib.hid (lls_ok h)
  have hsm := h.small; have hsl := h.le
  clear h hlim
  go_enter Try.func5, Try.ntmps5
  go_wp2_with fail
  refine Calls.ew (law22_lives _) ?_
  rintro e x1 rfl
  go_wp2_with fail
  refine (law22_histories a cap l HLM.out _ (by
    exact ⟨HA.out.le, HA.out.small, fun j hj => by
      obtain ⟨b, o, ia, ic, e, hb, c, hL⟩ := HA.out.at_ j hj
      exact ⟨b, o, ia, ic, e, Nat.lt_of_lt_of_le hb x1.ext.size, (x1.ext.cell (p := ⟨b, o + j, none⟩) hb (fun f => f)).trans c, hL.extN x1.ext⟩⟩)).mono ?_
  rintro e _ ⟨ra, rc, rs, rfl, hmap, hE, hx⟩
  obtain ⟨x2, rfl⟩ := hx.ew
  have HE := Go.Lib.hid hE
  have hal := allE_allL hmap
  have HAL := Go.Lib.hid hal
  have HOK2 : Hid (∀ x ∈ allE rs, x.ok) := Go.Lib.hid (by rw [hal]; exact HOK.out)
  have hl2 : (allE rs).length ≤ 2097152 := by rw [hal]; omega
  clear hE hx hmap hal
  go_wp2_with fail
  refine (saga_Merge ra rc rs hl2 HOK2.out _ (HE.out.extN (by (repeat (first | with_reducible exact Ext.refl _ _ | assumption | with_reducible refine Ext.upN ?_ | with_reducible refine Ext.alloc ?_ _ | with_reducible refine Ext.upA (by assumption) ?_ | with_reducible refine Ext.upW ?_ | with_reducible refine Ext.drew ?_ | with_reducible refine Ext.drewN ?_ _ | with_reducible refine Ext.upF ?_ | with_reducible refine Ext.upFF (by first | omega | simp) ?_ | with_reducible refine Ext.setCellsF _ _ _ (by first | omega | simp) ?_ | with_reducible refine Ext.setCellF _ _ _ (by first | omega | simp) ?_ | with_reducible refine Ext.upFN (by first | omega | simp) ?_ | with_reducible refine Ext.up1F (by first | omega | simp) ?_ | with_reducible refine Ext.up1N (by first | omega | simp) ?_ | with_reducible refine Ext.setCell ?_ (.inr (by first | omega | simp)) _ | refine Ext.alloc ?_ _ | refine Ext.setCellF _ _ _ (by first | omega | simp) ?_ | refine Ext.setCell ?_ (.inr (by first | omega | simp)) _))))).mono ?_
  rintro e _ ⟨v1, rfl, hO1, hx⟩
  obtain ⟨x3, rfl⟩ := hx.ew
  have HO1 := Go.Lib.hid hO1
  clear hO1 hx
  go_wp2_with fail
  refine (ref22_Merge ra rc rs hl2 HOK2.out _ (HE.out.extN (by (repeat (first | with_reducible exact Ext.refl _ _ | assumption | with_reducible refine Ext.upN ?_ | with_reducible refine Ext.alloc ?_ _ | with_reducible refine Ext.upA (by assumption) ?_ | with_reducible refine Ext.upW ?_ | with_reducible refine Ext.drew ?_ | with_reducible refine Ext.drewN ?_ _ | with_reducible refine Ext.upF ?_ | with_reducible refine Ext.upFF (by first | omega | simp) ?_ | with_reducible refine Ext.setCellsF _ _ _ (by first | omega | simp) ?_ | with_reducible refine Ext.setCellF _ _ _ (by first | omega | simp) ?_ | with_reducible refine Ext.upFN (by first | omega | simp) ?_ | with_reducible refine Ext.up1F (by first | omega | simp) ?_ | with_reducible refine Ext.up1N (by first | omega | simp) ?_ | with_reducible refine Ext.setCell ?_ (.inr (by first | omega | simp)) _ | refine Ext.alloc ?_ _ | refine Ext.setCellF _ _ _ (by first | omega | simp) ?_ | refine Ext.setCell ?_ (.inr (by first | omega | simp)) _))))).mono ?_
  rintro e _ ⟨v2, rfl, hO2, hx⟩
  obtain ⟨x4, rfl⟩ := hx.ew
  obtain ⟨a1, c1, rfl, hR1⟩ := reqs_of_own _ HO1.out
  obtain ⟨a2, c2, rfl, hR2⟩ := reqs_of_own _ hO2
  have HR1 := Go.Lib.hid (hR1.extN x4.ext)
  have HR2 := Go.Lib.hid hR2
  clear hO2 hx hR1 hR2 HO1
  generalize mergeL (allE rs) = ml at *
  generalize mergeE (allE rs) = me at *
  go_wp2_with fail
  refine Calls.ew (ref16_Same a1 c1 ml a2 c2 ml _ (HR1.out.extN (by (repeat (first | with_reducible exact Ext.refl _ _ | assumption | with_reducible refine Ext.upN ?_ | with_reducible refine Ext.alloc ?_ _ | with_reducible refine Ext.upA (by assumption) ?_ | with_reducible refine Ext.upW ?_ | with_reducible refine Ext.drew ?_ | with_reducible refine Ext.drewN ?_ _ | with_reducible refine Ext.upF ?_ | with_reducible refine Ext.upFF (by first | omega | simp) ?_ | with_reducible refine Ext.setCellsF _ _ _ (by first | omega | simp) ?_ | with_reducible refine Ext.setCellF _ _ _ (by first | omega | simp) ?_ | with_reducible refine Ext.upFN (by first | omega | simp) ?_ | with_reducible refine Ext.up1F (by first | omega | simp) ?_ | with_reducible refine Ext.up1N (by first | omega | simp) ?_ | with_reducible refine Ext.setCell ?_ (.inr (by first | omega | simp)) _ | refine Ext.alloc ?_ _ | refine Ext.setCellF _ _ _ (by first | omega | simp) ?_ | refine Ext.setCell ?_ (.inr (by first | omega | simp)) _)))) (HR2.out.extN (by (repeat (first | with_reducible exact Ext.refl _ _ | assumption | with_reducible refine Ext.upN ?_ | with_reducible refine Ext.alloc ?_ _ | with_reducible refine Ext.upA (by assumption) ?_ | with_reducible refine Ext.upW ?_ | with_reducible refine Ext.drew ?_ | with_reducible refine Ext.drewN ?_ _ | with_reducible refine Ext.upF ?_ | with_reducible refine Ext.upFF (by first | omega | simp) ?_ | with_reducible refine Ext.setCellsF _ _ _ (by first | omega | simp) ?_ | with_reducible refine Ext.setCellF _ _ _ (by first | omega | simp) ?_ | with_reducible refine Ext.upFN (by first | omega | simp) ?_ | with_reducible refine Ext.up1F (by first | omega | simp) ?_ | with_reducible refine Ext.up1N (by first | omega | simp) ?_ | with_reducible refine Ext.setCell ?_ (.inr (by first | omega | simp)) _ | refine Ext.alloc ?_ _ | refine Ext.setCellF _ _ _ (by first | omega | simp) ?_ | refine Ext.setCell ?_ (.inr (by first | omega | simp)) _))))) ?_
  rintro e x5 rfl
  have HS := Go.Lib.hid (allW_self ml)
  rw [HS.out]
  go_wp2
  go_ret
  exact ⟨rfl, by (repeat (first | with_reducible exact Ext.refl _ _ | assumption | with_reducible refine Ext.upN ?_ | with_reducible refine Ext.alloc ?_ _ | with_reducible refine Ext.upA (by assumption) ?_ | with_reducible refine Ext.upW ?_ | with_reducible refine Ext.drew ?_ | with_reducible refine Ext.drewN ?_ _ | with_reducible refine Ext.upF ?_ | with_reducible refine Ext.upFF (by first | omega | simp) ?_ | with_reducible refine Ext.setCellsF _ _ _ (by first | omega | simp) ?_ | with_reducible refine Ext.setCellF _ _ _ (by first | omega | simp) ?_ | with_reducible refine Ext.upFN (by first | omega | simp) ?_ | with_reducible refine Ext.up1F (by first | omega | simp) ?_ | with_reducible refine Ext.up1N (by first | omega | simp) ?_ | with_reducible refine Ext.setCell ?_ (.inr (by first | omega | simp)) _ | refine Ext.alloc ?_ _ | refine Ext.setCellF _ _ _ (by first | omega | simp) ?_ | refine Ext.setCell ?_ (.inr (by first | omega | simp)) _))⟩
end Go.Proofs.Ytekbonciafbjiaa

/- Histories of lines, as they come in, where what comes in is of bulk at most 1048576. -/
namespace Go.Proofs.Ytekbonciafbjiaa
open Go.RowKit Go.ChangeShapes Go.WideShapes
set_option linter.unusedSimpArgs false
set_option linter.unusedVariables false
theorem bulk_one {H : Type} (d : DataW H) : 1 ≤ Rows.uptoBulk d := by
  cases d with
  | lit l => cases l <;> simp [Rows.uptoBulk]
  | nil => simp [Rows.uptoBulk]
  | ptr d => simp [Rows.uptoBulk]
  | slice elems spare => simp [Rows.uptoBulk]
  | agg parts => simp [Rows.uptoBulk]
  | iface t d => simp [Rows.uptoBulk]
  | map entries => simp [Rows.uptoBulk]
  | held h => simp [Rows.uptoBulk]
theorem bulk_part {H : Type} {d : DataW H} {l : List (DataW H)} (h : d ∈ l) : Rows.uptoBulk d ≤ Rows.uptoBulkAll l := by
  induction l with
  | nil => cases h
  | cons x r ih =>
    simp only [Rows.uptoBulkAll]
    rcases List.mem_cons.1 h with e | e
    · subst e; omega
    · have := ih e; omega
theorem bulk_each {H : Type} (D : Nat → DataW H) (n : Nat → Nat) : ∀ l : List Nat, (∀ i ∈ l, n i ≤ Rows.uptoBulk (D i)) → (l.map n).sum ≤ Rows.uptoBulkAll (l.map D)
  | [], _ => by simp [Rows.uptoBulkAll]
  | x :: t, h => by
    have h1 := h x List.mem_cons_self
    have h2 := bulk_each D n t (fun i hi => h i (List.mem_cons_of_mem _ hi))
    simp only [List.map_cons, List.sum_cons, Rows.uptoBulkAll]
    omega
theorem sum_one (l : List Nat) : (l.map (fun _ => 1)).sum = l.length := by
  induction l with
  | nil => rfl
  | cons x t ih => simp only [List.map_cons, List.sum_cons, List.length_cons]; omega
section
variable {H : Type} {enc : TypeId × Value → H} {W : World} {base n : Nat} {spare : Nat → Bool} {held : Bool}
/-- A slice whose elements are read by a reading of their own, of k cells each; with the data of each. -/
theorem read_sliceD {P : Program} {α : Type} [Inhabited α] {t e : TypeId} {k : Nat} {cs : List Value} {x : DataW H × List MemPlace} (R : α → List Value → DataW H → Prop) (ht : P.underlying t = some (.slice e)) (hc : P.cellsOf e = k)
    (hR : ∀ m cs y, DataW.trod enc P W base spare held m e cs = some y → ∃ q, R q cs y.1) (h : DataW.trod enc P W base spare held n t cs = some x) :
    ∃ a len cap, cs = [.slice a len cap] ∧ len ≤ cap ∧ cap ≤ maxLen ∧ ∃ (F : Nat → α) (D : Nat → DataW H), Rows.uptoBulkAll ((List.range len).map D) + 1 ≤ Rows.uptoBulk x.1 ∧ ∀ i, i < len → ∃ cs', R (F i) cs' (D i) ∧ cs'.length = k ∧ (0 < k → ∃ b o, a = some ⟨b, o, none⟩ ∧ ∀ j (hj : j < cs'.length), W.cell? ⟨b, o + i * k + j, none⟩ = some cs'[j]) := by
  rcases Go.Deep.open_slice ht h with ⟨rfl, ex⟩ | ⟨a, len, cap, m, k', D, Pl, rfl, hb, hl, hm, hmm, ex, hx⟩
  · exact ⟨none, 0, 0, rfl, Nat.zero_le _, Nat.zero_le _, fun _ => default, fun _ => .nil, by rw [ex]; simp [Rows.uptoBulkAll, Rows.uptoBulk], fun i hi => absurd hi (Nat.not_lt_zero _)⟩
  · have hlm : len ≤ m := by rw [hmm]; split <;> omega
    rw [hc] at hx
    have each : ∀ i, i < len → ∃ q : α, ∃ cs', R q cs' (D i) ∧ cs'.length = k ∧ (0 < k → ∃ b o, (some a : Option Addr) = some ⟨b, o, none⟩ ∧ ∀ j (hj : j < cs'.length), W.cell? ⟨b, o + i * k + j, none⟩ = some cs'[j]) := by
      intro i hi
      obtain ⟨cs', h1, h2⟩ := hx i (by omega)
      obtain ⟨_, hlen, hcell⟩ := World.cells?_some h1
      obtain ⟨q, hq⟩ := hR _ _ _ h2
      refine ⟨q, cs', hq, hlen, fun hk => ?_⟩
      obtain ⟨cz, h1z, _⟩ := hx 0 (by omega)
      obtain ⟨_, hlenz, hcellz⟩ := World.cells?_some h1z
      have cz := hcellz 0 hk
      obtain ⟨b, o, sp⟩ := a
      rw [Go.Deep.add_add, List.getElem?_eq_getElem (by omega)] at cz
      have hsp : sp = none := by simpa [Addr.add] using World.cell?_spot cz
      subst hsp
      refine ⟨b, o, rfl, fun j hj => ?_⟩
      have c := hcell j (by omega)
      rw [Go.Deep.add_add, List.getElem?_eq_getElem hj, add_plain] at c
      rw [Nat.add_assoc]; exact c
    obtain ⟨F, hF⟩ := Go.Deep.choose_lt each
    refine ⟨some a, len, cap, rfl, hl, hm, F, D, ?_, hF⟩
    rw [ex]
    simp only [Rows.uptoBulk]
    omega
theorem c_line : (Try.prog).cellsOf 94 = 7 := by kernel_rfl
theorem c_lines : (Try.prog).cellsOf 92 = 1 := by kernel_rfl
theorem read_line {cs : List Value} {x : DataW H × List MemPlace} (h : DataW.trod enc Try.prog W base spare held n 94 cs = some x) : ∃ o : Ln, cs = o.cells ∧ o.en.ok := by
  obtain ⟨hl, hf⟩ := read_struct Try.underlying94 h
  have hl : cs.length = 7 := hl.trans c_line
  match cs, hl with
  | [v0, v1, v2, v3, v4, v5, v6], _ =>
    obtain ⟨_, _, h0⟩ := hf 0 _ 3 0 1 rfl rfl rfl c_int
    obtain ⟨_, _, h1⟩ := hf 1 _ 40 1 6 rfl rfl rfl c_ask
    obtain ⟨k0, e0, w0⟩ := read_int h0
    obtain ⟨kc, ks, kk, key, bits, kid, e1, w1⟩ := read_ask h1
    simp at e0 e1
    obtain ⟨rfl, rfl, rfl, rfl, rfl, rfl⟩ := e1
    subst e0
    exact ⟨⟨k0, ⟨kc, ks, kk, key, bits, kid⟩⟩, rfl, w0, w1⟩
theorem read_lines {cs : List Value} {x : DataW H × List MemPlace} (h : DataW.trod enc Try.prog W base spare held n 92 cs = some x) : ∃ a cap l, cs = [.slice a (l : List Ln).length cap] ∧ Lns W a cap l ∧ l.length + 1 ≤ Rows.uptoBulk x.1 := by
  obtain ⟨a, len, cap, rfl, hc, hm, F, D, hb, hF⟩ := read_sliceD (α := Ln) (k := 7) (fun q cs _ => cs = q.cells ∧ q.en.ok) Try.underlying92 c_line (fun m cs y hy => read_line hy) h
  have hlen : ((List.range len).map F).length = len := by simp
  have hs := bulk_each D (fun _ => 1) (List.range len) (fun i _ => bulk_one _)
  rw [sum_one, List.length_range] at hs
  refine ⟨a, cap, (List.range len).map F, by rw [hlen], ⟨by rw [hlen]; exact hc, by unfold maxLen at hm; omega, fun j hj => ?_⟩, by rw [hlen]; omega⟩
  have hj' : j < len := by rw [hlen] at hj; exact hj
  obtain ⟨cs', ⟨rfl, w1⟩, hlc, hcell⟩ := hF j hj'
  obtain ⟨b, o, rfl, hcc⟩ := hcell (by omega)
  have e : ((List.range len).map F)[j] = F j := by simp
  rw [e]
  refine ⟨b, o, rfl, lt_of_cell (hcc 0 (by rw [hlc]; omega)), fun i v hv => ?_, w1⟩
  obtain ⟨hi, rfl⟩ := List.getElem?_eq_some_iff.1 hv
  exact hcc i hi
abbrev LnR := Option Addr × Nat × List Ln
theorem read_histories {cs : List Value} {x : DataW H × List MemPlace} (h : DataW.trod enc Try.prog W base spare held n 52 cs = some x) : ∃ a cap l, cs = [.slice a (l : List (List Ln)).length cap] ∧ LLs W a cap l ∧ l.length ≤ Rows.uptoBulk x.1 ∧ (l.map List.length).sum ≤ Rows.uptoBulk x.1 := by
  obtain ⟨a, len, cap, rfl, hc, hm, F, D, hb, hF⟩ := read_sliceD (α := LnR) (k := 1) (fun q cs d => cs = [.slice q.1 q.2.2.length q.2.1] ∧ Lns W q.1 q.2.1 q.2.2 ∧ q.2.2.length + 1 ≤ Rows.uptoBulk d) Try.underlying52 c_lines (fun m cs y hy => by
    obtain ⟨a, cap, l, e, h, hb⟩ := read_lines hy
    exact ⟨(a, cap, l), e, h, hb⟩) h
  have hlen : ((List.range len).map (fun i => (F i).2.2)).length = len := by simp
  have hs := bulk_each D (fun _ => 1) (List.range len) (fun i _ => bulk_one _)
  rw [sum_one, List.length_range] at hs
  have hs2 := bulk_each D (fun i => (F i).2.2.length) (List.range len) (fun i hi => by
    obtain ⟨cs', ⟨-, -, h3⟩, -⟩ := hF i (List.mem_range.1 hi)
    omega)
  refine ⟨a, cap, (List.range len).map (fun i => (F i).2.2), by rw [hlen], ⟨by rw [hlen]; exact hc, by unfold maxLen at hm; omega, fun j hj => ?_⟩, by rw [hlen]; omega, ?_⟩
  · have hj' : j < len := by rw [hlen] at hj; exact hj
    obtain ⟨cs', ⟨rfl, w1, -⟩, hlc, hcell⟩ := hF j hj'
    obtain ⟨b, o, rfl, hcc⟩ := hcell (by omega)
    have e : ((List.range len).map (fun i => (F i).2.2))[j] = (F j).2.2 := by simp
    rw [e]
    have c0 := hcc 0 (by rw [hlc]; omega)
    refine ⟨b, o, (F j).1, (F j).2.1, rfl, lt_of_cell c0, ?_, w1⟩
    simpa using c0
  · have e : ((List.range len).map (fun i => (F i).2.2)).map List.length = (List.range len).map (fun i => (F i).2.2.length) := by rw [List.map_map]; rfl
    rw [e]; omega
theorem allL_len : ∀ l : List (List Ln), (allL l).length = (l.map List.length).sum
  | [] => rfl
  | x :: t => by
    have ih := allL_len t
    unfold allL at ih ⊢
    rw [List.flatMap_cons, List.length_append, ih, List.map_cons, List.sum_cons]
    unfold ensOf; simp
theorem part_le : ∀ (l : List (List Ln)) (x : List Ln), x ∈ l → x.length ≤ (l.map List.length).sum
  | [], x, h => absurd h List.not_mem_nil
  | y :: t, x, h => by
    rw [List.map_cons, List.sum_cons]
    rcases List.mem_cons.1 h with rfl | h
    · omega
    · have := part_le t x h; omega
set_option maxRecDepth 100000 in
theorem arg_histories {v : Value} {d : DataW H} {p : List MemPlace} {b0 : Nat} {r : Reach} (ok : Value.okWide Try.prog W r b0 52 v) (h : DataW.Trod enc Try.prog W base spare held 52 v d p) :
    ∃ (a : Option Addr) (cap : Nat) (l : List (List Ln)), v = .slice a l.length cap ∧ LLs W a cap l ∧ (Rows.uptoBulk d ≤ 1048576 → (l.length ≤ 1048576 ∧ ∀ x ∈ l, x.length ≤ 1048576) ∧ (allL l).length ≤ 1048576) := by
  obtain ⟨a, len, cap, rfl⟩ := okWide_slice Try.underlying52 ok
  obtain ⟨m, hm⟩ := h
  have hm' : DataW.trod enc Try.prog W base spare held m 52 [.slice a len cap] = some (d, p) := hm
  obtain ⟨a', cap', l, e, hc, h1, h2⟩ := read_histories hm'
  injection e with e
  injection e with e1 e2 e3
  subst e1; subst e3; subst e2
  refine ⟨a, cap, l, rfl, hc, fun hb => ⟨⟨Nat.le_trans h1 hb, fun x hx => Nat.le_trans (part_le l x hx) (Nat.le_trans h2 hb)⟩, by rw [allL_len]; exact Nat.le_trans h2 hb⟩⟩
end
set_option maxRecDepth 100000 in
theorem law_SagaMerges {H : Type} {enc : TypeId × Value → H} (W : World) {base : Nat} (v0 : Value) (d0 : DataW H) (p0 : List MemPlace)
    (h0 : DataW.Trod enc Try.prog W 0 (fun _ => true) true 52 v0 d0 p0) (ok0 : Value.okWide Try.prog W .any base 52 v0)
    (hk : Rows.uptoSmall H [d0] = true) :
    Calls Try.prog 5 #[v0] W fun e w' => e = .returned (.bool true) ∧ Below W.heap.size W w' := by
  obtain ⟨a, cap, l, rfl, hl, hb⟩ := arg_histories ok0 h0
  have hall : Rows.uptoBulkAll [d0] ≤ 1048576 := of_decide_eq_true hk
  have hd := bulk_part (d := d0) (l := [d0]) (by simp)
  obtain ⟨h1, h2⟩ := hb (by omega)
  exact (walk_SagaMerges a cap l h1 h2 W hl).mono fun _ _ ⟨a, b⟩ => ⟨a, b.toBelow⟩
end Go.Proofs.Ytekbonciafbjiaa
