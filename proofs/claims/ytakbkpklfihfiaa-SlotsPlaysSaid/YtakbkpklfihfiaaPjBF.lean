/- Joined texts: Slots11, Slots12. What each proves stands at its head; no conditions beside those in its theorems. -/
import Derived.Test.YtakbkpklfihfiaaPjBE
/- Contracts of layer 14: slices.Clone of signatures, Log.Certs. -/
namespace Go.Proofs.Ytakbkpklfihfiaa
open Go.RowKit Go.Lib F64
set_option linter.unusedSimpArgs false
set_option linter.unusedVariables false
attribute [local go_sem] run_store_float
attribute [local go_sem low] EW.cellN EW.frozN alloc_cell_or alloc_froz_or EW.cellF EW.frozF EW.cell1 EW.froz1
attribute [local go_sem] relAt relUpon
theorem sigCells_len : ∀ l : List Sg, (sigCells l).length = l.length * 2
  | [] => rfl
  | s :: t => by
    show (([.int .i64 s.by_, .string s.text] : List Value) ++ sigCells t).length = _
    rw [List.length_append, sigCells_len t]; simp; omega
theorem sigs_cell {w : World} {b o cap : Nat} {l : List Sg} (h : Sigs w (some ⟨b, o, none⟩) cap l) {j : Nat} {u : Value} (hj : (sigCells l)[j]? = some u) : w.cell? ⟨b, o + j, none⟩ = some u := by
  have hlt : j < l.length * 2 := by have := (List.getElem?_eq_some_iff.1 hj).1; rw [sigCells_len] at this; exact this
  have h2 : j / 2 < l.length := by omega
  have e := sigCells_get l (j / 2) (j % 2) h2 (by omega)
  rw [show j / 2 * 2 + j % 2 = j by omega, hj] at e
  obtain ⟨b1, o1, e1, -, c0, c1, -⟩ := h.at_ (j / 2) h2
  injection e1 with e1; injection e1 with e1 e2; subst e1; subst e2
  rw [sgAt_get h2] at c0 c1
  rcases (show j % 2 = 0 ∨ j % 2 = 1 by omega) with q | q
  · rw [q] at e
    have hu : u = .int .i64 l[j / 2].by_ := by simpa using e
    rw [hu, show o + j = o + j / 2 * 2 by omega]; exact c0
  · rw [q] at e
    have hu : u = .string l[j / 2].text := by simpa using e
    rw [hu, show o + j = o + j / 2 * 2 + 1 by omega]; exact c1
set_option maxHeartbeats 1000000 in
set_option maxRecDepth 100000 in
theorem slices_CloneS (a : Option Addr) (cap : Nat) (l : List Sg) (hb : l.length ≤ 100000) (w : World) (h : Sigs w a cap l) : Calls Try.prog 84 #[.slice a l.length cap] w fun e w' =>
    ∃ a' cap', e = .returned (.slice a' l.length cap') ∧ Ext Non w w' ∧ Sigs w' a' cap' l ∧ (∀ b o, a' = some ⟨b, o, none⟩ → w.heap.size ≤ b) := by
  have HH := Go.Lib.hid h
  have hle := h.le; have hsm := h.small
  have q : ∀ (w : World) (a : Option Addr) (n c n' c' : Nat), (binOp .eql 50 (.slice a n c) (.slice none n' c')).run Try.prog w = .ok (.bool a.isNone) w := fun w a n c n' c' => Go.Lib.run_eql_slice_nil w _ _ a n c n' c' Try.underlying50
  cases a with
  | none =>
    have hx : l = [] := by
      cases l with
      | nil => rfl
      | cons s t => obtain ⟨b, o, e, -⟩ := h.at_ 0 (by simp); cases e
    subst hx
    clear h
    go_enter Try.func84, Try.ntmps84
    go_wp2
    go_returns
    exact ⟨none, 0, rfl, Ext.refl _ _, ⟨by simp, by omega, fun j hj => absurd hj (Nat.not_lt_zero _)⟩, fun _ _ e => by cases e⟩
  | some x =>
    clear h
    obtain ⟨i0, hi, hz0, hz1, hz2⟩ := info_parts info_sig
    go_enter Try.func84, Try.ntmps84
    go_wp2_with (at_builtin; refine wpList_append_own _ rfl _ _ 50 rfl w.heap.size 24 i0 (.agg #[.int .i64 0, .string ByteArray.empty]) 2 24 Try.underlying50 hi hz0 hz1 hz2 rfl (by decide) _ _ _ rfl (World.ownsRow_made w #[] 0 (Nat.le_refl _) (Nat.zero_le _) rfl) x l.length cap (sigCells l) rfl ?qc1 ?qc2 ?qc3 ?qc4 ?qc5 ?qc6 ?_)
    case qc1 => exact sigCells_len l
    case qc2 =>
      intro j u hj
      have h0 : 0 < l.length := by
        have := (List.getElem?_eq_some_iff.1 hj).1; rw [sigCells_len] at this; omega
      obtain ⟨b, o, e, -⟩ := HH.out.at_ 0 h0
      injection e with e
      subst e
      rw [addr_add]
      have hc := sigs_cell HH.out hj
      exact (((Ext.refl Non w).alloc _).cell (p := ⟨b, o + j, none⟩) (lt_of_cell hc) id).trans hc
    case qc3 => intro u hu; unfold sigCells at hu; obtain ⟨s, _, hs⟩ := List.mem_flatMap.1 hu; simp at hs; rcases hs with rfl | rfl <;> rfl
    case qc4 => unfold maxLen; omega
    case qc5 => omega
    case qc6 => simp
    intro v' w1 hown hgrow hnil
    have hown : w1.ownsRow w.heap.size 24 2 v' l.length (sigCells l) := by simpa using hown
    obtain ⟨a', cap', rfl, hI⟩ := sigs_of_own hown rfl (fun s hs => by obtain ⟨j, hj, rfl⟩ := List.getElem_of_mem hs; obtain ⟨_, _, _, _, _, _, i⟩ := HH.out.at_ j hj; rw [sgAt_get hj] at i; exact i)
    have HI := Go.Lib.hid hI
    have HF : Hid (∀ b o, a' = some ⟨b, o, none⟩ → w.heap.size ≤ b) := Go.Lib.hid (fun b o e => (hown.lt b (by rw [e]; rfl)).1)
    have HX : Hid (Ext Non w w1) := Go.Lib.hid (((Ext.refl Non w).alloc _).step (Ext.ofGrown (S := fun k => k = w.heap.size) hgrow (fun k hk => .inl (by simp [Value.ownBlock] at hk; omega))) (fun i hi hS => by omega))
    clear hI hown hgrow hnil
    go_wp2
    go_returns
    exact ⟨a', cap', rfl, HX.out, HI.out, HF.out⟩
/-- Rows of certificates with the addresses of their signatures. -/
abbrev CtR := Ct × Option Addr × Nat
def ctRow (q : CtR) : List Value := q.1.cells q.2.1 q.2.2
def CtOk (w : World) (q : CtR) : Prop := Sigs w q.2.1 q.2.2 q.1.sigs ∧ ReqOk q.1.req ∧ I64 q.1.view ∧ I64 q.1.slot
def RowB (base : Nat) (v : Value) : Nat → Prop := fun k => Row v k ∨ k < base
def StabT (base : Nat) (v : Value) (w : World) (q : CtR) : Prop := ∀ w', Ext (RowB base v) w w' → CtOk w' q
def certsTo4 (g : Lo) (k : Nat) : List Ct := (List.range k).filterMap fun i => (g.sl i).cert
theorem certsTo4_succ (g : Lo) (k : Nat) : certsTo4 g (k + 1) = certsTo4 g k ++ (g.sl k).cert.toList := by
  unfold certsTo4
  rw [List.range_succ, List.filterMap_append]
  congr 1
theorem certsTo4_len (g : Lo) : ∀ k, (certsTo4 g k).length ≤ k := fun k => by
  unfold certsTo4
  exact Nat.le_trans (List.length_filterMap_le _ _) (by simp)
theorem flatG_get {α : Type} (f : α → List Value) (k : Nat) (hk : ∀ a, (f a).length = k) : ∀ (l : List α) (j i : Nat) (h : j < l.length), i < k → (l.flatMap f)[j * k + i]? = (f l[j])[i]?
  | a :: t, 0, i, _, hi => by
    rw [List.flatMap_cons, List.getElem?_append_left (by rw [hk]; omega), Nat.zero_mul, Nat.zero_add]; rfl
  | a :: t, j + 1, i, h, hi => by
    have e : (j + 1) * k + i = k + (j * k + i) := by rw [Nat.add_mul]; omega
    rw [List.flatMap_cons, List.getElem?_append_right (by rw [hk]; omega), hk, show (j + 1) * k + i - k = j * k + i by omega]
    exact flatG_get f k hk t j i (by simpa using h) hi
theorem ownG_rows {α : Type} {w : World} {base : Nat} {e : TypeId} {k : Nat} {v : Value} (l : List α) (f : α → List Value) (hk : ∀ a, (f a).length = k) (h : w.ownsRow base e k v l.length (l.flatMap f)) :
    ∃ a cap, v = .slice a l.length cap ∧ l.length ≤ cap ∧ cap ≤ 9223372036854775807 ∧ ∀ j (hj : j < l.length), ∃ g, a = some ⟨g, 0, none⟩ ∧ g < w.heap.size ∧ ∀ i u, (f l[j])[i]? = some u → w.cell? ⟨g, 0 + j * k + i, none⟩ = some u := by
  rcases h.2 with ⟨rfl, hn⟩ | ⟨g, cap, cur, rfl, hb, hg, hc, hm, hs, ht⟩
  · exact ⟨none, 0, by rw [hn], by omega, by omega, fun j hj => by omega⟩
  · refine ⟨_, cap, rfl, hc, by unfold maxLen at hm; omega, fun j hj => ⟨g, rfl, (Array.getElem?_eq_some_iff.1 hg).1, fun i u hu => ?_⟩⟩
    have hi : i < k := by have := (List.getElem?_eq_some_iff.1 hu).1; rw [hk] at this; exact this
    have q := flatG_get f k hk l j i hj hi
    have hlt : j * k + i < l.length * k := by
      have : (j + 1) * k ≤ l.length * k := Nat.mul_le_mul_right _ hj
      rw [Nat.add_mul] at this; omega
    rw [hu, ← ht, List.getElem?_take, if_pos (by omega), Array.getElem?_toList] at q
    have hgc : w.cell? ⟨g, j * k + i, none⟩ = cur[j * k + i]? := by simp [World.cell?, hg]
    rw [Nat.zero_add, hgc]; exact q
theorem own_rows9 {w : World} {base : Nat} {e : TypeId} {v : Value} (rows : List CtR) (h : w.ownsRow base e 9 v rows.length (rows.flatMap ctRow)) (hr : ∀ q ∈ rows, CtOk w q) : ∃ a cap, v = .slice a rows.length cap ∧ Certs w a cap (rows.map (·.1)) := by
  obtain ⟨a, cap, rfl, h1, h2, h3⟩ := ownG_rows rows ctRow (fun _ => rfl) h
  refine ⟨a, cap, rfl, by simpa using h1, h2, fun j hj => ?_⟩
  have hj' : j < rows.length := by simpa using hj
  obtain ⟨g, rfl, hg, hc⟩ := h3 j hj'
  obtain ⟨k1, k2, k3, k4⟩ := hr _ (List.getElem_mem hj')
  have e : ctAt (rows.map (·.1)) j = rows[j].1 := by rw [ctAt_get hj]; simp
  rw [e]
  exact ⟨g, 0, rows[j].2.1, rows[j].2.2, rfl, hg, fun i u hu => hc i u hu, k1, k2, k3, k4⟩
theorem info_cert3 : (Try.prog.info? 52).map (fun i => (i.zero, i.size, i.bytes)) = some (some (.agg #[.int .i64 0, .int .i64 0, .int .i64 0, .int .i64 0, .int .i64 0, .string ByteArray.empty, .float .f64 0, .int .i64 0, .slice none 0 0]), 9, 96) := by kernel_rfl
theorem certs_len16 (g : Lo) : certsTo4 g 4 = certsG g := rfl
/-- Votes of members alone, as many as there are members at most. -/
def SigsB (g : Lo) : Prop := ∀ i, i < 4 → ∀ c, (g.sl i).cert = some c → c.sigs.length ≤ 100000
set_option maxHeartbeats 4000000 in
set_option maxRecDepth 100000 in
theorem log_CertsF (b : Nat) (G : Nat → Prop) (g : Lo) (w : World) (h : LoW w b G g) (hsg : SigsB g) : Calls Try.prog 39 #[.pointer (some ⟨b, 0, none⟩)] w fun e w' =>
    ∃ a cap, e = .returned (.slice a (certsG g).length cap) ∧ (∀ (S : Nat → Prop) w'', Ext S w' w'' → (∀ k, S k → k < w.heap.size) → Certs w'' a cap (certsG g)) ∧ Ext Non w w' := by
  obtain ⟨a, cc, pt, P⟩ := h.parts
  have HP := Go.Lib.hid P
  have HSG := Go.Lib.hid hsg
  obtain ⟨R, hR⟩ : ∃ R, R = (pt 0).row ++ ((pt 1).row ++ ((pt 2).row ++ (pt 3).row)) := ⟨_, rfl⟩
  have hrg : w.rangeAt b 3 R := fun j v hv => cell_of_heap P.h (by
    rw [hR] at hv
    rw [Nat.add_comm]
    exact hv)
  have hix0 : ∀ (k : Nat) (hk : k < 4) (w : World), (Instr.index 127 (.agg R.toArray) (.int .i64 (k : Int))).run Try.prog w = .ok (slotV (pt k)) w := by rw [hR]; exact run_index4 pt
  have hsz : (Try.prog.info? 127).map (·.size) = some R.length := by rw [hR]; exact info_arr4
  have HIX := Go.Lib.hid hix0; have HRG := Go.Lib.hid (And.intro hrg hsz)
  have ROW0 : Hid (w.ownsRow w.heap.size 52 9 (.slice none 0 0) 0 []) := Go.Lib.hid (World.ownsRow_nil _ _ _ _)
  clear P h hR hrg hix0 hsz hsg
  go_enter Try.func39, Try.ntmps39
  go_upto_region 5 with (refine wpList_load_mid rfl 127 _ rfl b 3 rfl R _ HRG.out.1 Try.underlying127 rfl HRG.out.2 ?_)
  go_loopg [3, 13] 4 (fun gg ov iv wr => ∃ (k : Nat) (rows : List CtR) (la : Option Addr) (lc : Nat) (z : EW Non w), k ≤ 4 ∧ gg = 4 - k ∧ ov = .slice la rows.length lc ∧ iv = .int .i64 k ∧ wr = z.on ∧ Hid (wr.ownsRow w.heap.size 52 9 (.slice la rows.length lc) rows.length (rows.flatMap ctRow)) ∧ Hid (rows.map (·.1) = certsTo4 g k) ∧ Hid (∀ q ∈ rows, StabT w.heap.size (.slice la rows.length lc) wr q))
  case atStart => exact ⟨0, [], none, 0, ⟨_, by (repeat (first | with_reducible (first | exact Ext.refl _ _ | assumption | refine Ext.upN ?_ | refine Ext.alloc ?_ _ | refine Ext.drew ?_ | refine Ext.drewN ?_ _ | refine Ext.up1N (by first | omega | simp) ?_) | refine Ext.alloc ?_ _ | refine Ext.setCell ?_ (.inr (by first | omega | simp)) _))⟩, by omega, rfl, rfl, rfl, rfl, ROW0, Go.Lib.hid rfl, Go.Lib.hid (fun q hq => (List.not_mem_nil hq).elim)⟩
  case round =>
    clear ROW0
    obtain ⟨k, rows, la, lc, z, hk, hg, rfl, rfl, rfl, HO, HM, HA⟩ := hrel
    have HG := Go.Lib.hid hg; clear hg
    by_cases hlt : k < 4
    · have Q := HP.out.sl k hlt
      have HQ := Go.Lib.hid Q
      have hix := HIX.out k hlt z.on
      have HCS := Go.Lib.hid (certsTo4_succ g k)
      have hrl : rows.length ≤ 4 := by have h := congrArg List.length HM.out; simp at h; rw [h]; have := certsTo4_len g k; omega
      unfold slotV at hix
      go_upto_region 7 with (refine wpList_store_box rfl 126 _ _ rfl z.on.heap.size _ [ptV (pt k).pp, .map (some (pt k).m1), .map (some (pt k).m2), ptV (pt k).pc, ptV (pt k).pd] _ rfl rfl (Bx.newAt _ _ _ _ rfl) rfl info_slot (by simp [Value.oneCell', ptV]) (fun W hB => ?_); have BZ := Go.Lib.hid hB; clear hB)
      obtain ⟨x5, hx5⟩ := (by (repeat (first | with_reducible (first | exact Ext.refl _ _ | assumption | refine Ext.upN ?_ | refine Ext.alloc ?_ _ | refine Ext.drew ?_ | refine Ext.drewN ?_ _ | refine Ext.up1N (by first | omega | simp) ?_) | refine Ext.alloc ?_ _ | refine Ext.setCell ?_ (.inr (by first | omega | simp)) _)) : Ext Non z.on W.on).ew
      rw [hx5] at BZ ⊢
      clear hx5 hix
      simp only [Act.put]
      have r3 : x5.on.cell? ⟨z.on.heap.size, 3, none⟩ = some (ptV (pt k).pc) := BZ.out.cell rfl
      rcases Q.cert with ⟨q1, q2⟩ | ⟨kc, ⟨cv, cs, ⟨rc, rs, ⟨rk, rkey, rx, rid⟩⟩, sl⟩, csa, cscap, q1, q2, q3, q4, q5, q6, q7, q8, q9⟩
      · have r3' : x5.on.cell? ⟨z.on.heap.size, 3, none⟩ = some (.pointer none) := by rw [r3, q1]; rfl
        have HN : Hid (rows.map (·.1) = certsTo4 g (k + 1)) := Go.Lib.hid (by rw [HM.out, HCS.out, q2]; simp)
        clear r3 q1 q2 Q
        go_wp2_with fail
        go_roundg (4 - (k + 1))
        case measure => have := HG.out; omega
        case rel => exact ⟨k + 1, rows, la, lc, ⟨_, by (repeat (first | with_reducible (first | exact Ext.refl _ _ | assumption | refine Ext.upN ?_ | refine Ext.alloc ?_ _ | refine Ext.drew ?_ | refine Ext.drewN ?_ _ | refine Ext.up1N (by first | omega | simp) ?_) | refine Ext.alloc ?_ _ | refine Ext.setCell ?_ (.inr (by first | omega | simp)) _))⟩, by omega, rfl, rfl, by go_num, rfl, Go.Lib.hid (ownR_extN HO.out (by (repeat (first | with_reducible (first | exact Ext.refl _ _ | assumption | refine Ext.upN ?_ | refine Ext.alloc ?_ _ | refine Ext.drew ?_ | refine Ext.drewN ?_ _ | refine Ext.up1N (by first | omega | simp) ?_) | refine Ext.alloc ?_ _ | refine Ext.setCell ?_ (.inr (by first | omega | simp)) _)))), HN, Go.Lib.hid (fun q hq w' x => HA.out q hq w' ((by (repeat (first | with_reducible (first | exact Ext.refl _ _ | assumption | refine Ext.upN ?_ | refine Ext.alloc ?_ _ | refine Ext.drew ?_ | refine Ext.drewN ?_ _ | refine Ext.up1N (by first | omega | simp) ?_) | refine Ext.alloc ?_ _ | refine Ext.setCell ?_ (.inr (by first | omega | simp)) _)) : Ext Non z.on x5.on).ofNon.step x (fun _ _ h => h)))⟩
      · have r3' : x5.on.cell? ⟨z.on.heap.size, 3, none⟩ = some (.pointer (some ⟨kc, 0, none⟩)) := by rw [r3, q1]; rfl
        have HN : Hid (rows.map (·.1) ++ [⟨cv, cs, ⟨rc, rs, ⟨rk, rkey, rx, rid⟩⟩, sl⟩] = certsTo4 g (k + 1)) := Go.Lib.hid (by rw [HM.out, HCS.out, q2]; rfl)
        have hsl : sl.length ≤ 100000 := HSG.out k hlt _ q2
        have HSg : Hid (Sigs w csa cscap sl) := Go.Lib.hid q8
        have HOk : Hid (ReqOk ⟨rc, rs, ⟨rk, rkey, rx, rid⟩⟩ ∧ I64 cv ∧ I64 cs) := Go.Lib.hid ⟨q4, q5, q6⟩
        have n0 : w.cell? ⟨kc, 0, none⟩ = some (.int .i64 cv) := q7.cell rfl
        have n1 : w.cell? ⟨kc, 1, none⟩ = some (.int .i64 cs) := q7.cell rfl
        have n2 : w.cell? ⟨kc, 2, none⟩ = some (.int .i64 rc) := q7.cell rfl
        have n3 : w.cell? ⟨kc, 3, none⟩ = some (.int .i64 rs) := q7.cell rfl
        have n4 : w.cell? ⟨kc, 4, none⟩ = some (.int .i64 rk) := q7.cell rfl
        have n5 : w.cell? ⟨kc, 5, none⟩ = some (.string rkey) := q7.cell rfl
        have n6 : w.cell? ⟨kc, 6, none⟩ = some (.float .f64 rx) := q7.cell rfl
        have n7 : w.cell? ⟨kc, 7, none⟩ = some (.int .i64 rid) := q7.cell rfl
        have n8 : w.cell? ⟨kc, 8, none⟩ = some (.slice csa sl.length cscap) := q7.cell rfl
        clear r3 q1 q2 q3 q4 q5 q6 q7 q8 q9 Q
        go_wp2_with fail
        refine (slices_CloneS csa cscap sl hsl _ (HSg.out.extN (by (repeat (first | with_reducible (first | exact Ext.refl _ _ | assumption | refine Ext.upN ?_ | refine Ext.alloc ?_ _ | refine Ext.drew ?_ | refine Ext.drewN ?_ _ | refine Ext.up1N (by first | omega | simp) ?_) | refine Ext.alloc ?_ _ | refine Ext.setCell ?_ (.inr (by first | omega | simp)) _))))).mono ?_
        rintro e _ ⟨ca, ccap, rfl, hx, hS, hF⟩
        obtain ⟨x6, rfl⟩ := hx.ew
        have HS6 := Go.Lib.hid hS; have HF6 := Go.Lib.hid hF
        have BC : Hid (Bx x6.on x5.on.heap.size [.int .i64 cv, .int .i64 cs, .int .i64 rc, .int .i64 rs, .int .i64 rk, .string rkey, .float .f64 rx, .int .i64 rid, .slice csa sl.length cscap] 52) := Go.Lib.hid ((Bx.newAt x5.on [.int .i64 cv, .int .i64 cs, .int .i64 rc, .int .i64 rs, .int .i64 rk, .string rkey, .float .f64 rx, .int .i64 rid, .slice csa sl.length cscap] _ _ rfl).extN x6.ext)
        clear hS hF hx
        have g8 : x6.on.cell? ⟨x5.on.heap.size, 8, none⟩ = some (.slice csa sl.length cscap) := BC.out.cell rfl
        have h8 : x6.on.frozen? ⟨x5.on.heap.size, 8, none⟩ = false := froz_of_heap BC.out.h
        go_upto_region 10 with fail
        have XS : Ext (One x5.on.heap.size) x6.on (x6.on.setCell ⟨x5.on.heap.size, 8, none⟩ (.slice ca sl.length ccap)) := (Ext.refl _ _).set1 _
        have BC7 := Go.Lib.hid (BC.out.set (j := 8) (.slice ca sl.length ccap))
        have HS7 := Go.Lib.hid (HS6.out.ext XS (fun b' o e h => by have := HF6.out b' o e; simp at this; unfold One at h; omega))
        obtain ⟨x7, hx7⟩ := (by (repeat (first | with_reducible (first | exact Ext.refl _ _ | assumption | refine Ext.upN ?_ | refine Ext.alloc ?_ _ | refine Ext.drew ?_ | refine Ext.drewN ?_ _ | refine Ext.up1N (by first | omega | simp) ?_) | refine Ext.alloc ?_ _ | refine Ext.setCell ?_ (.inr (by first | omega | simp)) _)) : Ext Non x5.on (x6.on.setCell ⟨x5.on.heap.size, 8, none⟩ (.slice ca sl.length ccap))).ew
        rw [hx7] at BC7 HS7 ⊢
        clear hx7 g8 h8 XS n0 n1 n2 n3 n4 n5 n6 n7 n8
        have m0 : x7.on.cell? ⟨x5.on.heap.size, 0, none⟩ = some (.int .i64 cv) := BC7.out.cell rfl
        have m1 : x7.on.cell? ⟨x5.on.heap.size, 1, none⟩ = some (.int .i64 cs) := BC7.out.cell rfl
        have m2 : x7.on.cell? ⟨x5.on.heap.size, 2, none⟩ = some (.int .i64 rc) := BC7.out.cell rfl
        have m3 : x7.on.cell? ⟨x5.on.heap.size, 3, none⟩ = some (.int .i64 rs) := BC7.out.cell rfl
        have m4 : x7.on.cell? ⟨x5.on.heap.size, 4, none⟩ = some (.int .i64 rk) := BC7.out.cell rfl
        have m5 : x7.on.cell? ⟨x5.on.heap.size, 5, none⟩ = some (.string rkey) := BC7.out.cell rfl
        have m6 : x7.on.cell? ⟨x5.on.heap.size, 6, none⟩ = some (.float .f64 rx) := BC7.out.cell rfl
        have m7 : x7.on.cell? ⟨x5.on.heap.size, 7, none⟩ = some (.int .i64 rid) := BC7.out.cell rfl
        have m8 : x7.on.cell? ⟨x5.on.heap.size, 8, none⟩ = some (.slice ca sl.length ccap) := BC7.out.cell rfl
        have hwz : w.heap.size ≤ z.on.heap.size := z.ext.size
        have hz5 : z.on.heap.size ≤ x5.on.heap.size := x5.ext.size
        have h57 : x5.on.heap.size ≤ x7.on.heap.size := x7.ext.size
        go_wp2_with (at_builtin; refine wpList_append_row rfl _ _ 22 rfl w.heap.size 52 9 96 _ Try.underlying22 info_cert3 (by rfl) (by omega) (by omega) _ rows.length _ rfl (ownR_extN HO.out (by (repeat (first | with_reducible (first | exact Ext.refl _ _ | assumption | refine Ext.upN ?_ | refine Ext.alloc ?_ _ | refine Ext.drew ?_ | refine Ext.drewN ?_ _ | refine Ext.up1N (by first | omega | simp) ?_) | refine Ext.alloc ?_ _ | refine Ext.setCell ?_ (.inr (by first | omega | simp)) _)))) x7.on.heap.size [.int .i64 cv, .int .i64 cs, .int .i64 rc, .int .i64 rs, .int .i64 rk, .string rkey, .float .f64 rx, .int .i64 rid, .slice ca sl.length ccap] 52 rfl (Bx.newAt _ _ _ _ rfl) rfl (by simp [Value.oneCell']) (by omega) (by simp; omega) (fun v' W2 hO hrow => ?_); obtain ⟨g', gc, rfl, hgg⟩ := ownR_some hO; have HO2 := Go.Lib.hid hO; have HRW := Go.Lib.hid hrow; clear hO hrow)
        have X1 : Ext Non z.on (x7.on.alloc (.cells [.int .i64 cv, .int .i64 cs, .int .i64 rc, .int .i64 rs, .int .i64 rk, .string rkey, .float .f64 rx, .int .i64 rid, .slice ca sl.length ccap].toArray 52)) := by (repeat (first | with_reducible (first | exact Ext.refl _ _ | assumption | refine Ext.upN ?_ | refine Ext.alloc ?_ _ | refine Ext.drew ?_ | refine Ext.drewN ?_ _ | refine Ext.up1N (by first | omega | simp) ?_) | refine Ext.alloc ?_ _ | refine Ext.setCell ?_ (.inr (by first | omega | simp)) _))
        have X7 : Ext Non x7.on (x7.on.alloc (.cells [.int .i64 cv, .int .i64 cs, .int .i64 rc, .int .i64 rs, .int .i64 rk, .string rkey, .float .f64 rx, .int .i64 rid, .slice ca sl.length ccap].toArray 52)) := by (repeat (first | with_reducible (first | exact Ext.refl _ _ | assumption | refine Ext.upN ?_ | refine Ext.alloc ?_ _ | refine Ext.drew ?_ | refine Ext.drewN ?_ _ | refine Ext.up1N (by first | omega | simp) ?_) | refine Ext.alloc ?_ _ | refine Ext.setCell ?_ (.inr (by first | omega | simp)) _))
        have XF : Ext Non w W2.on := (z.ext.trans X1).step W2.ext (fun i hi h => by have := (own_row HO.out i h).1; omega)
        go_roundg (4 - (k + 1))
        case measure => have := HG.out; omega
        case rel =>
          refine ⟨k + 1, rows ++ [(⟨cv, cs, ⟨rc, rs, ⟨rk, rkey, rx, rid⟩⟩, sl⟩, ca, ccap)], some ⟨g', 0, none⟩, gc, ⟨_, XF⟩, by omega, rfl, by simp, by go_num, rfl, Go.Lib.hid (by rw [List.length_append, List.flatMap_append]; exact HO2.out), Go.Lib.hid (by rw [List.map_append]; exact HN.out), Go.Lib.hid (fun q hq w' x => ?_)⟩
          have x' : Ext (RowB w.heap.size (.slice (some ⟨g', 0, none⟩) (rows.length + 1) gc)) W2.on w' := by
            have e : (rows ++ [((⟨cv, cs, ⟨rc, rs, ⟨rk, rkey, rx, rid⟩⟩, sl⟩ : Ct), ca, ccap)]).length = rows.length + 1 := by simp
            rw [e] at x; exact x
          rcases List.mem_append.1 hq with hq | hq
          · exact HA.out q hq w' ((X1.ofNon.trans (W2.ext.mono (fun k _ h => .inl h))).step x' (fun i hi h => by
              rcases h with h | h
              · rcases HRW.out i h with h | h
                · exact .inl h
                · simp at h; omega
              · exact .inr h))
          · simp at hq; subst hq
            have y : Ext (RowB w.heap.size (.slice la rows.length lc)) x7.on w' := (X7.ofNon.trans (W2.ext.mono (fun k _ h => .inl h))).step x' (fun i hi h => by
              rcases h with h | h
              · rcases HRW.out i h with h | h
                · exact .inl h
                · simp at h; omega
              · exact .inr h)
            exact ⟨HS7.out.ext y (fun b' o e h => by
              have h1 := HF6.out b' o e
              simp at h1
              rcases h with h | h
              · have h2 := (own_row HO.out b' h).2; omega
              · omega), HOk.out⟩
    · obtain rfl : k = 4 := by omega
      have HC4 := Go.Lib.hid (certs_len16 g)
      have hst : ∀ (S : Nat → Prop) w'', Ext S z.on w'' → (∀ k, S k → k < w.heap.size) → Certs w'' la lc (rows.map (·.1)) := fun S w'' x hS => by
        have hO2 := ownR_ext HO.out x (fun k hk h => by have h1 := (own_row HO.out k hk).1; have h2 := hS k h; omega)
        obtain ⟨pa, pc, hpe, hCh⟩ := own_rows9 rows hO2 (fun q hq => HA.out q hq _ (x.mono (fun k _ h => .inr (hS k h))))
        injection hpe with e1 e2 e3
        subst e1; subst e3
        exact hCh
      rw [HM.out, HC4.out] at hst
      have hll : rows.length = (certsG g).length := by have h := congrArg List.length HM.out; simp at h; rw [h, HC4.out]
      rw [hll]
      have HST := Go.Lib.hid hst
      clear hst hll
      go_wp2
      go_ret
      exact ⟨la, lc, rfl, fun S w'' x hS => HST.out S w'' ((by (repeat (first | with_reducible (first | exact Ext.refl _ _ | assumption | refine Ext.upN ?_ | refine Ext.alloc ?_ _ | refine Ext.drew ?_ | refine Ext.drewN ?_ _ | refine Ext.up1N (by first | omega | simp) ?_) | refine Ext.alloc ?_ _ | refine Ext.setCell ?_ (.inr (by first | omega | simp)) _)) : Ext Non z.on _).ofNon.step x (fun _ _ h => h)) hS, by (repeat (first | with_reducible (first | exact Ext.refl _ _ | assumption | refine Ext.upN ?_ | refine Ext.alloc ?_ _ | refine Ext.drew ?_ | refine Ext.drewN ?_ _ | refine Ext.up1N (by first | omega | simp) ?_) | refine Ext.alloc ?_ _ | refine Ext.setCell ?_ (.inr (by first | omega | simp)) _))⟩
theorem log_Certs (b : Nat) (G : Nat → Prop) (g : Lo) (w : World) (h : LoW w b G g) (hsg : SigsB g) : Calls Try.prog 39 #[.pointer (some ⟨b, 0, none⟩)] w fun e w' =>
    ∃ a cap, e = .returned (.slice a (certsG g).length cap) ∧ Certs w' a cap (certsG g) ∧ Ext Non w w' :=
  (log_CertsF b G g w h hsg).mono fun e w' ⟨a, cap, he, hc, hx⟩ => ⟨a, cap, he, hc Non w' (Ext.refl _ _) (fun _ h => h.elim), hx⟩
end Go.Proofs.Ytakbkpklfihfiaa

/- Contracts of layer 14: a log that isn't there; a step's signature. -/
namespace Go.Proofs.Ytakbkpklfihfiaa
open Go.RowKit Go.Lib F64
set_option linter.unusedSimpArgs false
set_option linter.unusedVariables false
attribute [local go_sem] run_store_float
attribute [local go_sem low] EW.cellN EW.frozN alloc_cell_or alloc_froz_or EW.cellF EW.frozF EW.cell1 EW.froz1
attribute [local go_sem] relAt relUpon
/-- A step's signature. -/
def stepT (epoch view slot : Int) (r : Req) (wrong : Bool) : ByteArray := if wrong = true then prepS epoch view slot r ++ ⟨#[63]⟩ else prepS epoch view slot r
theorem info_sig2 : (Try.prog.info? 24).map (·.size) = some 2 := by kernel_rfl
set_option maxHeartbeats 2000000 in
set_option maxRecDepth 100000 in
theorem op_sig (kind from_ slot view c s k : Int) (key : ByteArray) (b id : Int) (wrong : Bool) (epoch vw : Int) (hI : I64 epoch ∧ I64 vw ∧ I64 slot) (hr : ReqOk ⟨c, s, ⟨k, key, b.toNat, id⟩⟩) (w : World) :
    Calls Try.prog 81 #[.agg #[.int .i64 kind, .int .i64 from_, .int .i64 slot, .int .i64 view, .int .i64 c, .int .i64 s, .int .i64 k, .string key, .int .u64 b, .int .i64 id, .bool wrong], .int .i64 epoch, .int .i64 vw] w fun e w' =>
    e = .returned (.agg #[.int .i64 from_, .string (stepT epoch vw slot ⟨c, s, ⟨k, key, b.toNat, id⟩⟩ wrong)]) ∧ Ext Non w w' := by
  have HI := Go.Lib.hid hI; have HR := Go.Lib.hid hr
  have hps := prepS_size epoch vw slot ⟨c, s, ⟨k, key, b.toNat, id⟩⟩
  have DT : Hid (stepT epoch vw slot ⟨c, s, ⟨k, key, b.toNat, id⟩⟩ wrong = if wrong = true then prepS epoch vw slot ⟨c, s, ⟨k, key, b.toNat, id⟩⟩ ++ ⟨#[63]⟩ else prepS epoch vw slot ⟨c, s, ⟨k, key, b.toNat, id⟩⟩) := Go.Lib.hid rfl
  have RP : Hid (∀ w : World, Calls Try.prog 53 #[.int .i64 epoch, .int .i64 vw, .int .i64 slot, .agg #[.int .i64 c, .int .i64 s, .int .i64 k, .string key, .float .f64 b.toNat, .int .i64 id]] w fun e w' => e = .returned (.tuple #[.string (prepS epoch vw slot ⟨c, s, ⟨k, key, b.toNat, id⟩⟩), .int .i64 (prepE epoch vw slot ⟨c, s, ⟨k, key, b.toNat, id⟩⟩)]) ∧ Ext Non w w') := Go.Lib.hid (fun w => ref_Prepared epoch vw slot c s k key b.toNat id HI.out.1 HI.out.2.1 HI.out.2.2 HR.out.c HR.out.s HR.out.k HR.out.id HR.out.x HR.out.key w)
  clear hI hr
  generalize prepS epoch vw slot ⟨c, s, ⟨k, key, b.toNat, id⟩⟩ = ts at *
  generalize prepE epoch vw slot ⟨c, s, ⟨k, key, b.toNat, id⟩⟩ = te at *
  go_enter Try.func81, Try.ntmps81
  go_upto_region 1 with fail
  (refine wp_region_ext_lit (by kernel_rfl) (by kernel_rfl) ?_; (repeat (go_big_quiet_step ((first | (go_at_call 23; exact Calls.ext_of (law11_Request c s k key b id _)) | (go_at_call 53; exact Calls.ext_of (RP.out _)))))); refine wpQuiet_nil ?_; intro _ hw'; obtain ⟨xq, hw''⟩ := hw'; subst hw'')
  cases wrong
  · go_wp2_with (refine wpList_store_box rfl 24 _ _ rfl (w.heap.size + 1) _ [.int .i64 from_, .string ts] _ rfl rfl (Bx.extN (Bx.newAt _ _ _ _ (by simp)) xq.ext) rfl info_sig2 (by simp [Value.oneCell']) (fun W hB => ?_); have BZ := Go.Lib.hid hB; clear hB)
    have r0 : W.on.cell? ⟨w.heap.size + 1, 0, none⟩ = some (.int .i64 from_) := BZ.out.cell rfl
    have r1 : W.on.cell? ⟨w.heap.size + 1, 1, none⟩ = some (.string ts) := BZ.out.cell rfl
    exact bodyPost_ret (v := .agg #[.int .i64 from_, .string ts]) (by simp [results, Try.results81, go_sem, r0, r1]) rfl ⟨by rw [DT.out]; rfl, by (repeat (first | with_reducible (first | exact Ext.refl _ _ | assumption | refine Ext.upN ?_ | refine Ext.alloc ?_ _ | refine Ext.drew ?_ | refine Ext.drewN ?_ _ | refine Ext.up1N (by first | omega | simp) ?_) | refine Ext.alloc ?_ _ | refine Ext.setCell ?_ (.inr (by first | omega | simp)) _))⟩
  · have hss : (ts.size : Int) + 1 ≤ 9223372036854775807 := by omega
    have hss2 : ((⟨#[63]⟩ : ByteArray).size) = 1 := rfl
    go_wp2_with (refine wpList_store_box rfl 24 _ _ rfl (w.heap.size + 1) _ [.int .i64 from_, .string (ts ++ ⟨#[63]⟩)] _ rfl rfl (Bx.extN (Bx.newAt _ _ _ _ (by simp)) xq.ext) rfl info_sig2 (by simp [Value.oneCell']) (fun W hB => ?_); have BZ := Go.Lib.hid hB; clear hB)
    have r0 : W.on.cell? ⟨w.heap.size + 1, 0, none⟩ = some (.int .i64 from_) := BZ.out.cell rfl
    have r1 : W.on.cell? ⟨w.heap.size + 1, 1, none⟩ = some (.string (ts ++ ⟨#[63]⟩)) := BZ.out.cell rfl
    exact bodyPost_ret (v := .agg #[.int .i64 from_, .string (ts ++ ⟨#[63]⟩)]) (by simp [results, Try.results81, go_sem, r0, r1]) rfl ⟨by rw [DT.out]; rfl, by (repeat (first | with_reducible (first | exact Ext.refl _ _ | assumption | refine Ext.upN ?_ | refine Ext.alloc ?_ _ | refine Ext.drew ?_ | refine Ext.drewN ?_ _ | refine Ext.up1N (by first | omega | simp) ?_) | refine Ext.alloc ?_ _ | refine Ext.setCell ?_ (.inr (by first | omega | simp)) _))⟩
end Go.Proofs.Ytakbkpklfihfiaa
