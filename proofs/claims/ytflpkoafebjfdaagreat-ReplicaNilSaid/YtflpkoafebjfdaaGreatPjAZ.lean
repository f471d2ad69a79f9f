/- Joined texts: Slots5, Slots6, Slots7. What each proves stands at its head; no conditions beside those in its theorems. -/
import Derived.Test.YtflpkoafebjfdaaGreatPjAY
/- Contracts of layer 14: slot.clear, Log.clear, Log.Enter, New, Log.View. -/
namespace Go.Proofs.YtflpkoafebjfdaaGreat
open Go.RowKit Go.Lib F64
set_option linter.unusedSimpArgs false
set_option linter.unusedVariables false
attribute [local go_sem] run_store_float
attribute [local go_sem low] EW.cellN EW.frozN alloc_cell_or alloc_froz_or EW.cellF EW.frozF EW.cell1 EW.froz1
attribute [local go_sem] relAt relUpon
structure R5 where
  x0 : Value
  x1 : Value
  x2 : Value
  x3 : Value
  x4 : Value
def R5.row (p : R5) : List Value := [p.x0, p.x1, p.x2, p.x3, p.x4]
def rr (h0 h1 h2 : Value) (r : Nat → R5) : List Value := h0 :: h1 :: h2 :: ((r 0).row ++ ((r 1).row ++ ((r 2).row ++ (r 3).row)))
def updR (r : Nat → R5) (i : Nat) (p : R5) : Nat → R5 := fun j => if j = i then p else r j
theorem rr_get {h0 h1 h2 : Value} {r : Nat → R5} {i j : Nat} (hi : i < 4) (hj : j < 5) : (rr h0 h1 h2 r)[3 + i * 5 + j]? = (r i).row[j]? := by
  have h4 : i = 0 ∨ i = 1 ∨ i = 2 ∨ i = 3 := by omega
  have h5 : j = 0 ∨ j = 1 ∨ j = 2 ∨ j = 3 ∨ j = 4 := by omega
  rcases h4 with rfl | rfl | rfl | rfl <;> rcases h5 with rfl | rfl | rfl | rfl | rfl <;> rfl
theorem rr_set {h0 h1 h2 : Value} {r : Nat → R5} {i j : Nat} (hi : i < 4) (hj : j < 5) (v : Value) (p : R5) (hp : (r i).row.set j v = p.row) : (rr h0 h1 h2 r).set (3 + i * 5 + j) v = rr h0 h1 h2 (updR r i p) := by
  have h4 : i = 0 ∨ i = 1 ∨ i = 2 ∨ i = 3 := by omega
  have h5 : j = 0 ∨ j = 1 ∨ j = 2 ∨ j = 3 ∨ j = 4 := by omega
  rcases h4 with rfl | rfl | rfl | rfl <;> rcases h5 with rfl | rfl | rfl | rfl | rfl <;> simp [rr, updR, R5.row] at hp ⊢ <;> exact hp
theorem updR_upd (r : Nat → R5) (i : Nat) (p q : R5) : updR (updR r i p) i q = updR r i q := by
  funext j
  unfold updR
  by_cases h : j = i <;> simp [h]
/-- The cells of a log, whatever they hold. -/
def RawB (w : World) (b : Nat) (h0 h1 h2 : Value) (r : Nat → R5) : Prop := w.heap[b]? = some (.cells (rr h0 h1 h2 r).toArray 193 (0, 0))
theorem RawB.lt {w : World} {b : Nat} {h0 h1 h2 : Value} {r : Nat → R5} (h : RawB w b h0 h1 h2 r) : b < w.heap.size := (Array.getElem?_eq_some_iff.1 h).1
theorem RawB.alloc {w : World} {b : Nat} {h0 h1 h2 : Value} {r : Nat → R5} (h : RawB w b h0 h1 h2 r) (o : Obj) : RawB (w.alloc o) b h0 h1 h2 r := (((Ext.refl Non w).alloc o).block b h.lt id).trans h
theorem RawB.set {w : World} {b : Nat} {h0 h1 h2 : Value} {r : Nat → R5} (h : RawB w b h0 h1 h2 r) {i j : Nat} (hi : i < 4) (hj : j < 5) (v : Value) (p : R5) (hp : (r i).row.set j v = p.row) : RawB (w.setCell ⟨b, 3 + i * 5 + j, none⟩ v) b h0 h1 h2 (updR r i p) := by
  have := heap_set_same (k := 3 + i * 5 + j) h v
  rw [rr_set hi hj v p hp] at this
  exact this
theorem RawB.cell {w : World} {b : Nat} {h0 h1 h2 : Value} {r : Nat → R5} (h : RawB w b h0 h1 h2 r) {i j : Nat} (hi : i < 4) (hj : j < 5) {v : Value} (hv : (r i).row[j]? = some v) : w.cell? ⟨b, 3 + i * 5 + j, none⟩ = some v := cell_of_heap h ((rr_get hi hj).trans hv)
theorem RawB.fz {w : World} {b : Nat} {h0 h1 h2 : Value} {r : Nat → R5} (h : RawB w b h0 h1 h2 r) (k : Nat) : w.frozen? ⟨b, k, none⟩ = false := froz_of_heap h
set_option maxHeartbeats 1000000 in
set_option maxRecDepth 100000 in
theorem slot_clear (b i : Nat) (h0 h1 h2 : Value) (r : Nat → R5) (hi : i < 4) (w : World) (h : RawB w b h0 h1 h2 r) :
    Calls Tryz.prog 251 #[.pointer (some ⟨b, 3 + i * 5, none⟩)] w fun e w' => e = .returned (.tuple #[]) ∧ w'.heap[w.heap.size]? = some (.map #[] 0) ∧ w'.heap[w.heap.size + 1]? = some (.map #[] 0) ∧ RawB w' b h0 h1 h2 (updR r i ⟨.pointer none, .map (some w.heap.size), .map (some (w.heap.size + 1)), (r i).x3, (r i).x4⟩) ∧ Ext (One b) w w' ∧ w'.heap.size = w.heap.size + 2 := by
  have HH := Go.Lib.hid h
  have k0 : w.cell? ⟨b, 3 + i * 5, none⟩ = some (r i).x0 := h.cell hi (show 0 < 5 by omega) rfl
  have k1 : w.cell? ⟨b, 3 + i * 5 + 1, none⟩ = some (r i).x1 := h.cell hi (show 1 < 5 by omega) rfl
  have k2 : w.cell? ⟨b, 3 + i * 5 + 2, none⟩ = some (r i).x2 := h.cell hi (show 2 < 5 by omega) rfl
  have f0 : w.frozen? ⟨b, 3 + i * 5, none⟩ = false := h.fz _
  have f1 : w.frozen? ⟨b, 3 + i * 5 + 1, none⟩ = false := h.fz _
  have f2 : w.frozen? ⟨b, 3 + i * 5 + 2, none⟩ = false := h.fz _
  have hbl := h.lt
  have hmm := @run_makeMap Tryz.prog
  clear h
  go_enter Tryz.func251, Tryz.ntmps251
  go_wp2
  go_returns
  have HX : Ext (One b) w (((w.setCell ⟨b, 3 + i * 5, none⟩ (.pointer none)).setCell ⟨b, 3 + i * 5 + 1, none⟩ (.map (some w.heap.size))).setCell ⟨b, 3 + i * 5 + 2, none⟩ (.map (some (w.heap.size + 1)))) := ((((Ext.refl _ _).set1 _).set1 _).set1 _)
  have hs : (((w.setCell ⟨b, 3 + i * 5, none⟩ (.pointer none)).setCell ⟨b, 3 + i * 5 + 1, none⟩ (.map (some w.heap.size))).setCell ⟨b, 3 + i * 5 + 2, none⟩ (.map (some (w.heap.size + 1)))).heap.size = w.heap.size := by simp [World.setCell]
  have two : ∀ W3 : World, W3.heap.size = w.heap.size → ((W3.alloc (.map #[] 0)).alloc (.map #[] 0)).heap[w.heap.size]? = some (.map #[] 0) ∧ ((W3.alloc (.map #[] 0)).alloc (.map #[] 0)).heap[w.heap.size + 1]? = some (.map #[] 0) ∧ ((W3.alloc (.map #[] 0)).alloc (.map #[] 0)).heap.size = w.heap.size + 2 := fun W3 h => by
    refine ⟨?_, ?_, by simp [h]⟩
    · refine (((Ext.refl Non (W3.alloc (.map #[] 0))).alloc (.map #[] 0)).block _ (by simp [h]) id).trans ?_
      rw [← h]; exact heap_alloc_new _ _
    · have e : w.heap.size + 1 = (W3.alloc (.map #[] 0)).heap.size := by simp [h]
      rw [e]; exact heap_alloc_new _ _
  obtain ⟨t1, t2, t3⟩ := two _ hs
  refine ⟨rfl, t1, t2, ?_, (HX.alloc _).alloc _, t3⟩
  · have e0 : RawB (w.setCell ⟨b, 3 + i * 5, none⟩ (.pointer none)) b h0 h1 h2 (updR r i ⟨.pointer none, (r i).x1, (r i).x2, (r i).x3, (r i).x4⟩) := HH.out.set hi (show 0 < 5 by omega) (.pointer none) ⟨.pointer none, (r i).x1, (r i).x2, (r i).x3, (r i).x4⟩ rfl
    have e1 := e0.set hi (show 1 < 5 by omega) (.map (some w.heap.size)) ⟨.pointer none, .map (some w.heap.size), (r i).x2, (r i).x3, (r i).x4⟩ (by simp [updR, R5.row])
    rw [updR_upd] at e1
    have e2 := e1.set hi (show 2 < 5 by omega) (.map (some (w.heap.size + 1))) ⟨.pointer none, .map (some w.heap.size), .map (some (w.heap.size + 1)), (r i).x3, (r i).x4⟩ (by simp [updR, R5.row])
    rw [updR_upd] at e2
    exact (e2.alloc _).alloc _
def clr (mm : Nat → Nat) (r : Nat → R5) (k : Nat) : Nat → R5 := fun j => if j < k then ⟨.pointer none, .map (some (mm j)), .map (some (mm j + 1)), (r j).x3, (r j).x4⟩ else r j
theorem clr_zero (mm : Nat → Nat) (r : Nat → R5) : clr mm r 0 = r := by funext j; exact if_neg (Nat.not_lt_zero _)
theorem clr_succ (mm : Nat → Nat) (r : Nat → R5) (k m : Nat) : updR (clr mm r k) k ⟨.pointer none, .map (some m), .map (some (m + 1)), ((clr mm r k) k).x3, ((clr mm r k) k).x4⟩ = clr (fun j => if j = k then m else mm j) r (k + 1) := by
  funext j
  unfold updR clr
  by_cases h : j = k
  · subst h; simp
  · rw [if_neg h]
    by_cases h2 : j < k
    · rw [if_pos h2, if_pos (by omega)]; simp [h]
    · rw [if_neg h2, if_neg (by omega)]
/-- The maps that a clear has made: each pair new, none of them two times. -/
structure Made (w w' : World) (mm : Nat → Nat) (k : Nat) : Prop where
  old : ∀ j, j < k → w.heap.size ≤ mm j ∧ mm j + 1 < w'.heap.size ∧ w'.heap[mm j]? = some (.map #[] 0) ∧ w'.heap[mm j + 1]? = some (.map #[] 0)
  apart : ∀ i j, i < j → j < k → mm i + 1 < mm j
set_option maxHeartbeats 1000000 in
set_option maxRecDepth 100000 in
theorem log_clear (b : Nat) (h0 h1 h2 : Value) (r : Nat → R5) (w : World) (h : RawB w b h0 h1 h2 r) :
    Calls Tryz.prog 158 #[.pointer (some ⟨b, 0, none⟩)] w fun e w' => e = .returned (.tuple #[]) ∧ ∃ mm, RawB w' b h0 h1 h2 (clr mm r 4) ∧ Made w w' mm 4 ∧ Ext (One b) w w' := by
  have HH := Go.Lib.hid h
  have hbl := h.lt
  clear h
  go_enter Tryz.func158, Tryz.ntmps158
  go_wp2_with fail
  go_loopg [3] 4 (fun g iv wr => ∃ (k : Nat) (mm : Nat → Nat) (z : EW (One b) w), k ≤ 4 ∧ g = 4 - k ∧ iv = .int .i64 k ∧ wr = z.on ∧ Hid (RawB wr b h0 h1 h2 (clr mm r k)) ∧ Hid (Made w wr mm k))
  case atStart => exact ⟨0, fun _ => 0, ⟨w, Ext.refl _ _⟩, by omega, rfl, rfl, rfl, Go.Lib.hid (by rw [clr_zero]; exact HH.out), Go.Lib.hid ⟨fun j hj => absurd hj (Nat.not_lt_zero _), fun i j _ hj => absurd hj (Nat.not_lt_zero _)⟩⟩
  case round =>
    obtain ⟨k, mm, z, hk, hg, rfl, rfl, HR, HM⟩ := hrel
    have HG := Go.Lib.hid hg; clear hg
    by_cases hlt : k < 4
    · go_wp2_with fail
      refine (slot_clear b k h0 h1 h2 (clr mm r k) hlt _ HR.out).mono ?_
      rintro e w2 ⟨rfl, m1, m2, hR, hx, hsz⟩
      have HR2 : Hid (RawB w2 b h0 h1 h2 (clr (fun j => if j = k then z.on.heap.size else mm j) r (k + 1))) := Go.Lib.hid (by rw [← clr_succ]; exact hR)
      have HM2 : Hid (Made w w2 (fun j => if j = k then z.on.heap.size else mm j) (k + 1)) := Go.Lib.hid (by
        refine ⟨fun j hj => ?_, fun i j hij hj => ?_⟩
        · by_cases e : j = k
          · subst e; simp only [if_true]; exact ⟨z.ext.size, by omega, m1, m2⟩
          · simp only [if_neg e]
            obtain ⟨q1, q2, q3, q4⟩ := HM.out.old j (by omega)
            have nb1 : ¬ One b (mm j) := fun e => absurd (q3.symm.trans ((congrArg (fun k => z.on.heap[k]?) e).trans HR.out)) (by simp)
            have nb2 : ¬ One b (mm j + 1) := fun e => absurd (q4.symm.trans ((congrArg (fun k => z.on.heap[k]?) e).trans HR.out)) (by simp)
            exact ⟨q1, by omega, (hx.block _ (by omega) nb1).trans q3, (hx.block _ (by omega) nb2).trans q4⟩
        · by_cases e : j = k
          · have ei : i ≠ k := by omega
            simp only [if_pos e, if_neg ei]
            exact (HM.out.old i (by omega)).2.1
          · have ei : i ≠ k := by omega
            simp only [if_neg e, if_neg ei]
            exact HM.out.apart i j hij (by omega))
      obtain ⟨z2, rfl⟩ := hx.ew
      clear hR m1 m2 hsz hx
      go_wp2_with fail
      go_roundg (4 - (k + 1))
      case measure => have := HG.out; omega
      case rel => exact ⟨k + 1, _, ⟨_, z.ext.trans z2.ext⟩, by omega, rfl, by go_num, rfl, HR2, HM2⟩
    · obtain rfl : k = 4 := by omega
      go_wp2
      go_returns
      exact ⟨rfl, mm, HR.out, HM.out, z.ext⟩
end Go.Proofs.YtflpkoafebjfdaaGreat

/- Contracts of layer 14: slots.New, Log.Enter, Log.View. -/
namespace Go.Proofs.YtflpkoafebjfdaaGreat
open Go.RowKit Go.Lib F64
set_option linter.unusedSimpArgs false
set_option linter.unusedVariables false
attribute [local go_sem] run_store_float
attribute [local go_sem low] EW.cellN EW.frozN alloc_cell_or alloc_froz_or EW.cellF EW.frozF EW.cell1 EW.froz1
attribute [local go_sem] relAt relUpon
theorem fresh.extN {n : Nat} {w w' : World} {a : Option Addr} (h : fresh n w a) (x : Ext Non w w') : fresh n w' a := fun k o e => by
  obtain ⟨h1, vs, fr, h2⟩ := h k o e
  exact ⟨h1, vs, fr, (x.block k (Array.getElem?_eq_some_iff.1 h2).1 id).trans h2⟩
def zeroR : R5 := ⟨.pointer none, .map none, .map none, .pointer none, .pointer none⟩
def moS (base : Nat) (xs : List Int) (f : Value → Value) : Mo := ⟨fun v w => ∃ a c, v = f (.slice a xs.length c) ∧ Ints w a c xs ∧ fresh base w a, fun _ _ _ x ⟨a, c, e, h, f⟩ => ⟨a, c, e, h.extN x, f.extN x⟩⟩
def logV (ep : Int) (s : Value) : Value := .agg (rr (.int .i64 ep) s (.int .i64 0) (fun _ => zeroR)).toArray
def moG (base : Nat) (ep : Int) (xs : List Int) : Mo := ⟨fun v w => ∃ g a c, v = .pointer (some ⟨g, 0, none⟩) ∧ base ≤ g ∧ RawB w g (.int .i64 ep) (.slice a xs.length c) (.int .i64 0) (fun _ => zeroR) ∧ Ints w a c xs ∧ fresh base w a,
  fun _ _ _ x ⟨g, a, c, e, l, r, h, f⟩ => ⟨g, a, c, e, l, (x.block g r.lt id).trans r, h.extN x, f.extN x⟩⟩
/-- A log all of whose slots have just been cleared. -/
theorem low_cleared {w w' : World} {b : Nat} {G : Nat → Prop} {ep view : Int} {a : Option Addr} {c : Nat} {mem : List Int} {mm : Nat → Nat} {r : Nat → R5} {pcs pds : Nat → Option Nat} {sl : Nat → Sl}
    (hR : RawB w' b (.int .i64 ep) (.slice a mem.length c) (.int .i64 view) (clr mm r 4)) (hM : Made w w' mm 4) (hi : Ints w' a c mem) (ha : ∀ b' o, a = some ⟨b', o, none⟩ → G b') (nb : ¬ G b) (lt : ∀ k, G k → k < w'.heap.size) (hG : ∀ k, w.heap.size ≤ k → k < w'.heap.size → k ≠ b → G k)
    (hc : confB ep mem = true) (hv : 0 ≤ view ∧ view ≤ 15) (h3 : ∀ i, i < 4 → (r i).x3 = ptV (pcs i) ∧ (r i).x4 = ptV (pds i)) (hp : ∀ i, i < 4 → PtrC w' G (pcs i) (sl i).cert ∧ PtrR w' G (pds i) (sl i).done) :
    LoW w' b G ⟨ep, mem, view, fun j => clearS (sl j)⟩ := by
  have hmb : ∀ j, j < 4 → mm j ≠ b ∧ mm j + 1 ≠ b := fun j hj => by
    obtain ⟨-, -, q3, q4⟩ := hM.old j hj
    exact ⟨fun e => absurd (q3.symm.trans ((congrArg (fun k => w'.heap[k]?) e).trans hR)) (by simp), fun e => absurd (q4.symm.trans ((congrArg (fun k => w'.heap[k]?) e).trans hR)) (by simp)⟩
  refine ⟨⟨a, c, fun j => ⟨none, mm j, mm j + 1, pcs j, pds j⟩, ?_, hi, ha, fun i h4 => ?_, fun i j h4 h4' => ?_⟩, nb, lt, hc, hv⟩
  · have e : rr (.int .i64 ep) (.slice a mem.length c) (.int .i64 view) (clr mm r 4) = rowLo ep a mem.length c view (fun j => ⟨none, mm j, mm j + 1, pcs j, pds j⟩) := by
      have k0 := h3 0 (by omega); have k1 := h3 1 (by omega); have k2 := h3 2 (by omega); have k3 := h3 3 (by omega)
      simp [rr, rowLo, clr, R5.row, Pt.row, k0, k1, k2, k3, ptV]
    have := hR
    unfold RawB at this
    rw [e] at this
    exact this
  · obtain ⟨q1, q2, q3, q4⟩ := hM.old i h4
    obtain ⟨n1, n2⟩ := hmb i h4
    exact ⟨.inl ⟨rfl, rfl⟩, MapG.empty q3, MapG.empty q4, (hp i h4).1, (hp i h4).2, hG (mm i) q1 (by omega) n1, hG (mm i + 1) (by omega) q2 n2, fun p hp => (List.not_mem_nil hp).elim, fun p hp => (List.not_mem_nil hp).elim⟩
  · have ap := hM.apart
    refine ⟨fun e => ?_, fun e => ?_, fun e => ?_⟩
    · rcases Nat.lt_trichotomy i j with h | h | h
      · have := ap i j h h4'; have e' : mm i = mm j := e; omega
      · exact h
      · have := ap j i h h4; have e' : mm i = mm j := e; omega
    · rcases Nat.lt_trichotomy i j with h | h | h
      · have := ap i j h h4'; have e' : mm i + 1 = mm j + 1 := e; omega
      · exact h
      · have := ap j i h h4; have e' : mm i + 1 = mm j + 1 := e; omega
    · rcases Nat.lt_trichotomy i j with h | h | h
      · have := ap i j h h4'; have e' : mm i = mm j + 1 := e; omega
      · subst h; have e' : mm i = mm i + 1 := e; omega
      · have := ap j i h h4; have e' : mm i = mm j + 1 := e; omega
set_option maxHeartbeats 2000000 in
set_option maxRecDepth 100000 in
theorem slots_New (ep : Int) (a : Option Addr) (cap : Nat) (xs : List Int) (hc : confB ep xs = true) (w : World) (h : Ints w a cap xs) : Calls Tryz.prog 89 #[.agg #[.int .i64 ep, .slice a xs.length cap]] w fun e w' =>
    ∃ b G, e = .returned (.tuple #[.pointer (some ⟨b, 0, none⟩), .int .i64 0]) ∧ LoW w' b G (newLo ep xs) ∧ (∀ k, LoF b G k → w.heap.size ≤ k) ∧ Ext Non w w' := by
  have HI := Go.Lib.hid h
  have HC := Go.Lib.hid hc
  have hl := (conf_len10 hc).2
  clear h
  go_enter Tryz.func89, Tryz.ntmps89
  go_wp2_with fail
  refine Calls.ew (council_Right ep a cap xs _ (HI.out.extN (by (repeat (first | with_reducible (first | exact Ext.refl _ _ | assumption | refine Ext.upN ?_ | refine Ext.alloc ?_ _ | refine Ext.drew ?_ | refine Ext.drewN ?_ _ | refine Ext.up1N (by first | omega | simp) ?_) | refine Ext.alloc ?_ _ | refine Ext.setCell ?_ (.inr (by first | omega | simp)) _))))) ?_
  rintro e x1 rfl
  rw [hc]
  clear hc
  go_upto_region 3 with fail
  apply wp_region_rel (relR [Mo.is _, Mo.is _, Mo.is _, Mo.is _, moS w.heap.size xs (fun s => s), moS w.heap.size xs (fun s => .agg #[.int .i64 ep, s]), moS w.heap.size xs (logV ep), moG w.heap.size ep xs, moG w.heap.size ep xs]) (by kernel_rfl) (by kernel_rfl) (by kernel_rfl) (relR_mono _) (StepD.all ?st2) ?q2
  case st2 =>
    refine ⟨?_, ?_, ?_, ?_, ?_, ?_, ?_, ?_, ?_, trivial⟩
    · intro a' w' hx hs hd
      obtain ⟨y, rfl⟩ := hx.ew
      have e1 : a'.tmps[1]?.getD undef = _ := hs 1 rfl
      simp only [List.getElem?_toArray, List.getElem?_cons_succ, List.getElem?_cons_zero, Option.getD_some, Array.getElem?_eq_some_iff] at e1
      refine .inl ⟨rfl, ?_⟩
      clear hs hd hx
      go_simp
      exact ⟨Ext.refl _ _, rfl⟩
    · intro a' w' hx hs hd
      obtain ⟨y, rfl⟩ := hx.ew
      have e8 : a'.tmps[8]?.getD undef = _ := hd 0 8 rfl rfl
      refine .inl ⟨rfl, ?_⟩
      clear hs hd hx
      go_simp
      exact ⟨Ext.refl _ _, rfl⟩
    · intro a' w' hx hs hd
      obtain ⟨y, rfl⟩ := hx.ew
      have e1 : a'.tmps[1]?.getD undef = _ := hs 1 rfl
      simp only [List.getElem?_toArray, List.getElem?_cons_succ, List.getElem?_cons_zero, Option.getD_some, Array.getElem?_eq_some_iff] at e1
      refine .inl ⟨rfl, ?_⟩
      clear hs hd hx
      go_simp
      exact ⟨Ext.refl _ _, rfl⟩
    · intro a' w' hx hs hd
      obtain ⟨y, rfl⟩ := hx.ew
      have e10 : a'.tmps[10]?.getD undef = _ := hd 2 10 rfl rfl
      refine .inl ⟨rfl, ?_⟩
      clear hs hd hx
      go_simp
      exact ⟨Ext.refl _ _, rfl⟩
    · intro a' w' hx hs hd
      obtain ⟨y, rfl⟩ := hx.ew
      have e11 : a'.tmps[11]?.getD undef = _ := hd 3 11 rfl rfl
      refine .inl ⟨rfl, ?_⟩
      clear hs hd hx
      go_simp
      exact (slices_Clone a cap xs (by omega) _ (HI.out.extN (by (repeat (first | with_reducible (first | exact Ext.refl _ _ | assumption | refine Ext.upN ?_ | refine Ext.alloc ?_ _ | refine Ext.drew ?_ | refine Ext.drewN ?_ _ | refine Ext.up1N (by first | omega | simp) ?_) | refine Ext.alloc ?_ _ | refine Ext.setCell ?_ (.inr (by first | omega | simp)) _))))).mono (fun e w'' ⟨a', c', he, hx, hI, hf⟩ => ⟨_, he, hx, a', c', rfl, hI, fun k o q => ⟨Nat.le_trans (Ext.size (by (repeat (first | with_reducible (first | exact Ext.refl _ _ | assumption | refine Ext.upN ?_ | refine Ext.alloc ?_ _ | refine Ext.drew ?_ | refine Ext.drewN ?_ _ | refine Ext.up1N (by first | omega | simp) ?_) | refine Ext.alloc ?_ _ | refine Ext.setCell ?_ (.inr (by first | omega | simp)) _)) : Ext Non w y.on)) (hf k o q).1, (hf k o q).2⟩⟩)
    · intro a' w' hx hs hd
      obtain ⟨y, rfl⟩ := hx.ew
      have e9 : a'.tmps[9]?.getD undef = _ := hd 1 9 rfl rfl
      obtain ⟨sa, sc, e12, hI, hf⟩ : ∃ sa sc, a'.tmps[12]?.getD undef = .slice sa xs.length sc ∧ Ints y.on sa sc xs ∧ fresh w.heap.size y.on sa := hd 4 12 rfl rfl
      refine .inl ⟨rfl, ?_⟩
      clear hs hd hx
      go_simp
      exact ⟨Ext.refl _ _, sa, sc, rfl, hI, hf⟩
    · intro a' w' hx hs hd
      obtain ⟨y, rfl⟩ := hx.ew
      obtain ⟨sa, sc, e13, hI, hf⟩ : ∃ sa sc, a'.tmps[13]?.getD undef = .agg #[.int .i64 ep, .slice sa xs.length sc] ∧ Ints y.on sa sc xs ∧ fresh w.heap.size y.on sa := hd 5 13 rfl rfl
      refine .inl ⟨rfl, ?_⟩
      clear hs hd hx
      go_simp
      exact ⟨Ext.refl _ _, sa, sc, rfl, hI, hf⟩
    · intro a' w' hx hs hd
      obtain ⟨y, rfl⟩ := hx.ew
      obtain ⟨sa, sc, e14, hI, hf⟩ : ∃ sa sc, a'.tmps[14]?.getD undef = logV ep (.slice sa xs.length sc) ∧ Ints y.on sa sc xs ∧ fresh w.heap.size y.on sa := hd 6 14 rfl rfl
      refine .inl ⟨rfl, ?_⟩
      clear hs hd hx
      simp only [logV, rr, R5.row, zeroR, List.cons_append, List.nil_append] at e14
      go_simp
      exact ⟨(Ext.refl _ _).alloc _, _, sa, sc, rfl, Ext.size (by (repeat (first | with_reducible (first | exact Ext.refl _ _ | assumption | refine Ext.upN ?_ | refine Ext.alloc ?_ _ | refine Ext.drew ?_ | refine Ext.drewN ?_ _ | refine Ext.up1N (by first | omega | simp) ?_) | refine Ext.alloc ?_ _ | refine Ext.setCell ?_ (.inr (by first | omega | simp)) _)) : Ext Non w y.on), heap_alloc_new _ _, hI.extN ((Ext.refl _ _).alloc _), hf.extN ((Ext.refl _ _).alloc _)⟩
    · intro a' w' hx hs hd
      obtain ⟨y, rfl⟩ := hx.ew
      obtain ⟨g, sa, sc, e15, hgl, hR, hI, hf⟩ : ∃ g sa sc, a'.tmps[15]?.getD undef = .pointer (some ⟨g, 0, none⟩) ∧ w.heap.size ≤ g ∧ RawB y.on g (.int .i64 ep) (.slice sa xs.length sc) (.int .i64 0) (fun _ => zeroR) ∧ Ints y.on sa sc xs ∧ fresh w.heap.size y.on sa := hd 7 15 rfl rfl
      refine .inl ⟨rfl, ?_⟩
      clear hs hd hx
      go_simp
      exact ⟨Ext.refl _ _, g, sa, sc, rfl, hgl, hR, hI, hf⟩
  case' q2 =>
    intro vs w' hx hRR
    obtain ⟨x2, rfl⟩ := hx.ew
    have q0 : vs 0 = _ := hRR 0 (by decide)
    have q1 : vs 1 = _ := hRR 1 (by decide)
    have q2 : vs 2 = _ := hRR 2 (by decide)
    have q3 : vs 3 = _ := hRR 3 (by decide)
    obtain ⟨sa, sc, q4, hI, hf⟩ : ∃ sa sc, vs 4 = .slice sa xs.length sc ∧ Ints x2.on sa sc xs ∧ fresh w.heap.size x2.on sa := hRR 4 (by decide)
    obtain ⟨sa, sc, q5, hI, hf⟩ : ∃ sa sc, vs 5 = .agg #[.int .i64 ep, .slice sa xs.length sc] ∧ Ints x2.on sa sc xs ∧ fresh w.heap.size x2.on sa := hRR 5 (by decide)
    obtain ⟨sa, sc, q6, hI, hf⟩ : ∃ sa sc, vs 6 = logV ep (.slice sa xs.length sc) ∧ Ints x2.on sa sc xs ∧ fresh w.heap.size x2.on sa := hRR 6 (by decide)
    obtain ⟨g, sa, sc, q7, hgl, hR, hI, hf⟩ : ∃ g sa sc, vs 7 = .pointer (some ⟨g, 0, none⟩) ∧ w.heap.size ≤ g ∧ RawB x2.on g (.int .i64 ep) (.slice sa xs.length sc) (.int .i64 0) (fun _ => zeroR) ∧ Ints x2.on sa sc xs ∧ fresh w.heap.size x2.on sa := hRR 7 (by decide)
    obtain ⟨g, sa, sc, q8, hgl, hR, hI, hf⟩ : ∃ g sa sc, vs 8 = .pointer (some ⟨g, 0, none⟩) ∧ w.heap.size ≤ g ∧ RawB x2.on g (.int .i64 ep) (.slice sa xs.length sc) (.int .i64 0) (fun _ => zeroR) ∧ Ints x2.on sa sc xs ∧ fresh w.heap.size x2.on sa := hRR 8 (by decide)
    clear hRR hx
    simp only [putAll, List.take_succ_cons, List.take_zero, List.drop_succ_cons, List.drop_zero, Act.put, List.setIfInBounds_toArray, List.set_cons_zero, List.set_cons_succ, Nat.reduceAdd, Nat.zero_add]
    simp only [q0, q1, q2, q3, q4, q5, q6, q7, q8]
    clear q0 q1 q2 q3 q4 q5 q6 q7 q8 vs
  have HR := Go.Lib.hid hR; have HS := Go.Lib.hid hI; have HF := Go.Lib.hid hf
  clear hR hI hf
  go_wp2_with fail
  refine (log_clear g (.int .i64 ep) (.slice sa xs.length sc) (.int .i64 0) (fun _ => zeroR) _ HR.out).mono ?_
  rintro e _ ⟨rfl, mm, hR, hM, hx⟩
  obtain ⟨x3, rfl⟩ := hx.ew
  have HR3 := Go.Lib.hid hR; have HM := Go.Lib.hid hM
  clear hR hM hx
  have X2 : Ext Non w x2.on := by (repeat (first | with_reducible (first | exact Ext.refl _ _ | assumption | refine Ext.upN ?_ | refine Ext.alloc ?_ _ | refine Ext.drew ?_ | refine Ext.drewN ?_ _ | refine Ext.up1N (by first | omega | simp) ?_) | refine Ext.alloc ?_ _ | refine Ext.setCell ?_ (.inr (by first | omega | simp)) _))
  have XF : Ext Non w x3.on := X2.step x3.ext (fun i hi e => by unfold One at e; omega)
  have hsg : ∀ b' o, sa = some ⟨b', o, none⟩ → b' ≠ g := fun b' o e q => by
    obtain ⟨-, vs, fr, h2⟩ := HF.out b' o e
    subst q
    have := HR.out
    unfold RawB at this
    rw [h2] at this
    injection this with this
    injection this with _ this _
    exact absurd this (by decide)
  have hsl : ∀ b' o, sa = some ⟨b', o, none⟩ → w.heap.size ≤ b' ∧ b' < x2.on.heap.size := fun b' o e => by
    obtain ⟨h1, vs, fr, h2⟩ := HF.out b' o e
    exact ⟨h1, (Array.getElem?_eq_some_iff.1 h2).1⟩
  have hs23 := x3.ext.size
  go_wp2
  go_returns
  refine ⟨g, fun k => w.heap.size ≤ k ∧ k < x3.on.heap.size ∧ k ≠ g, rfl, ?_, fun k hk => ?_, XF⟩
  · have hs2 := X2.size
    exact low_cleared (w := x2.on) (pcs := fun _ => none) (pds := fun _ => none) (sl := fun _ => emptyS) HR3.out HM.out (HS.out.ext x3.ext (fun b' o e q => hsg b' o e q)) (fun b' o e => ⟨(hsl b' o e).1, by have := (hsl b' o e).2; omega, hsg b' o e⟩) (fun h => h.2.2 rfl) (fun k h => h.2.1) (fun k h1 h2 h3 => ⟨by omega, h2, h3⟩) HC.out ⟨by omega, by omega⟩ (fun i hi => ⟨rfl, rfl⟩) (fun i hi => ⟨.inl ⟨rfl, rfl⟩, .inl ⟨rfl, rfl⟩⟩)
  · rcases hk with rfl | hk
    · exact hgl
    · exact hk.1
set_option maxRecDepth 100000 in
theorem log_View (b : Nat) (G : Nat → Prop) (g : Lo) (w : World) (h : LoW w b G g) : Calls Tryz.prog 53 #[.pointer (some ⟨b, 0, none⟩)] w fun e w' => e = .returned (.int .i64 g.view) ∧ w = w' := by
  obtain ⟨a, c, pt, P⟩ := h.parts
  have c2 := P.c2
  clear P h
  go_enter Tryz.func53, Tryz.ntmps53
  go_wp2
  go_ret
  exact ⟨rfl, rfl⟩
end Go.Proofs.YtflpkoafebjfdaaGreat

/- Contracts of layer 14: Log.Propose, Log.Prepare, Log.Commit. -/
namespace Go.Proofs.YtflpkoafebjfdaaGreat
open Go.RowKit Go.Lib F64
set_option linter.unusedSimpArgs false
set_option linter.unusedVariables false
attribute [local go_sem] run_store_float
attribute [local go_sem low] EW.cellN EW.frozN alloc_cell_or alloc_froz_or EW.cellF EW.frozF EW.cell1 EW.froz1
attribute [local go_sem] relAt relUpon
/-- A map of votes has changed: the others stand. -/
theorem LoW.upd {w w2 : World} {b : Nat} {G : Nat → Prop} {g : Lo} {a : Option Addr} {c : Nat} {pt : Nat → Pt} (h : LoW w b G g) (hp : LoP w b G g a c pt) {i m : Nat} (hi : i < 4) {l0 : List (Int × Vt)} (hm0 : MapG vtE w m l0) (hG : G m) (hX : Ext (One m) w w2) (s : Sl)
    (hmm : ∀ j, j < 4 → (j ≠ i → (pt j).m1 ≠ m ∧ (pt j).m2 ≠ m)) (h1 : MapG vtE w2 (pt i).m1 s.prep) (h2 : MapG vtE w2 (pt i).m2 s.com) (e : s.prop = (g.sl i).prop ∧ s.cert = (g.sl i).cert ∧ s.done = (g.sl i).done) (o1 : VtsOk s.prep) (o2 : VtsOk s.com) : LoW w2 b G (putS g i s) := by
  have hbm : ¬ One m b := fun e => by
    unfold One at e
    obtain ⟨es, ck, hb, -⟩ := hm0.ex
    have := hp.h
    rw [e, hb] at this
    cases this
  have hbx : ∀ k vs t, G k → Bx w k vs t → ¬ One m k := fun k vs t _ hB e => map_no_box hm0 hB e
  have hcl : ∀ k i v, G k → w.cell? ⟨k, i, none⟩ = some v → ¬ One m k := fun k i v _ hc e => by unfold One at e; subst e; exact map_no_cell hm0 i v hc
  refine ⟨⟨a, c, pt, (hX.block b h.bl hbm).trans hp.h, ?_, hp.ia, fun j hj => ?_, hp.d⟩, h.nb, fun k hk => Nat.lt_of_lt_of_le (h.lt k hk) hX.size, h.conf, h.vw⟩
  · refine hp.ints.ext hX (fun b' o e q => ?_)
    obtain ⟨b2, o2, e2, c2, -⟩ := hp.ints.at_ 0 (by have := h.len.1; omega)
    rw [e] at e2; injection e2 with e2; injection e2 with e2 _; subst e2
    unfold One at q; subst q
    exact map_no_cell hm0 _ _ c2
  · have q := hp.sl j hj
    by_cases e2 : j = i
    · subst e2
      show SlW _ G (pt j) (if j = j then s else g.sl j)
      rw [if_pos rfl]
      exact ⟨by rw [e.1]; exact q.prop.ext hX (fun k vs t hk hB => hbx k vs t hk hB) (fun _ h => h), h1, h2, by rw [e.2.1]; exact q.cert.ext hX (fun k vs t hk hB => hbx k vs t hk hB) (fun k i v hk hc => hcl k i v hk hc) (fun _ h => h), by rw [e.2.2]; exact q.done.ext hX (fun k vs t hk hB => hbx k vs t hk hB) (fun _ h => h), q.f1, q.f2, o1, o2⟩
    · show SlW _ G (pt j) (if j = i then s else g.sl j)
      rw [if_neg e2]
      obtain ⟨d1, d2⟩ := hmm j hj e2
      exact ⟨q.prop.ext hX (fun k vs t hk hB => hbx k vs t hk hB) (fun _ h => h), q.prep.ext hX d1, q.com.ext hX d2, q.cert.ext hX (fun k vs t hk hB => hbx k vs t hk hB) (fun k i v hk hc => hcl k i v hk hc) (fun _ h => h), q.done.ext hX (fun k vs t hk hB => hbx k vs t hk hB) (fun _ h => h), q.f1, q.f2, q.ok1, q.ok2⟩
set_option maxHeartbeats 2000000 in
set_option maxRecDepth 100000 in
theorem log_Propose (b : Nat) (G : Nat → Prop) (g : Lo) (n : Int) (hn : I64 n) (c s k : Int) (key : ByteArray) (x : Nat) (id : Int) (hr : ReqOk ⟨c, s, ⟨k, key, x, id⟩⟩) (w : World) (h : LoW w b G g) :
    Calls Tryz.prog 198 #[.pointer (some ⟨b, 0, none⟩), .int .i64 n, .agg #[.int .i64 c, .int .i64 s, .int .i64 k, .string key, .float .f64 x, .int .i64 id]] w fun e w' =>
    e = .returned (.int .i64 (proposeE g n ⟨c, s, ⟨k, key, x, id⟩⟩)) ∧ ∃ G', LoW w' b G' (proposeG g n ⟨c, s, ⟨k, key, x, id⟩⟩) ∧ (∀ k, G' k → G k ∨ w.heap.size ≤ k) ∧ Ext (One b) w w' := by
  have HL := Go.Lib.hid h
  obtain ⟨a, cc, pt, P⟩ := h.parts
  have HP := Go.Lib.hid P
  have c0 := P.c0
  have HR := Go.Lib.hid hr
  have hbl := h.bl
  have DE : Hid (proposeE g n ⟨c, s, ⟨k, key, x, id⟩⟩ = if askedB ⟨c, s, ⟨k, key, x, id⟩⟩ = true then (match idxN g.ep n with | none => 14 | some i => match (g.sl i).prop with | some y => if sameT y ⟨c, s, ⟨k, key, x, id⟩⟩ = true then 7 else 22 | none => 0) else 1) := Go.Lib.hid rfl
  have DG : Hid (proposeG g n ⟨c, s, ⟨k, key, x, id⟩⟩ = if proposeE g n ⟨c, s, ⟨k, key, x, id⟩⟩ = 0 then (match idxN g.ep n with | some i => putS g i (lookS g.mem g.view n { g.sl i with prop := some ⟨c, s, ⟨k, key, x, id⟩⟩ }) | none => g) else g) := Go.Lib.hid rfl
  have ST : Hid (∀ (e : Int) (w' : World), proposeE g n ⟨c, s, ⟨k, key, x, id⟩⟩ = e → e ≠ 0 → Ext Non w w' → Ending.returned (.int .i64 e) = Ending.returned (.int .i64 (proposeE g n ⟨c, s, ⟨k, key, x, id⟩⟩)) ∧ ∃ G', LoW w' b G' (proposeG g n ⟨c, s, ⟨k, key, x, id⟩⟩) ∧ (∀ k, G' k → G k ∨ w.heap.size ≤ k) ∧ Ext (One b) w w') := Go.Lib.hid (fun e w' h1 h2 hx => ⟨ret_int h1.symm, G, by rw [DG.out, if_neg (by rw [h1]; exact h2)]; exact HL.out.extN hx, fun k hk => .inl hk, hx.ofNon⟩)
  clear P h hr
  cases ha : askedB ⟨c, s, ⟨k, key, x, id⟩⟩
  · as_aux_lemma =>
    have HE : Hid (proposeE g n ⟨c, s, ⟨k, key, x, id⟩⟩ = 1) := Go.Lib.hid (by rw [DE.out, ha]; rfl)
    have HM := Go.Lib.hid (slots_may_bad b n c s k key x id HR.out ha)
    clear ha
    go_enter Tryz.func198, Tryz.ntmps198
    go_wp2_with fail
    refine Calls.ew (HM.out _) ?_
    rintro e x1 rfl
    go_wp2
    go_ret
    exact ST.out _ _ HE.out (by decide) (by (repeat (first | with_reducible (first | exact Ext.refl _ _ | assumption | refine Ext.upN ?_ | refine Ext.alloc ?_ _ | refine Ext.drew ?_ | refine Ext.drewN ?_ _ | refine Ext.up1N (by first | omega | simp) ?_) | refine Ext.alloc ?_ _ | refine Ext.setCell ?_ (.inr (by first | omega | simp)) _)))
  have HM := Go.Lib.hid (fun w h => slots_may_good b g.ep n c s k key x id HR.out HL.out.epb hn ha w h)
  cases hio : idxN g.ep n with
  | none =>
    as_aux_lemma =>
    have HE : Hid (proposeE g n ⟨c, s, ⟨k, key, x, id⟩⟩ = 14) := Go.Lib.hid (by rw [DE.out, ha, hio]; rfl)
    rw [hio] at HM
    clear ha hio
    go_enter Tryz.func198, Tryz.ntmps198
    go_wp2_with fail
    refine Calls.ew (HM.out _ (by simp only [EW.cellN, alloc_cell_or, c0, Option.some_or])) ?_
    rintro e x1 rfl
    unfold atV
    go_wp2
    go_ret
    exact ST.out _ _ HE.out (by decide) (by (repeat (first | with_reducible (first | exact Ext.refl _ _ | assumption | refine Ext.upN ?_ | refine Ext.alloc ?_ _ | refine Ext.drew ?_ | refine Ext.drewN ?_ _ | refine Ext.up1N (by first | omega | simp) ?_) | refine Ext.alloc ?_ _ | refine Ext.setCell ?_ (.inr (by first | omega | simp)) _)))
  | some i =>
    rw [hio] at HM
    obtain ⟨hi, -⟩ := idxN_lt hio
    have Q := HP.out.sl i hi
    have HQ := Go.Lib.hid Q
    have s0 : w.cell? ⟨b, 3 + i * 5, none⟩ = some (ptV (pt i).pp) := HP.out.cs hi (show 0 < 5 by omega) rfl
    have f0 : w.frozen? ⟨b, 3 + i * 5, none⟩ = false := HP.out.fz _
    have HIO := Go.Lib.hid hio; have HA := Go.Lib.hid ha
    rcases Q.prop with ⟨k1, k2⟩ | ⟨kr, ⟨rc, rs, ⟨rk, rkey, rx, rid⟩⟩, k1, k2, -, hro, hbr⟩
    · have s0' : w.cell? ⟨b, 3 + i * 5, none⟩ = some (.pointer none) := by rw [s0, k1]; rfl
      have HE : Hid (proposeE g n ⟨c, s, ⟨k, key, x, id⟩⟩ = 0) := Go.Lib.hid (by rw [DE.out, ha, hio]; simp only [if_true, k2])
      clear ha hio Q s0 k1 k2
      go_enter Tryz.func198, Tryz.ntmps198
      go_wp2_with fail
      refine Calls.ew (HM.out _ (by simp only [EW.cellN, alloc_cell_or, c0, Option.some_or])) ?_
      rintro e x1 rfl
      unfold atV
      have XA : Ext Non w (w.alloc (.cells [.int .i64 c, .int .i64 s, .int .i64 k, .string key, .float .f64 x, .int .i64 id].toArray 37)) := (Ext.refl _ _).alloc _
      have X1 : Ext Non w x1.on := XA.trans x1.ext
      have hsz : w.heap.size < x1.on.heap.size := by have := x1.ext.size; simp at this; omega
      have XB : Ext (One b) x1.on (x1.on.setCell ⟨b, 3 + i * 5, none⟩ (.pointer (some ⟨w.heap.size, 0, none⟩))) := (Ext.refl _ _).set1 _
      have hL1 : LoW (x1.on.setCell ⟨b, 3 + i * 5, none⟩ (.pointer (some ⟨w.heap.size, 0, none⟩))) b (fun k => G k ∨ k = w.heap.size) (putS g i { g.sl i with prop := some ⟨c, s, ⟨k, key, x, id⟩⟩ }) := by
        have q := ((HQ.out.extN X1).set (k := 3 + i * 5) (G' := fun k => G k ∨ k = w.heap.size) HL.out.nb (fun k h => .inl h) (.pointer (some ⟨w.heap.size, 0, none⟩)))
        refine (HL.out.extN X1).put (HP.out.extN X1) hi (show 0 < 5 by omega) _ { pt i with pp := some w.heap.size } _ rfl ⟨rfl, rfl⟩ (fun k h => .inl h) (fun h => by rcases h with h | h; exact HL.out.nb h; omega) (fun k h => by rcases h with h | h; exact (HL.out.extN X1).lt k h; omega) ?_
        exact ⟨.inr ⟨_, _, rfl, rfl, .inr rfl, HR.out, ((Bx.new w [.int .i64 c, .int .i64 s, .int .i64 k, .string key, .float .f64 x, .int .i64 id] 37).extN x1.ext).ext XB (fun e => by unfold One at e; omega)⟩, q.prep, q.com, q.cert, q.done, q.f1, q.f2, q.ok1, q.ok2⟩
      have HL1 := Go.Lib.hid hL1
      clear hL1
      go_wp2_with fail
      refine (slots_look b i _ _ n hi hn _ HL1.out).mono ?_
      rintro e w2 ⟨rfl, G', hL2, hG2, hX2⟩
      have HL2 := Go.Lib.hid hL2; have HG2 := Go.Lib.hid hG2; have HX2 := Go.Lib.hid hX2
      clear hL2 hG2 hX2
      go_wp2
      go_ret
      refine ⟨ret_int HE.out.symm, G', ?_, fun k hk => ?_, (X1.ofNon.trans XB).trans HX2.out⟩
      · rw [DG.out, if_pos HE.out, HIO.out]
        have := HL2.out
        rw [putS_put, putS_same] at this
        exact this
      · rcases HG2.out k hk with h | h
        · rcases h with h | h
          · exact .inl h
          · exact .inr (by omega)
        · exact .inr (by have := XB.size; omega)
    · have s0' : w.cell? ⟨b, 3 + i * 5, none⟩ = some (.pointer (some ⟨kr, 0, none⟩)) := by rw [s0, k1]; rfl
      have n0 : w.cell? ⟨kr, 0, none⟩ = some (.int .i64 rc) := hbr.cell rfl
      have n1 : w.cell? ⟨kr, 1, none⟩ = some (.int .i64 rs) := hbr.cell rfl
      have n2 : w.cell? ⟨kr, 2, none⟩ = some (.int .i64 rk) := hbr.cell rfl
      have n3 : w.cell? ⟨kr, 3, none⟩ = some (.string rkey) := hbr.cell rfl
      have n4 : w.cell? ⟨kr, 4, none⟩ = some (.float .f64 rx) := hbr.cell rfl
      have n5 : w.cell? ⟨kr, 5, none⟩ = some (.int .i64 rid) := hbr.cell rfl
      have HRo := Go.Lib.hid hro
      have HEE : Hid (proposeE g n ⟨c, s, ⟨k, key, x, id⟩⟩ = if sameT ⟨rc, rs, ⟨rk, rkey, rx, rid⟩⟩ ⟨c, s, ⟨k, key, x, id⟩⟩ = true then 7 else 22) := Go.Lib.hid (by rw [DE.out, ha, hio]; simp only [if_true, k2])
      clear ha hio Q s0 k1 k2 hbr hro
      go_enter Tryz.func198, Tryz.ntmps198
      go_wp2_with fail
      refine Calls.ew (HM.out _ (by simp only [EW.cellN, alloc_cell_or, c0, Option.some_or])) ?_
      rintro e x1 rfl
      unfold atV
      go_upto_region 5 with fail
      cases hsm : sameT ⟨rc, rs, ⟨rk, rkey, rx, rid⟩⟩ ⟨c, s, ⟨k, key, x, id⟩⟩
      · have HSM := Go.Lib.hid hsm
        clear hsm
        (refine wp_region_ext_lit (by kernel_rfl) (by kernel_rfl) ?_; (repeat (go_big_quiet_step ((go_at_call 271; exact Calls.ext_ofv (deeds_Same rc rs rk rkey rx rid c s k key x id HRo.out HR.out _) (congrArg Value.bool HSM.out))))); refine wpQuiet_nil ?_; intro _ hw'; obtain ⟨xq, hw''⟩ := hw'; subst hw'')
        go_wp2
        go_ret
        exact ST.out _ _ (by rw [HEE.out, HSM.out]; rfl) (by decide) (by (repeat (first | with_reducible (first | exact Ext.refl _ _ | assumption | refine Ext.upN ?_ | refine Ext.alloc ?_ _ | refine Ext.drew ?_ | refine Ext.drewN ?_ _ | refine Ext.up1N (by first | omega | simp) ?_) | refine Ext.alloc ?_ _ | refine Ext.setCell ?_ (.inr (by first | omega | simp)) _)))
      · have HSM := Go.Lib.hid hsm
        clear hsm
        (refine wp_region_ext_lit (by kernel_rfl) (by kernel_rfl) ?_; (repeat (go_big_quiet_step ((go_at_call 271; exact Calls.ext_ofv (deeds_Same rc rs rk rkey rx rid c s k key x id HRo.out HR.out _) (congrArg Value.bool HSM.out))))); refine wpQuiet_nil ?_; intro _ hw'; obtain ⟨xq, hw''⟩ := hw'; subst hw'')
        go_wp2
        go_ret
        exact ST.out _ _ (by rw [HEE.out, HSM.out]; rfl) (by decide) (by (repeat (first | with_reducible (first | exact Ext.refl _ _ | assumption | refine Ext.upN ?_ | refine Ext.alloc ?_ _ | refine Ext.drew ?_ | refine Ext.drewN ?_ _ | refine Ext.up1N (by first | omega | simp) ?_) | refine Ext.alloc ?_ _ | refine Ext.setCell ?_ (.inr (by first | omega | simp)) _)))
end Go.Proofs.YtflpkoafebjfdaaGreat
