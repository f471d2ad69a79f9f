/- Joined texts: Slots2. What each proves stands at its head; no conditions beside those in its theorems. -/
import Derived.Test.YtakbkpklfihfiaaPjAU
/- Layer 14: what a log is in memory. -/
namespace Go.Proofs.Ytakbkpklfihfiaa
open Go.RowKit Go.Lib F64
set_option linter.unusedSimpArgs false
set_option linter.unusedVariables false

/-- What a pointer to a certificate points to. -/
def PtrC (w : World) (F : Nat → Prop) (q : Option Nat) (o : Option Ct) : Prop :=
  (q = none ∧ o = none) ∨ ∃ k x sa scap, q = some k ∧ o = some x ∧ F k ∧ ReqOk x.req ∧ I64 x.view ∧ I64 x.slot ∧ Bx w k (x.cells sa scap) 52 ∧ Sigs w sa scap x.sigs ∧ ∀ b o, sa = some ⟨b, o, none⟩ → F b
/-- The addresses of a slot. -/
structure Pt where
  pp : Option Nat
  m1 : Nat
  m2 : Nat
  pc : Option Nat
  pd : Option Nat
def Pt.row (p : Pt) : List Value := [ptV p.pp, .map (some p.m1), .map (some p.m2), ptV p.pc, ptV p.pd]
def rowLo (ep : Int) (a : Option Addr) (n c : Nat) (view : Int) (pt : Nat → Pt) : List Value := .int .i64 ep :: .slice a n c :: .int .i64 view :: ((pt 0).row ++ ((pt 1).row ++ ((pt 2).row ++ (pt 3).row)))
def updP (pt : Nat → Pt) (i : Nat) (p : Pt) : Nat → Pt := fun j => if j = i then p else pt j
theorem updP_same (pt : Nat → Pt) (i : Nat) (p : Pt) : updP pt i p i = p := if_pos rfl
theorem updP_other (pt : Nat → Pt) {i j : Nat} (p : Pt) (h : j ≠ i) : updP pt i p j = pt j := if_neg h
theorem rowLo_get {ep : Int} {a : Option Addr} {n c : Nat} {view : Int} {pt : Nat → Pt} {i j : Nat} (hi : i < 4) (hj : j < 5) : (rowLo ep a n c view pt)[3 + i * 5 + j]? = (pt i).row[j]? := by
  have h4 : i = 0 ∨ i = 1 ∨ i = 2 ∨ i = 3 := by omega
  have h5 : j = 0 ∨ j = 1 ∨ j = 2 ∨ j = 3 ∨ j = 4 := by omega
  rcases h4 with rfl | rfl | rfl | rfl <;> rcases h5 with rfl | rfl | rfl | rfl | rfl <;> rfl
theorem rowLo_set {ep : Int} {a : Option Addr} {n c : Nat} {view : Int} {pt : Nat → Pt} {i j : Nat} (hi : i < 4) (hj : j < 5) (v : Value) (p : Pt) (hp : (pt i).row.set j v = p.row) : (rowLo ep a n c view pt).set (3 + i * 5 + j) v = rowLo ep a n c view (updP pt i p) := by
  have h4 : i = 0 ∨ i = 1 ∨ i = 2 ∨ i = 3 := by omega
  have h5 : j = 0 ∨ j = 1 ∨ j = 2 ∨ j = 3 ∨ j = 4 := by omega
  have hr : updP pt i p i = p := updP_same _ _ _
  rcases h4 with rfl | rfl | rfl | rfl <;> rcases h5 with rfl | rfl | rfl | rfl | rfl <;> simp [rowLo, updP, Pt.row] at hp ⊢ <;> exact hp
/-- A slot: votes and pointees lie in F. -/
structure SlW (w : World) (F : Nat → Prop) (p : Pt) (s : Sl) : Prop where
  prop : PtrR w F p.pp s.prop
  prep : MapG vtE w p.m1 s.prep
  com : MapG vtE w p.m2 s.com
  cert : PtrC w F p.pc s.cert
  done : PtrR w F p.pd s.done
  f1 : F p.m1
  f2 : F p.m2
  ok1 : VtsOk s.prep
  ok2 : VtsOk s.com
theorem PtrR.ext {S F F' : Nat → Prop} {w w' : World} {q : Option Nat} {o : Option Req} (h : PtrR w F q o) (x : Ext S w w') (hs : ∀ k vs t, F k → Bx w k vs t → ¬ S k) (hf : ∀ k, F k → F' k) : PtrR w' F' q o := by
  rcases h with h | ⟨k, r, h1, h2, h3, h4, h5⟩
  · exact .inl h
  · exact .inr ⟨k, r, h1, h2, hf k h3, h4, h5.ext x (hs k _ _ h3 h5)⟩
theorem PtrC.ext {S F F' : Nat → Prop} {w w' : World} {q : Option Nat} {o : Option Ct} (h : PtrC w F q o) (x : Ext S w w') (hs : ∀ k vs t, F k → Bx w k vs t → ¬ S k) (hc : ∀ k i v, F k → w.cell? ⟨k, i, none⟩ = some v → ¬ S k) (hf : ∀ k, F k → F' k) : PtrC w' F' q o := by
  rcases h with h | ⟨k, y, sa, scap, h1, h2, h3, h4, h5, h6, h7, h8, h9⟩
  · exact .inl h
  · refine .inr ⟨k, y, sa, scap, h1, h2, hf k h3, h4, h5, h6, h7.ext x (hs k _ _ h3 h7), ⟨h8.le, h8.small, fun j hj => ?_⟩, fun b o e => hf b (h9 b o e)⟩
    obtain ⟨b, o, e, hb, c0, c1, r⟩ := h8.at_ j hj
    have hn : ¬ S b := hc b _ _ (h9 b o e) c0
    exact ⟨b, o, e, Nat.lt_of_lt_of_le hb x.size, (x.cell (p := ⟨b, o + j * 2, none⟩) hb hn).trans c0, (x.cell (p := ⟨b, o + j * 2 + 1, none⟩) hb hn).trans c1, r⟩
/-- Two maps of a log are never one. -/
def PtD (pt : Nat → Pt) : Prop := ∀ i j, i < 4 → j < 4 → ((pt i).m1 = (pt j).m1 → i = j) ∧ ((pt i).m2 = (pt j).m2 → i = j) ∧ (pt i).m1 ≠ (pt j).m2
/-- A log: block b; G: all the other blocks that it holds. -/
structure LoW (w : World) (b : Nat) (G : Nat → Prop) (g : Lo) : Prop where
  ex : ∃ a c pt, w.heap[b]? = some (.cells (rowLo g.ep a g.mem.length c g.view pt).toArray 129 (0, 0)) ∧ Ints w a c g.mem ∧ (∀ b' o, a = some ⟨b', o, none⟩ → G b') ∧ (∀ i, i < 4 → SlW w G (pt i) (g.sl i)) ∧ PtD pt
  nb : ¬ G b
  lt : ∀ k, G k → k < w.heap.size
  conf : confB g.ep g.mem = true
  vw : 0 ≤ g.view ∧ g.view ≤ 15
def LoF (b : Nat) (G : Nat → Prop) : Nat → Prop := fun k => k = b ∨ G k
theorem LoW.bl {w : World} {b : Nat} {G : Nat → Prop} {g : Lo} (h : LoW w b G g) : b < w.heap.size := by
  obtain ⟨_, _, _, hh, _⟩ := h.ex
  exact (Array.getElem?_eq_some_iff.1 hh).1
theorem LoW.ext {S : Nat → Prop} {w w' : World} {b : Nat} {G : Nat → Prop} {g : Lo} (h : LoW w b G g) (x : Ext S w w') (hs : ∀ k, LoF b G k → ¬ S k) : LoW w' b G g := by
  have hb := h.bl
  obtain ⟨a, c, pt, hh, hi, ha, hsl, hd⟩ := h.ex
  refine ⟨⟨a, c, pt, (x.block b hb (hs b (.inl rfl))).trans hh, hi.ext x (fun b' o e => hs b' (.inr (ha b' o e))), ha, fun i h4 => ?_, hd⟩, h.nb, fun k hk => Nat.lt_of_lt_of_le (h.lt k hk) x.size, h.conf, h.vw⟩
  have q := hsl i h4
  exact ⟨q.prop.ext x (fun k _ _ hk _ => hs k (.inr hk)) (fun _ h => h), q.prep.ext x (hs _ (.inr q.f1)), q.com.ext x (hs _ (.inr q.f2)), q.cert.ext x (fun k _ _ hk _ => hs k (.inr hk)) (fun k _ _ hk _ => hs k (.inr hk)) (fun _ h => h), q.done.ext x (fun k _ _ hk _ => hs k (.inr hk)) (fun _ h => h), q.f1, q.f2, q.ok1, q.ok2⟩
theorem LoW.extN {w w' : World} {b : Nat} {G : Nat → Prop} {g : Lo} (h : LoW w b G g) (x : Ext Non w w') : LoW w' b G g := h.ext x fun _ _ f => f
theorem map_no_cell {w : World} {m : Nat} {ks : List (Int × Vt)} (h : MapG vtE w m ks) (i : Nat) (v : Value) : w.cell? ⟨m, i, none⟩ ≠ some v := by
  obtain ⟨es, c, hb, _⟩ := h.ex
  simp [World.cell?, hb]
theorem map_no_box {w : World} {m k : Nat} {ks : List (Int × Vt)} (h : MapG vtE w m ks) {vs : List Value} {t : TypeId} (hb : Bx w k vs t) : k ≠ m := by
  obtain ⟨es, c, hm, _⟩ := h.ex
  intro e
  rw [e] at hb
  have := hb.h
  rw [hm] at this
  cases this
/-- The parts of a log, for a walk. -/
structure LoP (w : World) (b : Nat) (G : Nat → Prop) (g : Lo) (a : Option Addr) (c : Nat) (pt : Nat → Pt) : Prop where
  h : w.heap[b]? = some (.cells (rowLo g.ep a g.mem.length c g.view pt).toArray 129 (0, 0))
  ints : Ints w a c g.mem
  ia : ∀ b' o, a = some ⟨b', o, none⟩ → G b'
  sl : ∀ i, i < 4 → SlW w G (pt i) (g.sl i)
  d : PtD pt
theorem LoP.c0 {w : World} {b : Nat} {G : Nat → Prop} {g : Lo} {a : Option Addr} {c : Nat} {pt : Nat → Pt} (h : LoP w b G g a c pt) : w.cell? ⟨b, 0, none⟩ = some (.int .i64 g.ep) := cell_of_heap h.h rfl
theorem LoP.c1 {w : World} {b : Nat} {G : Nat → Prop} {g : Lo} {a : Option Addr} {c : Nat} {pt : Nat → Pt} (h : LoP w b G g a c pt) : w.cell? ⟨b, 1, none⟩ = some (.slice a g.mem.length c) := cell_of_heap h.h rfl
theorem LoP.c2 {w : World} {b : Nat} {G : Nat → Prop} {g : Lo} {a : Option Addr} {c : Nat} {pt : Nat → Pt} (h : LoP w b G g a c pt) : w.cell? ⟨b, 2, none⟩ = some (.int .i64 g.view) := cell_of_heap h.h rfl
theorem LoP.cs {w : World} {b : Nat} {G : Nat → Prop} {g : Lo} {a : Option Addr} {c : Nat} {pt : Nat → Pt} (h : LoP w b G g a c pt) {i j : Nat} (hi : i < 4) (hj : j < 5) {v : Value} (hv : (pt i).row[j]? = some v) : w.cell? ⟨b, 3 + i * 5 + j, none⟩ = some v := cell_of_heap h.h ((rowLo_get hi hj).trans hv)
theorem LoP.fz {w : World} {b : Nat} {G : Nat → Prop} {g : Lo} {a : Option Addr} {c : Nat} {pt : Nat → Pt} (h : LoP w b G g a c pt) (k : Nat) : w.frozen? ⟨b, k, none⟩ = false := froz_of_heap h.h
theorem LoW.parts {w : World} {b : Nat} {G : Nat → Prop} {g : Lo} (h : LoW w b G g) : ∃ a c pt, LoP w b G g a c pt := by
  obtain ⟨a, c, pt, h1, h2, h3, h4, h5⟩ := h.ex
  exact ⟨a, c, pt, h1, h2, h3, h4, h5⟩
theorem conf_len10 {ep : Int} {xs : List Int} (h : confB ep xs = true) : 4 ≤ xs.length ∧ xs.length ≤ 10 := by
  unfold confB at h
  simp only [Bool.and_eq_true] at h
  exact ⟨(members_facts h.2).2.2.1, (members_facts h.2).2.2.2⟩
theorem LoW.len {w : World} {b : Nat} {G : Nat → Prop} {g : Lo} (h : LoW w b G g) : 4 ≤ g.mem.length ∧ g.mem.length ≤ 10 := conf_len10 h.conf
theorem LoW.epb {w : World} {b : Nat} {G : Nat → Prop} {g : Lo} (h : LoW w b G g) : 0 ≤ g.ep ∧ g.ep ≤ 60 := conf_ep h.conf
/-- A cell of a slot is written: the others stand. -/
theorem LoW.put {w : World} {b : Nat} {G G' : Nat → Prop} {g : Lo} {a : Option Addr} {c : Nat} {pt : Nat → Pt} (h : LoW w b G g) (hp : LoP w b G g a c pt) {i j : Nat} (hi : i < 4) (hj : j < 5) (v : Value) (p : Pt) (s : Sl) (hv : (pt i).row.set j v = p.row)
    (hm : p.m1 = (pt i).m1 ∧ p.m2 = (pt i).m2) (hG : ∀ k, G k → G' k) (hb : ¬ G' b) (hl : ∀ k, G' k → k < w.heap.size) (hs : SlW (w.setCell ⟨b, 3 + i * 5 + j, none⟩ v) G' p s) : LoW (w.setCell ⟨b, 3 + i * 5 + j, none⟩ v) b G' (putS g i s) := by
  have x : Ext (One b) w (w.setCell ⟨b, 3 + i * 5 + j, none⟩ v) := (Ext.refl _ _).set1 _
  have hno : ∀ k, G k → ¬ One b k := fun k hk e => by unfold One at e; subst e; exact h.nb hk
  refine ⟨⟨a, c, updP pt i p, ?_, hp.ints.ext x (fun b' o e => hno _ (hp.ia b' o e)), fun b' o e => hG _ (hp.ia b' o e), fun k hk => ?_, ?_⟩, hb, fun k hk => ?_, h.conf, h.vw⟩
  · have := heap_set_same (k := 3 + i * 5 + j) hp.h v
    rw [rowLo_set hi hj v p hv] at this
    exact this
  · by_cases e : k = i
    · subst e
      rw [updP_same]
      show SlW _ G' p (if k = k then s else g.sl k)
      rw [if_pos rfl]; exact hs
    · rw [updP_other pt p e]
      show SlW _ G' (pt k) (if k = i then s else g.sl k)
      rw [if_neg e]
      have q := hp.sl k hk
      exact ⟨q.prop.ext x (fun k _ _ hk _ => hno k hk) hG, q.prep.ext x (hno _ q.f1), q.com.ext x (hno _ q.f2), q.cert.ext x (fun k _ _ hk _ => hno k hk) (fun k _ _ hk _ => hno k hk) hG, q.done.ext x (fun k _ _ hk _ => hno k hk) hG, hG _ q.f1, hG _ q.f2, q.ok1, q.ok2⟩
  · intro k l hk hl'
    have d := hp.d
    have e : ∀ k, k < 4 → (updP pt i p k).m1 = (pt k).m1 ∧ (updP pt i p k).m2 = (pt k).m2 := fun k hk => by
      by_cases e : k = i
      · subst e; rw [updP_same]; exact hm
      · rw [updP_other pt p e]; exact ⟨rfl, rfl⟩
    rw [(e k hk).1, (e k hk).2, (e l hl').1, (e l hl').2]
    exact d k l hk hl'
  · have := x.size; exact Nat.lt_of_lt_of_le (hl k hk) this
/-- What a slot holds stands when a cell of the log is written. -/
theorem SlW.set {w : World} {b k : Nat} {G G' : Nat → Prop} {p : Pt} {s : Sl} (q : SlW w G p s) (hb : ¬ G b) (hG : ∀ k, G k → G' k) (v : Value) : SlW (w.setCell ⟨b, k, none⟩ v) G' p s := by
  have x : Ext (One b) w (w.setCell ⟨b, k, none⟩ v) := (Ext.refl _ _).set1 _
  have hno : ∀ k, G k → ¬ One b k := fun k hk e => by unfold One at e; subst e; exact hb hk
  exact ⟨q.prop.ext x (fun k _ _ hk _ => hno k hk) hG, q.prep.ext x (hno _ q.f1), q.com.ext x (hno _ q.f2), q.cert.ext x (fun k _ _ hk _ => hno k hk) (fun k _ _ hk _ => hno k hk) hG, q.done.ext x (fun k _ _ hk _ => hno k hk) hG, hG _ q.f1, hG _ q.f2, q.ok1, q.ok2⟩
end Go.Proofs.Ytakbkpklfihfiaa
