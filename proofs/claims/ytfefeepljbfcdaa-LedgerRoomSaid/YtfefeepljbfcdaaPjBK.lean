/- Joined texts: Open12a. What each proves stands at its head; no conditions beside those in its theorems. -/
import Derived.Deep.MidRow
import Derived.Deep.WholeRow
import Derived.Shelf.SlMaps.Clone
import Derived.Test.YtfefeepljbfcdaaPjAA
import Derived.Test.YtfefeepljbfcdaaPjAB
import Derived.Test.YtfefeepljbfcdaaPjAC
import Derived.Test.YtfefeepljbfcdaaPjAE
import Derived.Test.YtfefeepljbfcdaaPjAI
import Derived.Test.YtfefeepljbfcdaaPjAM
import Derived.Test.YtfefeepljbfcdaaPjAF
import Derived.Test.YtfefeepljbfcdaaPjAJ
import Derived.Test.YtfefeepljbfcdaaPjAK
import Derived.Test.YtfefeepljbfcdaaPjAN
import Derived.Test.YtfefeepljbfcdaaPjAR
import Derived.Test.YtfefeepljbfcdaaPjAS
import Derived.Test.YtfefeepljbfcdaaPjAD
import Derived.Test.YtfefeepljbfcdaaPjAT
import Derived.Test.YtfefeepljbfcdaaPjAO
import Derived.Test.YtfefeepljbfcdaaPjAP
import Derived.Test.YtfefeepljbfcdaaPjAU
import Derived.Test.YtfefeepljbfcdaaPjAV
import Derived.Test.YtfefeepljbfcdaaPjAW
import Derived.Test.YtfefeepljbfcdaaPjAX
import Derived.Test.YtfefeepljbfcdaaPjAY
import Derived.Test.YtfefeepljbfcdaaPjAZ
import Derived.Test.YtfefeepljbfcdaaPjBA
import Derived.Test.YtfefeepljbfcdaaPjBF
import Derived.Test.YtfefeepljbfcdaaPjAL
import Derived.Test.YtfefeepljbfcdaaPjBG
import Derived.Test.YtfefeepljbfcdaaPjBH
import Derived.Test.YtfefeepljbfcdaaPjAG
import Derived.Test.YtfefeepljbfcdaaPjBD
import Derived.Test.YtfefeepljbfcdaaPjAH
import Derived.Test.YtfefeepljbfcdaaPjBI
import Derived.Test.YtfefeepljbfcdaaPjAQ
import Derived.Test.YtfefeepljbfcdaaPjBC
import Derived.Test.YtfefeepljbfcdaaPjBE
import Derived.Test.YtfefeepljbfcdaaPjBJ
/- The reference of layer 12: opening: what stands in memory while it reads. -/
namespace Go.Proofs.Ytfefeepljbfcdaa
open Go.RowKit Go.Lib F64
set_option linter.unusedSimpArgs false
set_option linter.unusedVariables false
def obRow (ep : Int) (a1 : Option Addr) (c1 : Nat) (mem : List Int) (v2 : Value) (done : Int) (v4 : Value) (sb rb : Nat) : List Value := [.int .i64 ep, .slice a1 mem.length c1, v2, .int .i64 done, v4, .slice (some ⟨sb, 0, none⟩) 9 9, .slice (some ⟨rb, 0, none⟩) 9 9]
/-- A ledger that is being read: its boxes and its configuration's members lie ahead of block B, its rows behind. -/
structure OpW (w : World) (B b sb rb kr : Nat) (r : Rd) (ep : Int) (a1 : Option Addr) (c1 : Nat) (mem : List Int) (v2 : Value) (next : List Int) (done : Int) (v4 : Value) (its : Ks) (cl : Nat → Cl) : Prop where
  box : Bx w b (obRow ep a1 c1 mem v2 done v4 sb rb) 71
  i1 : Ints w a1 c1 mem
  t1 : ∀ k o, a1 = some ⟨k, o, none⟩ → k < B ∧ k ≠ b ∧ k ≠ sb ∧ k ≠ rb ∧ k ≠ kr ∧ ∃ vs fr, w.heap[k]? = some (.cells vs 3 fr)
  nx : w.ownsRow B 3 1 v2 next.length (next.map (Value.int .i64))
  it : w.ownsRow B 111 2 v4 its.length (its.flatMap itC)
  st : Bx w sb (stRow cl) 3
  rs : Bx w rb (rsRow cl) 43
  rd : RdW w kr r
  hB : b < B ∧ sb < B ∧ rb < B ∧ kr < B
  ne : b ≠ sb ∧ b ≠ rb ∧ b ≠ kr ∧ sb ≠ rb ∧ sb ≠ kr ∧ rb ≠ kr
theorem fresh.ext2 {S : Nat → Prop} {w w' : World} {n : Nat} {a : Option Addr} (h : fresh n w a) (x : Ext S w w') (hs : ∀ k, S k → k < n) : fresh n w' a := fun k o e => by
  obtain ⟨h1, vs, fr, h2⟩ := h k o e
  exact ⟨h1, vs, fr, (x.block k (Array.getElem?_eq_some_iff.1 h2).1 (fun q => by have := hs k q; omega)).trans h2⟩
/-- Rows of unlike kinds lie apart. -/
theorem rows_apart {w : World} {B1 B2 : Nat} {e1 e2 : TypeId} {k1 k2 : Nat} {v1 v2 : Value} {n1 n2 : Nat} {x1 x2 : List Value} (h1 : w.ownsRow B1 e1 k1 v1 n1 x1) (h2 : w.ownsRow B2 e2 k2 v2 n2 x2) (hne : e1 ≠ e2) : ∀ k, Row v1 k → ¬ Row v2 k := fun k q1 q2 => by
  rcases h1.2 with ⟨rfl, _⟩ | ⟨j1, cap1, cur1, rfl, _, g1, _⟩
  · cases q1
  · rcases h2.2 with ⟨rfl, _⟩ | ⟨j2, cap2, cur2, rfl, _, g2, _⟩
    · cases q2
    · have e1' : j1 = k := by unfold Row at q1; simpa [Value.ownBlock] using q1
      have e2' : j2 = k := by unfold Row at q2; simpa [Value.ownBlock] using q2
      subst e1'; subst e2'
      rw [g1] at g2
      injection g2 with g2; injection g2 with _ g2 _
      exact hne g2
section
variable {w w' : World} {B b sb rb kr : Nat} {r : Rd} {ep : Int} {a1 : Option Addr} {c1 : Nat} {mem : List Int} {v2 : Value} {next : List Int} {done : Int} {v4 : Value} {its : Ks} {cl : Nat → Cl}
theorem OpW.mems {S : Nat → Prop} (h : OpW w B b sb rb kr r ep a1 c1 mem v2 next done v4 its cl) (x : Ext S w w') (hs : ∀ k o, a1 = some ⟨k, o, none⟩ → ¬ S k) : Ints w' a1 c1 mem ∧ ∀ k o, a1 = some ⟨k, o, none⟩ → k < B ∧ k ≠ b ∧ k ≠ sb ∧ k ≠ rb ∧ k ≠ kr ∧ ∃ vs fr, w'.heap[k]? = some (.cells vs 3 fr) :=
  ⟨h.i1.ext x hs, fun k o e => by
    obtain ⟨z1, z2, z3, z4, z5, vs, fr, z6⟩ := h.t1 k o e
    exact ⟨z1, z2, z3, z4, z5, vs, fr, (x.block k (Array.getElem?_eq_some_iff.1 z6).1 (hs k o e)).trans z6⟩⟩
/-- Whatever is written: what is told of each part, and the members stand. -/
theorem OpW.step {S : Nat → Prop} (h : OpW w B b sb rb kr r ep a1 c1 mem v2 next done v4 its cl) (x : Ext S w w') (hs : ∀ k o, a1 = some ⟨k, o, none⟩ → ¬ S k) {r' : Rd} {done' : Int} {v2' v4' : Value} {cl' : Nat → Cl} {next' : List Int} {its' : Ks}
    (hb : Bx w' b (obRow ep a1 c1 mem v2' done' v4' sb rb) 71) (hst : Bx w' sb (stRow cl') 3) (hrs : Bx w' rb (rsRow cl') 43) (hr : RdW w' kr r')
    (hnx : w'.ownsRow B 3 1 v2' next'.length (next'.map (Value.int .i64))) (hit : w'.ownsRow B 111 2 v4' its'.length (its'.flatMap itC)) : OpW w' B b sb rb kr r' ep a1 c1 mem v2' next' done' v4' its' cl' :=
  ⟨hb, (h.mems x hs).1, (h.mems x hs).2, hnx, hit, hst, hrs, hr, h.hB, h.ne⟩
theorem OpW.lowS {j : Nat} (h : OpW w B b sb rb kr r ep a1 c1 mem v2 next done v4 its cl) (hj : j = b ∨ j = sb ∨ j = rb ∨ j = kr) : (∀ k o, a1 = some ⟨k, o, none⟩ → ¬ One j k) ∧ (∀ k, Row v2 k → ¬ One j k) ∧ (∀ k, Row v4 k → ¬ One j k) :=
  ⟨fun k o e q => by obtain ⟨z1, z2, z3, z4, z5, -⟩ := h.t1 k o e; have q : k = j := q; omega,
   fun k hk q => by have := (own_row h.nx k hk).1; have := h.hB; have q : k = j := q; omega,
   fun k hk q => by have := (own_row h.it k hk).1; have := h.hB; have q : k = j := q; omega⟩
theorem OpW.extN (h : OpW w B b sb rb kr r ep a1 c1 mem v2 next done v4 its cl) (x : Ext Non w w') : OpW w' B b sb rb kr r ep a1 c1 mem v2 next done v4 its cl :=
  h.step x (fun _ _ _ f => f) (h.box.extN x) (h.st.extN x) (h.rs.extN x) (h.rd.extN x) (ownR_extN h.nx x) (ownR_extN h.it x)
theorem OpW.read (h : OpW w B b sb rb kr r ep a1 c1 mem v2 next done v4 its cl) (x : Ext (One kr) w w') {r' : Rd} (hr : RdW w' kr r') : OpW w' B b sb rb kr r' ep a1 c1 mem v2 next done v4 its cl :=
  have l := h.lowS (j := kr) (.inr (.inr (.inr rfl)))
  h.step x l.1 (h.box.ext x (fun q => h.ne.2.2.1 q)) (h.st.ext x (fun q => h.ne.2.2.2.2.1 q)) (h.rs.ext x (fun q => h.ne.2.2.2.2.2 q)) hr (ownR_ext h.nx x l.2.1) (ownR_ext h.it x l.2.2)
/-- Its box alone was written. -/
theorem OpW.put (h : OpW w B b sb rb kr r ep a1 c1 mem v2 next done v4 its cl) (x : Ext (One b) w w') {done' : Int} {v2' v4' : Value} {next' : List Int} {its' : Ks} (hb : Bx w' b (obRow ep a1 c1 mem v2' done' v4' sb rb) 71)
    (hnx : w.ownsRow B 3 1 v2' next'.length (next'.map (Value.int .i64))) (hit : w.ownsRow B 111 2 v4' its'.length (its'.flatMap itC)) : OpW w' B b sb rb kr r ep a1 c1 mem v2' next' done' v4' its' cl :=
  have l := h.lowS (j := b) (.inl rfl)
  h.step x l.1 hb (h.st.ext x (fun q => h.ne.1 q.symm)) (h.rs.ext x (fun q => h.ne.2.1 q.symm)) (h.rd.ext x (fun q => h.ne.2.2.1 q.symm)) (ownR_ext hnx x (fun k hk q => by have := (own_row hnx k hk).1; have := h.hB; have q : k = b := q; omega)) (ownR_ext hit x (fun k hk q => by have := (own_row hit k hk).1; have := h.hB; have q : k = b := q; omega))
/-- Its stamps' or its results' block alone was written. -/
theorem OpW.wr {j : Nat} (h : OpW w B b sb rb kr r ep a1 c1 mem v2 next done v4 its cl) (hj : j = sb ∨ j = rb) (x : Ext (One j) w w') {cl' : Nat → Cl} (hst : Bx w' sb (stRow cl') 3) (hrs : Bx w' rb (rsRow cl') 43) : OpW w' B b sb rb kr r ep a1 c1 mem v2 next done v4 its cl' :=
  have l := h.lowS (j := j) (by omega)
  have ne := h.ne
  h.step x l.1 (h.box.ext x (fun q => by have q : b = j := q; omega)) hst hrs (h.rd.ext x (fun q => by have q : kr = j := q; omega)) (ownR_ext h.nx x l.2.1) (ownR_ext h.it x l.2.2)
theorem OpW.rlo (h : OpW w B b sb rb kr r ep a1 c1 mem v2 next done v4 its cl) (hx : ∀ x ∈ next, I64 x) : RLo w b sb rb ⟨ep, mem, next, done, its, cl⟩ := by
  obtain ⟨a2, c2, rfl, hI, hf⟩ := Ints.own_row h.nx hx
  exact ⟨⟨a1, c1, a2, c2, v4, h.box, h.i1, hI, fun k o e => by obtain ⟨z1, z2, z3, z4, z5, z6⟩ := h.t1 k o e; exact ⟨z3, z6⟩, fun k o e => ⟨by have := (hf k o e).1; have := h.hB; omega, (hf k o e).2⟩, ownR_base h.it (Nat.zero_le _)⟩, h.st, h.rs⟩
/-- Its configuration is put; the rows to come lie behind B'. -/
theorem OpW.conf (h : OpW w B b sb rb kr r ep a1 c1 mem (.slice none 0 0) [] done (.slice none 0 0) [] cl) {B' : Nat} (hBB : B ≤ B') (x : Ext (One b) w w') {ep' : Int} {a' : Option Addr} {c' : Nat} {mem' : List Int} (hb : Bx w' b (obRow ep' a' c' mem' (.slice none 0 0) done (.slice none 0 0) sb rb) 71) (hi : Ints w a' c' mem') (hf : fresh B w a') (hlt : w.heap.size ≤ B') :
    OpW w' B' b sb rb kr r ep' a' c' mem' (.slice none 0 0) [] done (.slice none 0 0) [] cl :=
  have hx := h.hB
  ⟨hb, hi.ext x (fun k o e q => by have := (hf k o e).1; have q : k = b := q; omega), fun k o e => by
    obtain ⟨z1, vs, fr, z2⟩ := hf k o e
    have hk := (Array.getElem?_eq_some_iff.1 z2).1
    exact ⟨by omega, by omega, by omega, by omega, by omega, vs, fr, (x.block k hk (fun q => by have q : k = b := q; omega)).trans z2⟩,
   World.ownsRow_nil _ _ _ _, World.ownsRow_nil _ _ _ _, h.st.ext x (fun q => h.ne.1 q.symm), h.rs.ext x (fun q => h.ne.2.1 q.symm), h.rd.ext x (fun q => h.ne.2.2.1 q.symm), by omega, h.ne⟩
/-- The reader's box and a row behind B were written. -/
theorem OpW.grown {S : Nat → Prop} (h : OpW w B b sb rb kr r ep a1 c1 mem v2 next done v4 its cl) (x : Ext (Or2 (One kr) S) w w') (hS : ∀ k, S k → B ≤ k) {r' : Rd} (hr : RdW w' kr r') : Ints w' a1 c1 mem ∧ Bx w' b (obRow ep a1 c1 mem v2 done v4 sb rb) 71 ∧ Bx w' sb (stRow cl) 3 ∧ Bx w' rb (rsRow cl) 43 ∧ (∀ k o, a1 = some ⟨k, o, none⟩ → k < B ∧ k ≠ b ∧ k ≠ sb ∧ k ≠ rb ∧ k ≠ kr ∧ ∃ vs fr, w'.heap[k]? = some (.cells vs 3 fr)) :=
  have no : ∀ k, k < B → k ≠ kr → ¬ Or2 (One kr) S k := fun k hk hne q => by rcases q with q | q; exact hne q; have := hS k q; omega
  have hs : ∀ k o, a1 = some ⟨k, o, none⟩ → ¬ Or2 (One kr) S k := fun k o e => by obtain ⟨z1, z2, z3, z4, z5, -⟩ := h.t1 k o e; exact no k z1 z5
  ⟨(h.mems x hs).1, h.box.ext x (no b h.hB.1 h.ne.2.2.1), h.st.ext x (no sb h.hB.2.1 h.ne.2.2.2.2.1), h.rs.ext x (no rb h.hB.2.2.1 h.ne.2.2.2.2.2), (h.mems x hs).2⟩
end
theorem rs_keep (cl : Nat → Cl) (s : Int) {i : Nat} (h : i < 8) : rsRow (setC cl i ⟨s, (cl i).code, (cl i).real⟩) = rsRow cl := by
  rcases cl8 h with rfl | rfl | rfl | rfl | rfl | rfl | rfl | rfl <;> rfl
theorem st_keep (cl : Nat → Cl) (s : Int) (a b : Int) (x y : Nat) {i : Nat} (h : i < 8) : stRow (setC cl i ⟨s, a, x⟩) = stRow (setC cl i ⟨s, b, y⟩) := by
  rcases cl8 h with rfl | rfl | rfl | rfl | rfl | rfl | rfl | rfl <;> rfl
theorem setC_setC (cl : Nat → Cl) (i : Nat) (c d : Cl) : setC (setC cl i c) i d = setC cl i d := by
  funext j; unfold setC; by_cases h : j = i <;> simp [h]
theorem clV_succ (n : Nat) (r : Rd) : clV (n + 1) r = setC (clV n r) n ⟨(numV 4 (clR n r) : Nat), readXcd (textV (numR 4 (clR n r))), readXre (textV (numR 4 (clR n r)))⟩ := by
  funext j
  by_cases h : j = n
  · subst h; simp [clV, setC]
  · by_cases h2 : j < n
    · have h3 : j < n + 1 := by omega
      simp [clV, setC, h, h2, h3]
    · have h3 : ¬ j < n + 1 := by omega
      simp [clV, setC, h, h2, h3]
theorem clV_zero (r : Rd) : clV 0 r = clZ := by funext j; rfl
theorem itV_map (n : Nat) (r : Rd) : (itV (n + 1) r).flatMap itC = (itV n r).flatMap itC ++ [.string (sB (textV (itR n r))), .int .u64 (numV 8 (textR (itR n r)) : Nat)] := by
  rw [itV_succ, List.flatMap_append]; simp [itC]
theorem clE_all : ∀ (n : Nat) (r : Rd) (e : Int), clE n r e = 0 → e = 0 ∧ ∀ i, i < n → readXE (textV (numR 4 (clR i r))) = 0
  | 0, _, _, h => ⟨h, fun i hi => absurd hi (by omega)⟩
  | n + 1, r, e, h => by
    rw [clE_succ] at h
    by_cases hx : readXE (textV (numR 4 (clR n r))) = 0
    · rw [if_pos hx] at h
      obtain ⟨h1, h2⟩ := clE_all n r e h
      exact ⟨h1, fun i hi => by by_cases q : i = n; subst q; exact hx; exact h2 i (by omega)⟩
    · rw [if_neg hx] at h; cases h
def moAg (n : Nat) : Mo := ⟨fun v w => ∃ sb rb, v = .agg (obRow 0 none 0 [] (.slice none 0 0) 0 (.slice none 0 0) sb rb).toArray ∧ Bx w sb (stRow clZ) 3 ∧ Bx w rb (rsRow clZ) 43 ∧ n ≤ sb ∧ n ≤ rb, fun _ _ _ x ⟨sb, rb, e, h1, h2, h3⟩ => ⟨sb, rb, e, h1.extN x, h2.extN x, h3⟩⟩
def moOB (n : Nat) : Mo := ⟨fun v w => ∃ b sb rb, v = .pointer (some ⟨b, 0, none⟩) ∧ Bx w b (obRow 0 none 0 [] (.slice none 0 0) 0 (.slice none 0 0) sb rb) 71 ∧ Bx w sb (stRow clZ) 3 ∧ Bx w rb (rsRow clZ) 43 ∧ n ≤ b ∧ n ≤ sb ∧ n ≤ rb, fun _ _ _ x ⟨b, sb, rb, e, h0, h1, h2, h3⟩ => ⟨b, sb, rb, e, h0.extN x, h1.extN x, h2.extN x, h3⟩⟩
end Go.Proofs.Ytfefeepljbfcdaa
