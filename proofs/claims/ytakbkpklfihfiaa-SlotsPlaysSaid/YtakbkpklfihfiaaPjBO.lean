/- Joined texts: R14e. What each proves stands at its head; no conditions beside those in its theorems. -/
import Derived.Laws.CopyOwn
import Derived.Deep.OwnRows
import Derived.Deep.RegionLaw
import Derived.Test.YtakbkpklfihfiaaPjBN
/- The reference of layer 14: what its log is in memory when a row of it has grown. -/
namespace Go.Proofs.Ytakbkpklfihfiaa
open Go.RowKit Go.Lib F64
set_option linter.unusedSimpArgs false
set_option linter.unusedVariables false
/-- What is new. -/
def GrG (G : Nat → Prop) (n0 n1 : Nat) : Nat → Prop := fun k => G k ∨ (n0 ≤ k ∧ k < n1)
section
variable {w w1 : World} {b : Nat} {G S : Nat → Prop} {m : RL14} {a : Option Addr} {c : Nat} {v1 v2 v3 v4 : Value} {ka : List CtR}
theorem R14Q.low (Q : R14Q w b G S m a c v1 v2 v3 v4 ka) : (∀ k, Row v1 k → G k) ∧ (∀ k, Row v2 k → G k) ∧ (∀ k, Row v3 k → G k) ∧ (∀ k, Row v4 k → G k) :=
  ⟨fun k h => Q.rG k (.inl h), fun k h => Q.rG k (.inr (.inl h)), fun k h => Q.rG k (.inr (.inr (.inl h))), fun k h => Q.rG k (.inr (.inr (.inr h)))⟩
/-- The certificates are others. -/
theorem R14Q.putK (Q : R14Q w b G S m a c v1 v2 v3 v4 ka) {n0 : Nat} (hn0 : ∀ k, LoF b G k → k < n0) {v3' : Value} {ka' : List CtR} {kept' : List Ct} (ho : w.ownsRow 0 52 9 v3' ka'.length (ka'.flatMap ctRow)) (hrow : ∀ k, Row v3' k → n0 ≤ k)
    (hka : ka'.map (·.1) = kept') (hck : ∀ q ∈ ka', CtOk w q ∧ ∀ k o, q.2.1 = some ⟨k, o, none⟩ → S k ∨ (n0 ≤ k ∧ k < w.heap.size ∧ ¬ Row v3' k)) :
    R14Q (w.setCell ⟨b, 5, none⟩ v3') b (GrG G n0 w.heap.size) (fun k => S k ∨ (n0 ≤ k ∧ k < w.heap.size ∧ ¬ Row v3' k)) { m with kept := kept' } a c v1 v2 v3' v4 ka' := by
  have x : Ext (One b) w (w.setCell ⟨b, 5, none⟩ v3') := (Ext.refl _ _).set1 _
  have hsz : (w.setCell ⟨b, 5, none⟩ v3').heap.size = w.heap.size := by simp
  have hbn : b < n0 := hn0 b (.inl rfl)
  have hG : ∀ k, G k → k < n0 := fun k h => hn0 k (.inr h)
  have hS : ∀ k, S k → k < n0 := fun k h => hG k (Q.sG k h)
  obtain ⟨l1, l2, l3, l4⟩ := Q.low
  have no : ∀ k, G k → ¬ One b k := fun k h e => Q.nb (by have e : k = b := e; rw [← e]; exact h)
  have nr : ∀ k, Row v3' k → ¬ One b k := fun k h e => by have e : k = b := e; have := hrow k h; omega
  refine ⟨Q.bx.set (j := 5) v3', Q.ints.ext x (fun k o e => no k (Q.sG k (Q.ia k o e))), fun k o e => .inl (Q.ia k o e), ownR_ext Q.o1 x (fun k h => no k (l1 k h)), ownR_ext Q.o2 x (fun k h => no k (l2 k h)), ownR_ext ho x (fun k h => nr k h), ownR_ext Q.o4 x (fun k h => no k (l4 k h)), hka, fun q hq => ?_, ?_, ?_, ?_, Q.r14, ?_, ?_, Q.e1, Q.e2, Q.e4⟩
  · obtain ⟨h1, h2⟩ := hck q hq
    exact ⟨h1.ext x (fun k o e => by
      rcases h2 k o e with h | ⟨h, _, _⟩
      · exact no k (Q.sG k h)
      · intro e; have e : k = b := e; omega), h2⟩
  · intro k h
    rcases h with h | ⟨h1, h2, _⟩
    · exact .inl (Q.sG k h)
    · exact .inr ⟨h1, h2⟩
  · intro k h
    rcases h with h | h | h | h
    · exact .inl (l1 k h)
    · exact .inl (l2 k h)
    · exact .inr ⟨hrow k h, (own_row ho k h).2⟩
    · exact .inl (l4 k h)
  · intro k h hs
    rcases hs with hs | ⟨h1, _, h3⟩
    · rcases h with h | h | h | h
      · exact Q.rS k (.inl h) hs
      · exact Q.rS k (.inr (.inl h)) hs
      · have := hrow k h; have := hS k hs; omega
      · exact Q.rS k (.inr (.inr (.inr h))) hs
    · rcases h with h | h | h | h
      · have := hG k (l1 k h); omega
      · have := hG k (l2 k h); omega
      · exact h3 h
      · have := hG k (l4 k h); omega
  · intro h
    rcases h with h | ⟨h, _⟩
    · exact Q.nb h
    · omega
  · intro k h
    rw [hsz]
    rcases h with h | ⟨_, h⟩
    · exact Q.lt k h
    · exact h
/-- The proposals have grown by one. -/
theorem R14Q.putP (Q : R14Q w b G S m a c v1 v2 v3 v4 ka) (x1 : Ext (Row v1) w w1) {v1' : Value} {p : Int × Req} (hp : ReqOk p.2) (ho : w1.ownsRow 0 161 7 v1' (m.props.length + 1) (m.props.flatMap eC ++ eC p)) (hrow : ∀ k, Row v1' k → Row v1 k ∨ w.heap.size ≤ k) :
    R14Q (w1.setCell ⟨b, 3, none⟩ v1') b (GrG G w.heap.size w1.heap.size) S { m with props := m.props ++ [p] } a c v1' v2 v3 v4 ka := by
  have x : Ext (One b) w1 (w1.setCell ⟨b, 3, none⟩ v1') := (Ext.refl _ _).set1 _
  have hsz : (w1.setCell ⟨b, 3, none⟩ v1').heap.size = w1.heap.size := by simp
  obtain ⟨l1, l2, l3, l4⟩ := Q.low
  have hbw := Q.bx.lt
  have no : ∀ k, G k → ¬ One b k := fun k h e => Q.nb (by have e : k = b := e; rw [← e]; exact h)
  have hb1 : ¬ Row v1 b := fun h => Q.nb (l1 b h)
  have s1 : ∀ k, S k → ¬ Row v1 k := fun k h r => Q.rS k (.inl r) h
  have nr : ∀ k, Row v1' k → ¬ One b k := fun k h e => by
    have e : k = b := e
    rcases hrow k h with h | h
    · exact Q.nb (by rw [← e]; exact l1 k h)
    · omega
  have r2 : ∀ k, Row v2 k → ¬ Row v1 k := fun k h q => own_apart Q.o1 Q.o2 (by decide) k q h
  have r3 : ∀ k, Row v3 k → ¬ Row v1 k := fun k h q => own_apart Q.o1 Q.o3 (by decide) k q h
  have r4 : ∀ k, Row v4 k → ¬ Row v1 k := fun k h q => Q.r14 k q h
  refine ⟨(Q.bx.ext x1 hb1).set (j := 3) v1', (Q.ints.ext x1 (fun k o e => s1 k (Q.ia k o e))).ext x (fun k o e => no k (Q.sG k (Q.ia k o e))), Q.ia, ?_, ownR_ext (ownR_ext Q.o2 x1 r2) x (fun k h => no k (l2 k h)), ownR_ext (ownR_ext Q.o3 x1 r3) x (fun k h => no k (l3 k h)), ownR_ext (ownR_ext Q.o4 x1 r4) x (fun k h => no k (l4 k h)), Q.km, fun q hq => ⟨((Q.ck q hq).1.ext x1 (fun k o e => s1 k ((Q.ck q hq).2 k o e))).ext x (fun k o e => no k (Q.sG k ((Q.ck q hq).2 k o e))), (Q.ck q hq).2⟩, fun k h => .inl (Q.sG k h), ?_, ?_, ?_, ?_, ?_, ?_, Q.e2, Q.e4⟩
  · have := ownR_ext ho x nr
    simpa [List.flatMap_append] using this
  · intro k h
    rcases h with h | h | h | h
    · rcases hrow k h with q | q
      · exact .inl (l1 k q)
      · exact .inr ⟨q, (own_row ho k h).2⟩
    · exact .inl (l2 k h)
    · exact .inl (l3 k h)
    · exact .inl (l4 k h)
  · intro k h hs
    rcases h with h | h | h | h
    · rcases hrow k h with q | q
      · exact s1 k hs q
      · have := Q.lt k (Q.sG k hs); omega
    · exact Q.rS k (.inr (.inl h)) hs
    · exact Q.rS k (.inr (.inr (.inl h))) hs
    · exact Q.rS k (.inr (.inr (.inr h))) hs
  · intro k h h4
    rcases hrow k h with q | q
    · exact Q.r14 k q h4
    · have := Q.lt k (l4 k h4); omega
  · intro h
    rcases h with h | ⟨h, _⟩
    · exact Q.nb h
    · omega
  · intro k h
    rw [hsz]
    rcases h with h | ⟨_, h⟩
    · exact Nat.lt_of_lt_of_le (Q.lt k h) x1.size
    · exact h
  · intro q hq
    rcases List.mem_append.1 hq with h | h
    · exact Q.e1 q h
    · rw [List.mem_singleton.1 h]; exact hp
/-- The votes have grown by one. -/
theorem R14Q.putV (Q : R14Q w b G S m a c v1 v2 v3 v4 ka) (x1 : Ext (Row v2) w w1) {v2' : Value} {p : RV} (hp : p.vt.ok) (ho : w1.ownsRow 0 164 11 v2' (m.votes.length + 1) (m.votes.flatMap vC ++ vC p)) (hrow : ∀ k, Row v2' k → Row v2 k ∨ w.heap.size ≤ k) :
    R14Q (w1.setCell ⟨b, 4, none⟩ v2') b (GrG G w.heap.size w1.heap.size) S { m with votes := m.votes ++ [p] } a c v1 v2' v3 v4 ka := by
  have x : Ext (One b) w1 (w1.setCell ⟨b, 4, none⟩ v2') := (Ext.refl _ _).set1 _
  have hsz : (w1.setCell ⟨b, 4, none⟩ v2').heap.size = w1.heap.size := by simp
  obtain ⟨l1, l2, l3, l4⟩ := Q.low
  have hbw := Q.bx.lt
  have no : ∀ k, G k → ¬ One b k := fun k h e => Q.nb (by have e : k = b := e; rw [← e]; exact h)
  have hb1 : ¬ Row v2 b := fun h => Q.nb (l2 b h)
  have s1 : ∀ k, S k → ¬ Row v2 k := fun k h r => Q.rS k (.inr (.inl r)) h
  have nr : ∀ k, Row v2' k → ¬ One b k := fun k h e => by
    have e : k = b := e
    rcases hrow k h with h | h
    · exact Q.nb (by rw [← e]; exact l2 k h)
    · omega
  have r1 : ∀ k, Row v1 k → ¬ Row v2 k := own_apart Q.o1 Q.o2 (by decide)
  have r3 : ∀ k, Row v3 k → ¬ Row v2 k := own_apart Q.o3 Q.o2 (by decide)
  have r4 : ∀ k, Row v4 k → ¬ Row v2 k := own_apart Q.o4 Q.o2 (by decide)
  refine ⟨(Q.bx.ext x1 hb1).set (j := 4) v2', (Q.ints.ext x1 (fun k o e => s1 k (Q.ia k o e))).ext x (fun k o e => no k (Q.sG k (Q.ia k o e))), Q.ia, ownR_ext (ownR_ext Q.o1 x1 r1) x (fun k h => no k (l1 k h)), ?_, ownR_ext (ownR_ext Q.o3 x1 r3) x (fun k h => no k (l3 k h)), ownR_ext (ownR_ext Q.o4 x1 r4) x (fun k h => no k (l4 k h)), Q.km, fun q hq => ⟨((Q.ck q hq).1.ext x1 (fun k o e => s1 k ((Q.ck q hq).2 k o e))).ext x (fun k o e => no k (Q.sG k ((Q.ck q hq).2 k o e))), (Q.ck q hq).2⟩, fun k h => .inl (Q.sG k h), ?_, ?_, Q.r14, ?_, ?_, Q.e1, ?_, Q.e4⟩
  · have := ownR_ext ho x nr
    simpa [List.flatMap_append] using this
  · intro k h
    rcases h with h | h | h | h
    · exact .inl (l1 k h)
    · rcases hrow k h with q | q
      · exact .inl (l2 k q)
      · exact .inr ⟨q, (own_row ho k h).2⟩
    · exact .inl (l3 k h)
    · exact .inl (l4 k h)
  · intro k h hs
    rcases h with h | h | h | h
    · exact Q.rS k (.inl h) hs
    · rcases hrow k h with q | q
      · exact s1 k hs q
      · have := Q.lt k (Q.sG k hs); omega
    · exact Q.rS k (.inr (.inr (.inl h))) hs
    · exact Q.rS k (.inr (.inr (.inr h))) hs
  · intro h
    rcases h with h | ⟨h, _⟩
    · exact Q.nb h
    · omega
  · intro k h
    rw [hsz]
    rcases h with h | ⟨_, h⟩
    · exact Nat.lt_of_lt_of_le (Q.lt k h) x1.size
    · exact h
  · intro q hq
    rcases List.mem_append.1 hq with h | h
    · exact Q.e2 q h
    · rw [List.mem_singleton.1 h]; exact hp
/-- What is committed has grown by one. -/
theorem R14Q.putD (Q : R14Q w b G S m a c v1 v2 v3 v4 ka) (x1 : Ext (Row v4) w w1) {v4' : Value} {p : Int × Req} (hp : ReqOk p.2) (ho : w1.ownsRow 0 161 7 v4' (m.done.length + 1) (m.done.flatMap eC ++ eC p)) (hrow : ∀ k, Row v4' k → Row v4 k ∨ w.heap.size ≤ k) :
    R14Q (w1.setCell ⟨b, 6, none⟩ v4') b (GrG G w.heap.size w1.heap.size) S { m with done := m.done ++ [p] } a c v1 v2 v3 v4' ka := by
  have x : Ext (One b) w1 (w1.setCell ⟨b, 6, none⟩ v4') := (Ext.refl _ _).set1 _
  have hsz : (w1.setCell ⟨b, 6, none⟩ v4').heap.size = w1.heap.size := by simp
  obtain ⟨l1, l2, l3, l4⟩ := Q.low
  have hbw := Q.bx.lt
  have no : ∀ k, G k → ¬ One b k := fun k h e => Q.nb (by have e : k = b := e; rw [← e]; exact h)
  have hb1 : ¬ Row v4 b := fun h => Q.nb (l4 b h)
  have s1 : ∀ k, S k → ¬ Row v4 k := fun k h r => Q.rS k (.inr (.inr (.inr r))) h
  have nr : ∀ k, Row v4' k → ¬ One b k := fun k h e => by
    have e : k = b := e
    rcases hrow k h with h | h
    · exact Q.nb (by rw [← e]; exact l4 k h)
    · omega
  have r1 : ∀ k, Row v1 k → ¬ Row v4 k := Q.r14
  have r2 : ∀ k, Row v2 k → ¬ Row v4 k := own_apart Q.o2 Q.o4 (by decide)
  have r3 : ∀ k, Row v3 k → ¬ Row v4 k := own_apart Q.o3 Q.o4 (by decide)
  refine ⟨(Q.bx.ext x1 hb1).set (j := 6) v4', (Q.ints.ext x1 (fun k o e => s1 k (Q.ia k o e))).ext x (fun k o e => no k (Q.sG k (Q.ia k o e))), Q.ia, ownR_ext (ownR_ext Q.o1 x1 r1) x (fun k h => no k (l1 k h)), ownR_ext (ownR_ext Q.o2 x1 r2) x (fun k h => no k (l2 k h)), ownR_ext (ownR_ext Q.o3 x1 r3) x (fun k h => no k (l3 k h)), ?_, Q.km, fun q hq => ⟨((Q.ck q hq).1.ext x1 (fun k o e => s1 k ((Q.ck q hq).2 k o e))).ext x (fun k o e => no k (Q.sG k ((Q.ck q hq).2 k o e))), (Q.ck q hq).2⟩, fun k h => .inl (Q.sG k h), ?_, ?_, ?_, ?_, ?_, Q.e1, Q.e2, ?_⟩
  · have := ownR_ext ho x nr
    simpa [List.flatMap_append] using this
  · intro k h
    rcases h with h | h | h | h
    · exact .inl (l1 k h)
    · exact .inl (l2 k h)
    · exact .inl (l3 k h)
    · rcases hrow k h with q | q
      · exact .inl (l4 k q)
      · exact .inr ⟨q, (own_row ho k h).2⟩
  · intro k h hs
    rcases h with h | h | h | h
    · exact Q.rS k (.inl h) hs
    · exact Q.rS k (.inr (.inl h)) hs
    · exact Q.rS k (.inr (.inr (.inl h))) hs
    · rcases hrow k h with q | q
      · exact s1 k hs q
      · have := Q.lt k (Q.sG k hs); omega
  · intro k h1 h
    rcases hrow k h with q | q
    · exact Q.r14 k h1 q
    · have := Q.lt k (l1 k h1); omega
  · intro h
    rcases h with h | ⟨h, _⟩
    · exact Q.nb h
    · omega
  · intro k h
    rw [hsz]
    rcases h with h | ⟨_, h⟩
    · exact Nat.lt_of_lt_of_le (Q.lt k h) x1.size
    · exact h
  · intro q hq
    rcases List.mem_append.1 hq with h | h
    · exact Q.e4 q h
    · rw [List.mem_singleton.1 h]; exact hp
end
end Go.Proofs.Ytakbkpklfihfiaa
