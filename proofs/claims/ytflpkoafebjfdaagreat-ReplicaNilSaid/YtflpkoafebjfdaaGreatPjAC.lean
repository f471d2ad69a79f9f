/- Joined texts: Keys, MapG. What each proves stands at its head; no conditions beside those in its theorems. -/
import Derived.MapKept
import Derived.Test.YtflpkoafebjfdaaGreatPjAB
/- A map from texts to reals, as the list of its entries: what the machine's operations on it come to. -/
namespace Go.Proofs.YtflpkoafebjfdaaGreat
open Go.RowKit Go.MapKept
set_option linter.unusedSimpArgs false
set_option linter.unusedVariables false

abbrev Ks := List (ByteArray × Nat)
def kvE (p : ByteArray × Nat) : Value × Value := (.string p.1, .float .f64 p.2)
def getK (ks : Ks) (k : ByteArray) : Option Nat := (ks.find? (fun p => decide (p.1 = k))).map (·.2)
def hasK (ks : Ks) (k : ByteArray) : Bool := (getK ks k).isSome
def valK (ks : Ks) (k : ByteArray) : Nat := (getK ks k).getD 0
def setK (ks : Ks) (k : ByteArray) (x : Nat) : Ks := if hasK ks k = true then ks.map (fun p => if p.1 = k then (k, x) else p) else ks ++ [(k, x)]
def delK (ks : Ks) (k : ByteArray) : Ks := ks.filter (fun p => decide (p.1 ≠ k))

theorem getK_none {ks : Ks} {k : ByteArray} : getK ks k = none ↔ ∀ p ∈ ks, p.1 ≠ k := by
  unfold getK; rw [Option.map_eq_none_iff, List.find?_eq_none]; simp
theorem getK_at {ks : Ks} {k : ByteArray} {j x : Nat} (nd : (ks.map (·.1)).Nodup) (h : ks[j]? = some (k, x)) : getK ks k = some x := by
  induction ks generalizing j with
  | nil => simp at h
  | cons p ps ih =>
    have nd' : p.1 ∉ ps.map (·.1) ∧ (ps.map (·.1)).Nodup := by simpa using nd
    cases j with
    | zero =>
      have : p = (k, x) := by simpa using h
      subst this
      simp [getK, List.find?_cons]
    | succ j =>
      have h' : ps[j]? = some (k, x) := by simpa using h
      have hm : k ∈ ps.map (·.1) := by
        have := List.mem_of_getElem? h'
        exact List.mem_map.2 ⟨_, this, rfl⟩
      have hne : p.1 ≠ k := fun e => nd'.1 (e ▸ hm)
      have := ih nd'.2 h'
      unfold getK at this ⊢
      rw [List.find?_cons, decide_eq_false hne]
      exact this
theorem set_at {ks : Ks} {k : ByteArray} {j x : Nat} (y : Nat) (nd : (ks.map (·.1)).Nodup) (h : ks[j]? = some (k, x)) : ks.set j (k, y) = ks.map (fun p => if p.1 = k then (k, y) else p) := by
  induction ks generalizing j with
  | nil => simp at h
  | cons p ps ih =>
    have nd' : p.1 ∉ ps.map (·.1) ∧ (ps.map (·.1)).Nodup := by simpa using nd
    cases j with
    | zero =>
      have : p = (k, x) := by simpa using h
      subst this
      simp only [List.set_cons_zero, List.map_cons, if_true]
      congr 1
      have : ∀ q ∈ ps, (if q.1 = k then (k, y) else q) = q := by
        intro q hq
        rw [if_neg]
        intro e
        exact nd'.1 (List.mem_map.2 ⟨q, hq, e⟩)
      exact (List.map_id'' (f := fun q : ByteArray × Nat => if q.1 = k then (k, y) else q) |> fun _ => by
        conv => lhs; rw [← List.map_id ps]
        exact List.map_congr_left (fun q hq => (this q hq).symm))
    | succ j =>
      have h' : ps[j]? = some (k, x) := by simpa using h
      have hm : k ∈ ps.map (·.1) := List.mem_map.2 ⟨_, List.mem_of_getElem? h', rfl⟩
      have hne : p.1 ≠ k := fun e => nd'.1 (e ▸ hm)
      simp only [List.set_cons_succ, List.map_cons, if_neg hne]
      rw [ih nd'.2 h']
theorem setK_keys (ks : Ks) (k : ByteArray) (x : Nat) : (setK ks k x).map (·.1) = if hasK ks k = true then ks.map (·.1) else ks.map (·.1) ++ [k] := by
  unfold setK
  split
  · rw [List.map_map]
    apply List.map_congr_left
    intro p _
    show (if p.1 = k then (k, x) else p).1 = p.1
    split
    · rename_i e; exact e.symm
    · rfl
  · simp
theorem setK_length (ks : Ks) (k : ByteArray) (x : Nat) : (setK ks k x).length = if hasK ks k = true then ks.length else ks.length + 1 := by
  have := congrArg List.length (setK_keys ks k x)
  rw [List.length_map] at this
  rw [this]
  split <;> simp
theorem mem_setK {ks : Ks} {k : ByteArray} {x : Nat} {p : ByteArray × Nat} (h : p ∈ setK ks k x) : p = (k, x) ∨ p ∈ ks := by
  unfold setK at h
  split at h
  · obtain ⟨q, hq, rfl⟩ := List.mem_map.1 h
    split
    · exact .inl rfl
    · exact .inr hq
  · rcases List.mem_append.1 h with h | h
    · exact .inr h
    · exact .inl (by simpa using h)

/-- Block m is a map that holds just these entries, in the order in which they came. -/
structure MapW (w : World) (m : Nat) (ks : Ks) : Prop where
  ex : ∃ es clock, w.heap[m]? = some (.map es clock) ∧ Stamped es clock ∧ es.toList.map (fun e => (e.key, e.val)) = ks.map kvE

theorem MapW.lt {w : World} {m : Nat} {ks : Ks} (h : MapW w m ks) : m < w.heap.size := by
  obtain ⟨es, c, h, _⟩ := h.ex
  exact (Array.getElem?_eq_some_iff.1 h).1
theorem MapW.ext {S : Nat → Prop} {w w' : World} {m : Nat} {ks : Ks} (h : MapW w m ks) (x : Ext S w w') (hs : ¬ S m) : MapW w' m ks := by
  have hl := h.lt
  obtain ⟨es, c, h, r⟩ := h.ex
  exact ⟨es, c, (x.block m hl hs).trans h, r⟩
theorem MapW.heap {w w' : World} {m : Nat} {ks : Ks} (h : MapW w m ks) (e : w'.heap[m]? = w.heap[m]?) : MapW w' m ks := by
  obtain ⟨es, c, h, r⟩ := h.ex
  exact ⟨es, c, e.trans h, r⟩
theorem MapW.nodup {w : World} {m : Nat} {ks : Ks} (h : MapW w m ks) : (ks.map (·.1)).Nodup := by
  obtain ⟨es, c, _, st, e⟩ := h.ex
  have h3 := st.2.2
  have e2 : es.toList.map (·.key) = (ks.map (·.1)).map Value.string := by
    have := congrArg (List.map Prod.fst) e
    rw [List.map_map, List.map_map] at this
    rw [List.map_map]
    exact this
  rw [e2] at h3
  unfold List.Nodup at h3 ⊢
  rw [List.pairwise_map] at h3
  exact h3.imp (fun hne e => hne (by rw [e]))
theorem kv_keys {es : Array MapEntry} {ks : Ks} (e : es.toList.map (fun e => (e.key, e.val)) = ks.map kvE) : ∀ x ∈ es.toList, IsKey .string x.key := by
  intro x hx
  have : (x.key, x.val) ∈ ks.map kvE := by rw [← e]; exact List.mem_map.2 ⟨x, hx, rfl⟩
  obtain ⟨p, _, hp⟩ := List.mem_map.1 this
  have : x.key = .string p.1 := (congrArg Prod.fst hp).symm
  rw [this]; trivial
theorem kv_at {es : Array MapEntry} {ks : Ks} (e : es.toList.map (fun e => (e.key, e.val)) = ks.map kvE) {j : Nat} {x : MapEntry} (h : es.toList[j]? = some x) :
    ∃ p, ks[j]? = some p ∧ x.key = .string p.1 ∧ x.val = .float .f64 p.2 := by
  have := congrArg (fun l => l[j]?) e
  simp only [List.getElem?_map, h, Option.map_some] at this
  cases hk : ks[j]? with
  | none => rw [hk] at this; simp at this
  | some p =>
    rw [hk] at this
    simp only [Option.map_some, Option.some.injEq, kvE, Prod.mk.injEq] at this
    exact ⟨p, rfl, this.1, this.2⟩

section
variable {P : Program} {w : World} {mty kt et : TypeId} {m : Nat} {ks : Ks}
theorem MapW.lookup (hm : P.underlying mty = some (.map kt et)) (hd : P.underlying kt = some .string) (hz : (zeroValue et).run P w = .ok (.float .f64 0) w) (h : MapW w m ks) (k : ByteArray) :
    (Instr.lookup mty (.map (some m)) (.string k) true).run P w = .ok (.tuple #[.float .f64 (valK ks k), .bool (hasK ks k)]) w := by
  have nd := h.nodup
  obtain ⟨es, c, hb, st, e⟩ := h.ex
  rcases findNow_spec (d := .string) (k := .string k) trivial es.toList 0 (kv_keys e) with ⟨h1, h2⟩ | ⟨j, x, h1, h2, h3⟩
  · have hg : getK ks k = none := getK_none.2 (fun p hp he => by
      have : kvE p ∈ es.toList.map (fun e => (e.key, e.val)) := by rw [e]; exact List.mem_map.2 ⟨p, hp, rfl⟩
      obtain ⟨x, hx, hxe⟩ := List.mem_map.1 this
      exact h2 x hx ((congrArg Prod.fst hxe).trans (by show Value.string p.1 = _; rw [he])))
    have v0 : valK ks k = 0 := by unfold valK; rw [hg]; rfl
    have v1 : hasK ks k = false := by unfold hasK; rw [hg]; rfl
    rw [v0, v1]
    simp [Instr.lookup, run_underlying hm, Go.MapKept.run_getObj_map hb, Go.MapKept.run_checkKey hd (d := .string) (k := .string k) trivial, Go.MapKept.run_findKey hd h1, hz, Result.andThen]
  · obtain ⟨p, hp, hk, hv⟩ := kv_at e h2
    have hpk : p.1 = k := by rw [hk] at h3; cases h3; rfl
    have hg : getK ks k = some p.2 := getK_at nd (by rw [hp, ← hpk])
    have v0 : valK ks k = p.2 := by unfold valK; rw [hg]; rfl
    have v1 : hasK ks k = true := by unfold hasK; rw [hg]; rfl
    rw [v0, v1]
    simp [Instr.lookup, run_underlying hm, Go.MapKept.run_getObj_map hb, Go.MapKept.run_checkKey hd (d := .string) (k := .string k) trivial, Go.MapKept.run_findKey hd h1, hv, Result.andThen]
theorem MapW.lookup1 (hm : P.underlying mty = some (.map kt et)) (hd : P.underlying kt = some .string) (hz : (zeroValue et).run P w = .ok (.float .f64 0) w) (h : MapW w m ks) (k : ByteArray) :
    (Instr.lookup mty (.map (some m)) (.string k) false).run P w = .ok (.float .f64 (valK ks k)) w := by
  have nd := h.nodup
  obtain ⟨es, c, hb, st, e⟩ := h.ex
  rcases findNow_spec (d := .string) (k := .string k) trivial es.toList 0 (kv_keys e) with ⟨h1, h2⟩ | ⟨j, x, h1, h2, h3⟩
  · have hg : getK ks k = none := getK_none.2 (fun p hp he => by
      have : kvE p ∈ es.toList.map (fun e => (e.key, e.val)) := by rw [e]; exact List.mem_map.2 ⟨p, hp, rfl⟩
      obtain ⟨x, hx, hxe⟩ := List.mem_map.1 this
      exact h2 x hx ((congrArg Prod.fst hxe).trans (by show Value.string p.1 = _; rw [he])))
    have v0 : valK ks k = 0 := by unfold valK; rw [hg]; rfl
    rw [v0]
    simp [Instr.lookup, run_underlying hm, Go.MapKept.run_getObj_map hb, Go.MapKept.run_checkKey hd (d := .string) (k := .string k) trivial, Go.MapKept.run_findKey hd h1, hz, Result.andThen]
  · obtain ⟨p, hp, hk, hv⟩ := kv_at e h2
    have hpk : p.1 = k := by rw [hk] at h3; cases h3; rfl
    have hg : getK ks k = some p.2 := getK_at nd (by rw [hp, ← hpk])
    have v0 : valK ks k = p.2 := by unfold valK; rw [hg]; rfl
    rw [v0]
    simp [Instr.lookup, run_underlying hm, Go.MapKept.run_getObj_map hb, Go.MapKept.run_checkKey hd (d := .string) (k := .string k) trivial, Go.MapKept.run_findKey hd h1, hv, Result.andThen]
theorem MapW.len (hm : P.underlying mty = some (.map kt et)) (h : MapW w m ks) (ty : TypeId) :
    (Builtin.len_ #[mty] ty #[.map (some m)]).run P w = .ok (.int .i64 ks.length) w := by
  obtain ⟨es, c, hb, st, e⟩ := h.ex
  have : es.size = ks.length := by have := congrArg List.length e; simpa using this
  simp [Builtin.len_, run_underlying hm, Go.MapKept.run_getObj_map hb, Result.andThen, goInt, this]

/-- Another map in the place of a block. -/
def putMap (w : World) (m : Nat) (es : Array MapEntry) (c : Nat) : World := { w with heap := w.heap.setIfInBounds m (.map es c) }
theorem Ext.putMap {w : World} {m : Nat} {es : Array MapEntry} {c : Nat} : Ext (One m) w (putMap w m es c) :=
  ⟨rfl, rfl, rfl, by simp [Proofs.YtflpkoafebjfdaaGreat.putMap], fun k hk hs => by
    have : m ≠ k := fun e => hs e.symm
    simp [Proofs.YtflpkoafebjfdaaGreat.putMap, this]⟩
theorem MapW.update (hm : P.underlying mty = some (.map kt et)) (hd : P.underlying kt = some .string) (h : MapW w m ks) (k : ByteArray) (x : Nat) :
    ∃ w', (Instr.mapUpdate mty (.map (some m)) (.string k) (.float .f64 x)).run P w = .ok () w' ∧ MapW w' m (setK ks k x) ∧ Ext (One m) w w' := by
  have nd := h.nodup
  obtain ⟨es, c, hb, st, e⟩ := h.ex
  rcases findNow_spec (d := .string) (k := .string k) trivial es.toList 0 (kv_keys e) with ⟨h1, h2⟩ | ⟨j, y, h1, h2, h3⟩
  · have hg : getK ks k = none := getK_none.2 (fun p hp he => by
      have : kvE p ∈ es.toList.map (fun e => (e.key, e.val)) := by rw [e]; exact List.mem_map.2 ⟨p, hp, rfl⟩
      obtain ⟨x, hx, hxe⟩ := List.mem_map.1 this
      exact h2 x hx ((congrArg Prod.fst hxe).trans (by show Value.string p.1 = _; rw [he])))
    have v1 : ¬ hasK ks k = true := by unfold hasK; rw [hg]; simp
    refine ⟨putMap w m (es.push { key := .string k, val := .float .f64 x, born := c }) (c + 1), ?_, ⟨_, _, (heap_set hb).1, stamped_push st h2, ?_⟩, Ext.putMap⟩
    · simp [Instr.mapUpdate, run_underlying hm, Go.MapKept.run_getObj_map hb, Go.MapKept.run_checkKey hd (d := .string) (k := .string k) trivial, Go.MapKept.run_findKey hd h1, Go.MapKept.run_setObj_map _ hb, Result.andThen, putMap]
    · unfold setK; rw [if_neg v1]; simp [e, kvE]
  · obtain ⟨p, hp, hk, hv⟩ := kv_at e h2
    have hpk : p.1 = k := by rw [hk] at h3; cases h3; rfl
    have hp' : ks[j]? = some (k, p.2) := by rw [hp, ← hpk]
    have hg : getK ks k = some p.2 := getK_at nd hp'
    have v1 : hasK ks k = true := by unfold hasK; rw [hg]; rfl
    have hj : es[j]? = some y := by simpa using h2
    have hky : y.key = .string k := h3
    refine ⟨putMap w m (es.modify j fun e => { e with key := .string k, val := .float .f64 x }) c, ?_, ⟨_, _, (heap_set hb).1, stamped_modify st _ _ (fun _ _ => rfl) (fun e' _ he' => by rw [hj] at he'; cases he'; exact hky.symm), ?_⟩, Ext.putMap⟩
    · simp [Instr.mapUpdate, run_underlying hm, Go.MapKept.run_getObj_map hb, Go.MapKept.run_checkKey hd (d := .string) (k := .string k) trivial, Go.MapKept.run_findKey hd h1, Go.MapKept.run_setObj_map _ hb, hj, h3, Go.MapKept.run_keyThatStays (d := .string) (k := .string k) trivial, Result.andThen, putMap]
    · unfold setK; rw [if_pos v1, ← set_at x nd hp']
      apply List.ext_getElem?
      intro i
      have ei := congrArg (fun l => l[i]?) e
      simp only [List.getElem?_map] at ei
      simp only [List.getElem?_map, Array.getElem?_toList, Array.getElem?_modify, List.getElem?_set]
      by_cases hij : j = i
      · subst hij
        rw [if_pos rfl]
        have hjl : j < ks.length := (List.getElem?_eq_some_iff.1 hp).1
        rw [hj]
        simp [hjl, kvE]
      · rw [if_neg hij, if_neg hij]
        simpa using ei
end
end Go.Proofs.YtflpkoafebjfdaaGreat

/- A map from keys of one kind to values, as the list of its entries: what the machine's operations on it come to. -/
namespace Go.Proofs.YtflpkoafebjfdaaGreat
open Go.RowKit Go.MapKept
set_option linter.unusedSimpArgs false
set_option linter.unusedVariables false

section
variable {K V : Type} [DecidableEq K]
def getG (ks : List (K × V)) (k : K) : Option V := (ks.find? (fun p => decide (p.1 = k))).map (·.2)
def hasG (ks : List (K × V)) (k : K) : Bool := (getG ks k).isSome
def setG (ks : List (K × V)) (k : K) (x : V) : List (K × V) := if hasG ks k = true then ks.map (fun p => if p.1 = k then (k, x) else p) else ks ++ [(k, x)]
theorem getG_none {ks : List (K × V)} {k : K} : getG ks k = none ↔ ∀ p ∈ ks, p.1 ≠ k := by
  unfold getG; rw [Option.map_eq_none_iff, List.find?_eq_none]; simp
theorem getG_at {ks : List (K × V)} {k : K} {j : Nat} {x : V} (nd : (ks.map (·.1)).Nodup) (h : ks[j]? = some (k, x)) : getG ks k = some x := by
  induction ks generalizing j with
  | nil => simp at h
  | cons p ps ih =>
    have nd' : p.1 ∉ ps.map (·.1) ∧ (ps.map (·.1)).Nodup := by simpa using nd
    cases j with
    | zero =>
      have : p = (k, x) := by simpa using h
      subst this
      simp [getG, List.find?_cons]
    | succ j =>
      have h' : ps[j]? = some (k, x) := by simpa using h
      have hm : k ∈ ps.map (·.1) := by
        have := List.mem_of_getElem? h'
        exact List.mem_map.2 ⟨_, this, rfl⟩
      have hne : p.1 ≠ k := fun e => nd'.1 (e ▸ hm)
      have := ih nd'.2 h'
      unfold getG at this ⊢
      rw [List.find?_cons, decide_eq_false hne]
      exact this
theorem getG_mem {ks : List (K × V)} {k : K} {x : V} (h : getG ks k = some x) : (k, x) ∈ ks := by
  unfold getG at h
  cases hf : ks.find? (fun p => decide (p.1 = k)) with
  | none => rw [hf] at h; simp at h
  | some p =>
    rw [hf] at h
    have h1 := List.find?_some hf
    have h2 := List.mem_of_find?_eq_some hf
    simp at h1 h
    obtain ⟨a, b⟩ := p
    simp at h1 h
    subst h1; subst h
    exact h2
theorem setG_at {ks : List (K × V)} {k : K} {j : Nat} {x : V} (y : V) (nd : (ks.map (·.1)).Nodup) (h : ks[j]? = some (k, x)) : ks.set j (k, y) = ks.map (fun p => if p.1 = k then (k, y) else p) := by
  induction ks generalizing j with
  | nil => simp at h
  | cons p ps ih =>
    have nd' : p.1 ∉ ps.map (·.1) ∧ (ps.map (·.1)).Nodup := by simpa using nd
    cases j with
    | zero =>
      have : p = (k, x) := by simpa using h
      subst this
      simp only [List.set_cons_zero, List.map_cons, if_true]
      congr 1
      have : ∀ q ∈ ps, (if q.1 = k then (k, y) else q) = q := by
        intro q hq
        rw [if_neg]
        intro e
        exact nd'.1 (List.mem_map.2 ⟨q, hq, e⟩)
      conv => lhs; rw [← List.map_id ps]
      exact List.map_congr_left (fun q hq => (this q hq).symm)
    | succ j =>
      have h' : ps[j]? = some (k, x) := by simpa using h
      have hm : k ∈ ps.map (·.1) := List.mem_map.2 ⟨_, List.mem_of_getElem? h', rfl⟩
      have hne : p.1 ≠ k := fun e => nd'.1 (e ▸ hm)
      simp only [List.set_cons_succ, List.map_cons, if_neg hne]
      rw [ih nd'.2 h']
theorem getG_setNew {ks : List (K × V)} {k : K} {x : V} (h : hasG ks k = false) (k' : K) : getG (ks ++ [(k, x)]) k' = if k' = k then some x else getG ks k' := by
  have hn : getG ks k = none := by unfold hasG at h; cases hg : getG ks k; rfl; rw [hg] at h; cases h
  unfold getG
  rw [List.find?_append]
  by_cases hk : k' = k
  · subst hk
    have : ks.find? (fun p => decide (p.1 = k')) = none := List.find?_eq_none.2 (fun p hp => by simpa using getG_none.1 hn p hp)
    rw [this, if_pos rfl]
    simp
  · rw [if_neg hk]
    have : [(k, x)].find? (fun p : K × V => decide (p.1 = k')) = none := by
      rw [List.find?_cons, decide_eq_false (fun e => hk e.symm)]; rfl
    rw [this]; simp
theorem setG_new {ks : List (K × V)} {k : K} (x : V) (h : hasG ks k = false) : setG ks k x = ks ++ [(k, x)] := by unfold setG; rw [if_neg (by rw [h]; simp)]

end
section
variable {K V : Type}
/-- How keys and values lie in a map. -/
structure MEnc (K V : Type) where
  d : TypeDesc
  ke : K → Value
  ve : V → Value
  key : ∀ k, IsKey d (ke k)
  inj : ∀ a b, ke a = ke b → a = b
def MEnc.kv (E : MEnc K V) (p : K × V) : Value × Value := (E.ke p.1, E.ve p.2)
/-- Block m is a map that holds just these entries, in the order in which they came. -/
structure MapG (E : MEnc K V) (w : World) (m : Nat) (ks : List (K × V)) : Prop where
  ex : ∃ es clock, w.heap[m]? = some (.map es clock) ∧ Stamped es clock ∧ es.toList.map (fun e => (e.key, e.val)) = ks.map E.kv
variable {E : MEnc K V}
theorem MapG.lt {w : World} {m : Nat} {ks : List (K × V)} (h : MapG E w m ks) : m < w.heap.size := by
  obtain ⟨es, c, h, _⟩ := h.ex
  exact (Array.getElem?_eq_some_iff.1 h).1
theorem MapG.ext {S : Nat → Prop} {w w' : World} {m : Nat} {ks : List (K × V)} (h : MapG E w m ks) (x : Ext S w w') (hs : ¬ S m) : MapG E w' m ks := by
  have hl := h.lt
  obtain ⟨es, c, h, r⟩ := h.ex
  exact ⟨es, c, (x.block m hl hs).trans h, r⟩
theorem MapG.extN {w w' : World} {m : Nat} {ks : List (K × V)} (h : MapG E w m ks) (x : Ext Non w w') : MapG E w' m ks := h.ext x fun f => f
theorem MapG.empty {w : World} {m : Nat} (h : w.heap[m]? = some (.map #[] 0)) : MapG E w m [] := ⟨#[], 0, h, stamped_empty 0, rfl⟩
theorem MapG.nodup {w : World} {m : Nat} {ks : List (K × V)} (h : MapG E w m ks) : (ks.map (·.1)).Nodup := by
  obtain ⟨es, c, _, st, e⟩ := h.ex
  have h3 := st.2.2
  have e2 : es.toList.map (·.key) = (ks.map (·.1)).map E.ke := by
    have := congrArg (List.map Prod.fst) e
    rw [List.map_map, List.map_map] at this
    rw [List.map_map]
    exact this
  rw [e2] at h3
  unfold List.Nodup at h3 ⊢
  rw [List.pairwise_map] at h3
  exact h3.imp (fun hne e => hne (by rw [e]))
theorem kvG_keys {es : Array MapEntry} {ks : List (K × V)} (e : es.toList.map (fun e => (e.key, e.val)) = ks.map E.kv) : ∀ x ∈ es.toList, IsKey E.d x.key := by
  intro x hx
  have : (x.key, x.val) ∈ ks.map E.kv := by rw [← e]; exact List.mem_map.2 ⟨x, hx, rfl⟩
  obtain ⟨p, _, hp⟩ := List.mem_map.1 this
  have : x.key = E.ke p.1 := (congrArg Prod.fst hp).symm
  rw [this]; exact E.key _
theorem kvG_at {es : Array MapEntry} {ks : List (K × V)} (e : es.toList.map (fun e => (e.key, e.val)) = ks.map E.kv) {j : Nat} {x : MapEntry} (h : es.toList[j]? = some x) :
    ∃ p, ks[j]? = some p ∧ x.key = E.ke p.1 ∧ x.val = E.ve p.2 := by
  have := congrArg (fun l => l[j]?) e
  simp only [List.getElem?_map, h, Option.map_some] at this
  cases hk : ks[j]? with
  | none => rw [hk] at this; simp at this
  | some p =>
    rw [hk] at this
    simp only [Option.map_some, Option.some.injEq, MEnc.kv, Prod.mk.injEq] at this
    exact ⟨p, rfl, this.1, this.2⟩
variable {P : Program} {w : World} {mty kt et : TypeId} {m : Nat} {ks : List (K × V)}
theorem MapG.find [DecidableEq K] (h : MapG E w m ks) (k : K) {es : Array MapEntry} (e : es.toList.map (fun e => (e.key, e.val)) = ks.map E.kv) :
    (getG ks k = none ∧ Instr.findNow E.d (E.ke k) es.toList 0 = some none ∧ ∀ x ∈ es.toList, x.key ≠ E.ke k) ∨
    (∃ (j : Nat) (x : MapEntry) (v : V), getG ks k = some v ∧ ks[j]? = some (k, v) ∧ Instr.findNow E.d (E.ke k) es.toList 0 = some (some (j, x.val)) ∧ es.toList[j]? = some x ∧ x.key = E.ke k ∧ x.val = E.ve v) := by
  have nd := h.nodup
  rcases findNow_spec (d := E.d) (k := E.ke k) (E.key k) es.toList 0 (kvG_keys e) with ⟨h1, h2⟩ | ⟨j, x, h1, h2, h3⟩
  · refine .inl ⟨getG_none.2 (fun p hp he => ?_), h1, h2⟩
    have : E.kv p ∈ es.toList.map (fun e => (e.key, e.val)) := by rw [e]; exact List.mem_map.2 ⟨p, hp, rfl⟩
    obtain ⟨x, hx, hxe⟩ := List.mem_map.1 this
    exact h2 x hx ((congrArg Prod.fst hxe).trans (by show E.ke p.1 = _; rw [he]))
  · obtain ⟨p, hp, hk, hv⟩ := kvG_at e h2
    have hpk : p.1 = k := E.inj _ _ (hk.symm.trans h3)
    refine .inr ⟨j, x, p.2, getG_at nd (by rw [hp, ← hpk]), by rw [hp, ← hpk], by simpa using h1, h2, h3, hv⟩
theorem MapG.lookup [DecidableEq K] {z : V} (hm : P.underlying mty = some (.map kt et)) (hd : P.underlying kt = some E.d) (hz : (zeroValue et).run P w = .ok (E.ve z) w) (h : MapG E w m ks) (k : K) :
    (Instr.lookup mty (.map (some m)) (E.ke k) true).run P w = .ok (.tuple #[E.ve ((getG ks k).getD z), .bool (hasG ks k)]) w := by
  have H := h
  obtain ⟨es, c, hb, st, e⟩ := h.ex
  rcases H.find k e with ⟨hg, h1, h2⟩ | ⟨j, x, v, hg, hj, h1, h2, h3, hv⟩
  · have v1 : hasG ks k = false := by unfold hasG; rw [hg]; rfl
    rw [v1, hg]
    simp [Instr.lookup, run_underlying hm, Go.MapKept.run_getObj_map hb, Go.MapKept.run_checkKey hd (d := E.d) (k := E.ke k) (E.key k), Go.MapKept.run_findKey hd h1, hz, Result.andThen]
  · have v1 : hasG ks k = true := by unfold hasG; rw [hg]; rfl
    rw [v1, hg]
    simp [Instr.lookup, run_underlying hm, Go.MapKept.run_getObj_map hb, Go.MapKept.run_checkKey hd (d := E.d) (k := E.ke k) (E.key k), Go.MapKept.run_findKey hd h1, hv, Result.andThen]
theorem MapG.len (hm : P.underlying mty = some (.map kt et)) (h : MapG E w m ks) (ty : TypeId) :
    (Builtin.len_ #[mty] ty #[.map (some m)]).run P w = .ok (.int .i64 ks.length) w := by
  obtain ⟨es, c, hb, st, e⟩ := h.ex
  have : es.size = ks.length := by have := congrArg List.length e; simpa using this
  simp [Builtin.len_, run_underlying hm, Go.MapKept.run_getObj_map hb, Result.andThen, goInt, this]
/-- Another map in the place of a block. -/
def putMapG (w : World) (m : Nat) (es : Array MapEntry) (c : Nat) : World := { w with heap := w.heap.setIfInBounds m (.map es c) }
theorem Ext.putMapG {w : World} {m : Nat} {es : Array MapEntry} {c : Nat} : Ext (One m) w (putMapG w m es c) :=
  ⟨rfl, rfl, rfl, by simp [Proofs.YtflpkoafebjfdaaGreat.putMapG], fun k hk hs => by
    have : m ≠ k := fun e => hs e.symm
    simp [Proofs.YtflpkoafebjfdaaGreat.putMapG, this]⟩
theorem MapG.update [DecidableEq K] (hm : P.underlying mty = some (.map kt et)) (hd : P.underlying kt = some E.d) (h : MapG E w m ks) (k : K) (x : V) :
    ∃ w', (Instr.mapUpdate mty (.map (some m)) (E.ke k) (E.ve x)).run P w = .ok () w' ∧ MapG E w' m (setG ks k x) ∧ Ext (One m) w w' := by
  have H := h
  have nd := h.nodup
  obtain ⟨es, c, hb, st, e⟩ := h.ex
  rcases H.find k e with ⟨hg, h1, h2⟩ | ⟨j, y, v, hg, hp', h1, h2, h3, hv⟩
  · have v1 : ¬ hasG ks k = true := by unfold hasG; rw [hg]; simp
    refine ⟨putMapG w m (es.push { key := E.ke k, val := E.ve x, born := c }) (c + 1), ?_, ⟨_, _, (heap_set hb).1, stamped_push st h2, ?_⟩, Ext.putMapG⟩
    · simp [Instr.mapUpdate, run_underlying hm, Go.MapKept.run_getObj_map hb, Go.MapKept.run_checkKey hd (d := E.d) (k := E.ke k) (E.key k), Go.MapKept.run_findKey hd h1, Go.MapKept.run_setObj_map _ hb, Result.andThen, putMapG]
    · unfold setG; rw [if_neg v1]; simp [e, MEnc.kv]
  · have v1 : hasG ks k = true := by unfold hasG; rw [hg]; rfl
    have hj : es[j]? = some y := by simpa using h2
    refine ⟨putMapG w m (es.modify j fun e => { e with key := E.ke k, val := E.ve x }) c, ?_, ⟨_, _, (heap_set hb).1, stamped_modify st _ _ (fun _ _ => rfl) (fun e' _ he' => by rw [hj] at he'; cases he'; exact h3.symm), ?_⟩, Ext.putMapG⟩
    · simp [Instr.mapUpdate, run_underlying hm, Go.MapKept.run_getObj_map hb, Go.MapKept.run_checkKey hd (d := E.d) (k := E.ke k) (E.key k), Go.MapKept.run_findKey hd h1, Go.MapKept.run_setObj_map _ hb, hj, h3, Go.MapKept.run_keyThatStays (d := E.d) (k := E.ke k) (E.key k), Result.andThen, putMapG]
    · unfold setG; rw [if_pos v1, ← setG_at x nd hp']
      apply List.ext_getElem?
      intro i
      have ei := congrArg (fun l => l[i]?) e
      simp only [List.getElem?_map] at ei
      simp only [List.getElem?_map, Array.getElem?_toList, Array.getElem?_modify, List.getElem?_set]
      by_cases hij : j = i
      · subst hij
        rw [if_pos rfl]
        have hjl : j < ks.length := (List.getElem?_eq_some_iff.1 hp').1
        rw [hj]
        simp [hjl, MEnc.kv]
      · rw [if_neg hij, if_neg hij]
        simpa using ei
end
end Go.Proofs.YtflpkoafebjfdaaGreat
