/- Joined texts: MapC. What each proves stands at its head; no conditions beside those in its theorems. -/
import Derived.DeepKeys3
import Derived.Laws.CopyOwn
import Derived.Deep.OwnRows
import Derived.Deep.RegionLaw
import Derived.Test.YtflpkoafebjfdaaGreatProg
import Derived.Shelf.SlIter.Nil
import Derived.Shelf.SortM.Plain
import Derived.Shelf.SortM.SortNone
import Derived.Ground.GgzProg
import Derived.Ground.SlgmProg
import Derived.Test.YtflpkoafebjfdaaGreatPjBF
/- A map whose keys are two texts: what the machine's operations on it come to. -/
namespace Go.Proofs.YtflpkoafebjfdaaGreat
open Go.RowKit Go.Lib Go.MapKept F64
set_option linter.unusedSimpArgs false
set_option linter.unusedVariables false

theorem what_law : WideMaps.KeyLaw Tryz.prog 316 := deep_law (m := 3) (by decide) (by kernel_rfl) (by kernel_rfl) (by kernel_rfl)
theorem what_fields : ∃ f1 f2 : Field, Tryz.prog.underlying 316 = some (.struct #[f1, f2]) ∧ Tryz.prog.underlying f1.type = some .string ∧ Tryz.prog.underlying f2.type = some .string ∧ f1.offset = 0 ∧ f2.offset = 1 ∧ (f1.name != "_") = true ∧ (f2.name != "_") = true ∧ Tryz.prog.cellsOf f1.type = 1 ∧ Tryz.prog.cellsOf f2.type = 1 := by
  refine ⟨(match Tryz.prog.underlying 316 with | some (.struct fs) => (fs[0]?).getD default | _ => default), (match Tryz.prog.underlying 316 with | some (.struct fs) => (fs[1]?).getD default | _ => default), ?_, ?_, ?_, ?_, ?_, ?_, ?_, ?_, ?_⟩ <;> kernel_rfl
theorem what_type : Tryz.prog.keyType 316 = true := by kernel_rfl
theorem what_cells : Tryz.prog.cellsOf 316 = 2 := by kernel_rfl
theorem types_pos : ∃ n, Tryz.prog.types.size = n + 1 := by
  have h : (Tryz.prog.types.size == 0) = false := by kernel_rfl
  exact Nat.exists_eq_succ_of_ne_zero (fun e => by rw [e] at h; exact absurd h (by decide))
set_option maxRecDepth 100000 in
theorem what_key (a b : ByteArray) (ha : a.size ≤ 2000000) (hb : b.size ≤ 2000000) : ∃ l, keyOf Tryz.prog 316 (ckV (a, b)) = some l := by
  obtain ⟨f1, f2, hu, u1, u2, o1, o2, n1, n2, c1, c2⟩ := what_fields
  obtain ⟨n, hn⟩ := types_pos
  have hf : (ckV (a, b)).formed Tryz.prog 316 = true := by
    unfold Value.formed ckV
    simp only [hu, what_cells]
    rfl
  have ka : Tryz.prog.keyLits (n + 1) f1.type [.string a] = some [.string a.data.toList] := by
    unfold Program.keyLits
    simp only [u1]
    rw [if_pos (by unfold maxLen; omega)]
  have kb : Tryz.prog.keyLits (n + 1) f2.type [.string b] = some [.string b.data.toList] := by
    unfold Program.keyLits
    simp only [u2]
    rw [if_pos (by unfold maxLen; omega)]
  have kk : Tryz.prog.keyLits (n + 1 + 1) 316 [.string a, .string b] = some [.string a.data.toList, .string b.data.toList] := by
    rw [show Tryz.prog.keyLits (n + 1 + 1) 316 [.string a, .string b] = (match Tryz.prog.underlying 316, ([.string a, .string b] : List Value) with
      | some .bool, [.bool b] => some [.bool b]
      | some (.int q), [.int q' n] => if q' = q ∧ (Lit.int q n).wf = true then some [.int q n] else none
      | some .string, [.string s] => if s.size ≤ maxLen then some [.string s.data.toList] else none
      | some (.array m e), cs =>
        if cs.length = Tryz.prog.cellsOf 316 then ((List.range m).mapM fun i => Tryz.prog.keyLits (n + 1) e ((cs.drop (i * Tryz.prog.cellsOf e)).take (Tryz.prog.cellsOf e))).map List.flatten else none
      | some (.struct fs), cs =>
        if cs.length = Tryz.prog.cellsOf 316 ∧ fs.all (·.name != "_") = true then (fs.toList.mapM fun f => Tryz.prog.keyLits (n + 1) f.type ((cs.drop f.offset).take (Tryz.prog.cellsOf f.type))).map List.flatten else none
      | _, _ => none) from rfl]
    rw [hu]
    simp [what_cells, n1, n2, o1, o2, c1, c2, ka, kb, List.mapM_cons]
  refine ⟨.string (keyBytes [.string a.data.toList, .string b.data.toList]), ?_⟩
  unfold keyOf
  simp only [hu, what_type, hf, Bool.and_true, if_true, hn]
  show ((Tryz.prog.keyLits (n + 1 + 1) 316 [.string a, .string b]).map fun ls => Lit.string (keyBytes ls)) = _
  rw [kk]; rfl
theorem ckV_inj {a b : ByteArray × ByteArray} (h : ckV a = ckV b) : a = b := by
  unfold ckV at h
  injection h with h
  have h1 := congrArg (fun x : Array Value => x.toList) h
  simp at h1
  exact Prod.ext h1.1 h1.2
section
variable {w : World} {mty et : TypeId} {m : Nat} {ks : List ((ByteArray × ByteArray) × Int)}
theorem MapC.nodup (h : MapC w m ks) : (ks.map (·.1)).Nodup := by
  obtain ⟨es, c, _, st, e⟩ := h.ex
  have h3 := st.2.2
  have e2 : es.toList.map (·.key) = (ks.map (·.1)).map ckV := by
    have := congrArg (List.map Prod.fst) e
    rw [List.map_map, List.map_map] at this
    rw [List.map_map]
    exact this
  rw [e2] at h3
  unfold List.Nodup at h3 ⊢
  rw [List.pairwise_map] at h3
  exact h3.imp (fun hne e => hne (by rw [e]))
theorem MapC.find (h : MapC w m ks) (k : ByteArray × ByteArray) (hk : k.1.size ≤ 2000000 ∧ k.2.size ≤ 2000000) {es : Array MapEntry} (e : es.toList.map (fun e => (e.key, e.val)) = ks.map (fun p => (ckV p.1, Value.int .i64 p.2))) (W : World) :
    (getG ks k = none ∧ (Instr.findKey 316 (ckV k) es.toList).run Tryz.prog W = .ok none W ∧ ∀ x ∈ es.toList, x.key ≠ ckV k) ∨
    (∃ (j : Nat) (x : MapEntry) (v : Int), getG ks k = some v ∧ ks[j]? = some (k, v) ∧ (Instr.findKey 316 (ckV k) es.toList).run Tryz.prog W = .ok (some (j, x.val)) W ∧ es.toList[j]? = some x ∧ x.key = ckV k ∧ x.val = .int .i64 v) := by
  have nd := h.nodup
  obtain ⟨l, hl⟩ := what_key k.1 k.2 hk.1 hk.2
  rcases what_law.find W hl es.toList (fun x hx => by
    have : (x.key, x.val) ∈ ks.map (fun p => (ckV p.1, Value.int .i64 p.2)) := by rw [← e]; exact List.mem_map.2 ⟨x, hx, rfl⟩
    obtain ⟨p, hp, he⟩ := List.mem_map.1 this
    have : x.key = ckV p.1 := (congrArg Prod.fst he).symm
    rw [this]
    exact what_key p.1.1 p.1.2 (h.ok p hp).1 (h.ok p hp).2) with ⟨h1, h2⟩ | ⟨j, x, h1, h2, h3⟩
  · refine .inl ⟨getG_none.2 (fun p hp he => ?_), h1, h2⟩
    have : (ckV p.1, Value.int .i64 p.2) ∈ es.toList.map (fun e => (e.key, e.val)) := by rw [e]; exact List.mem_map.2 ⟨p, hp, rfl⟩
    obtain ⟨x, hx, hxe⟩ := List.mem_map.1 this
    exact h2 x hx ((congrArg Prod.fst hxe).trans (by show ckV p.1 = _; rw [he]))
  · have := congrArg (fun l => l[j]?) e
    simp only [List.getElem?_map, h2, Option.map_some] at this
    cases hj : ks[j]? with
    | none => rw [hj] at this; simp at this
    | some p =>
      rw [hj] at this
      simp only [Option.map_some, Option.some.injEq, Prod.mk.injEq] at this
      have hpk : p.1 = k := ckV_inj (this.1.symm.trans h3)
      exact .inr ⟨j, x, p.2, getG_at nd (by rw [hj, ← hpk]), by rw [hj, ← hpk], h1, h2, h3, this.2⟩
theorem MapC.lookup (hm : Tryz.prog.underlying mty = some (.map 316 et)) (hz : (zeroValue et).run Tryz.prog w = .ok (.int .i64 0) w) (h : MapC w m ks) (k : ByteArray × ByteArray) (hk : k.1.size ≤ 2000000 ∧ k.2.size ≤ 2000000) :
    (Instr.lookup mty (.map (some m)) (ckV k) false).run Tryz.prog w = .ok (.int .i64 (cntG ks k)) w := by
  have H := h
  obtain ⟨es, c, hb, st, e⟩ := h.ex
  obtain ⟨l, hl⟩ := what_key k.1 k.2 hk.1 hk.2
  have hc := what_law.check w es.isEmpty hl
  rcases H.find k hk e w with ⟨hg, h1, h2⟩ | ⟨j, x, v, hg, hj, h1, h2, h3, hv⟩
  · unfold cntG; rw [hg]
    simp [Instr.lookup, run_underlying hm, Go.MapKept.run_getObj_map hb, hc, h1, hz, Result.andThen]
  · unfold cntG; rw [hg]
    simp [Instr.lookup, run_underlying hm, Go.MapKept.run_getObj_map hb, hc, h1, hv, Result.andThen]
theorem MapC.update (hm : Tryz.prog.underlying mty = some (.map 316 et)) (h : MapC w m ks) (k : ByteArray × ByteArray) (hk : k.1.size ≤ 2000000 ∧ k.2.size ≤ 2000000) (x : Int) :
    ∃ w', (Instr.mapUpdate mty (.map (some m)) (ckV k) (.int .i64 x)).run Tryz.prog w = .ok () w' ∧ MapC w' m (setG ks k x) ∧ Ext (One m) w w' := by
  have H := h
  have nd := h.nodup
  have hok : ∀ p ∈ setG ks k x, p.1.1.size ≤ 2000000 ∧ p.1.2.size ≤ 2000000 := fun p hp => by
    unfold setG at hp
    split at hp
    · obtain ⟨q, hq, rfl⟩ := List.mem_map.1 hp
      by_cases e : q.1 = k
      · rw [if_pos e]; exact hk
      · rw [if_neg e]; exact h.ok q hq
    · rcases List.mem_append.1 hp with hp | hp
      · exact h.ok p hp
      · have : p = (k, x) := by simpa using hp
        rw [this]; exact hk
  obtain ⟨es, c, hb, st, e⟩ := h.ex
  obtain ⟨l, hl⟩ := what_key k.1 k.2 hk.1 hk.2
  have hc := what_law.check w false hl
  have hst := what_law.stays w hl
  rcases H.find k hk e w with ⟨hg, h1, h2⟩ | ⟨j, y, v, hg, hp', h1, h2, h3, hv⟩
  · have v1 : ¬ hasG ks k = true := by unfold hasG; rw [hg]; simp
    refine ⟨putMapG w m (es.push { key := ckV k, val := .int .i64 x, born := c }) (c + 1), ?_, ⟨⟨_, _, (heap_set hb).1, stamped_push st h2, ?_⟩, hok⟩, Ext.putMapG⟩
    · simp [Instr.mapUpdate, run_underlying hm, Go.MapKept.run_getObj_map hb, hc, h1, Go.MapKept.run_setObj_map _ hb, Result.andThen, putMapG]
    · unfold setG; rw [if_neg v1]; simp [e]
  · have v1 : hasG ks k = true := by unfold hasG; rw [hg]; rfl
    have hj : es[j]? = some y := by simpa using h2
    refine ⟨putMapG w m (es.modify j fun e => { e with key := ckV k, val := .int .i64 x }) c, ?_, ⟨⟨_, _, (heap_set hb).1, stamped_modify st _ _ (fun _ _ => rfl) (fun e' _ he' => by rw [hj] at he'; cases he'; exact h3.symm), ?_⟩, hok⟩, Ext.putMapG⟩
    · simp [Instr.mapUpdate, run_underlying hm, Go.MapKept.run_getObj_map hb, hc, h1, Go.MapKept.run_setObj_map _ hb, hj, h3, hst, Result.andThen, putMapG]
    · unfold setG; rw [if_pos v1, ← setG_at x nd hp']
      apply List.ext_getElem?
      intro i
      have ei := congrArg (fun l => l[i]?) e
      simp only [List.getElem?_map] at ei
      simp only [List.getElem?_map, Array.getElem?_toList, Array.getElem?_modify, List.getElem?_set]
      by_cases hij : j = i
      · subst hij
        rw [if_pos rfl]
        have hjl : j < ks.length := (List.getElem?_eq_some_iff.1 hp').1
        rw [hj]
        simp [hjl]
      · rw [if_neg hij, if_neg hij]
        simpa using ei
end
end Go.Proofs.YtflpkoafebjfdaaGreat
