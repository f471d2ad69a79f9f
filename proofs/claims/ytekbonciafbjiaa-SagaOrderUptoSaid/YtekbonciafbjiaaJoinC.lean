/- Joined texts: Saga13, Saga14. What each proves stands at its head; no conditions beside those in its theorems. -/
import Derived.Test.YtekbonciafbjiaaJoinB
/- Layer 22: rows of n elements, whole; a struct stored into the midst of one. -/
namespace Go.Proofs.Ytekbonciafbjiaa
open Go.RowKit Go.Lib F64
set_option linter.unusedSimpArgs false
set_option linter.unusedVariables false
attribute [local go_sem] run_store_float
attribute [local go_sem low] EW.cellN EW.frozN alloc_cell_or alloc_froz_or EW.cellF EW.frozF EW.cell1 EW.froz1
attribute [local go_sem] relAt relUpon
theorem flat_len (f : Nat → List Value) (k : Nat) (hf : ∀ j, (f j).length = k) : ∀ l : List Nat, (l.flatMap f).length = l.length * k
  | [] => by simp
  | x :: t => by rw [List.flatMap_cons, List.length_append, flat_len f k hf t, hf, List.length_cons, Nat.add_mul]; omega
theorem flat_congr (f g : Nat → List Value) : ∀ l : List Nat, (∀ x ∈ l, f x = g x) → l.flatMap f = l.flatMap g
  | [], _ => rfl
  | x :: t, h => by rw [List.flatMap_cons, List.flatMap_cons, h x List.mem_cons_self, flat_congr f g t (fun y hy => h y (List.mem_cons_of_mem _ hy))]
/-- A row of n elements, cell by cell. -/
def rowOf (n : Nat) (f : Nat → List Value) : List Value := (List.range n).flatMap f
theorem rowOf_parts (n s k : Nat) (hs : s < n) (f : Nat → List Value) (hf : ∀ j, (f j).length = k) : ∃ pre post, rowOf n f = pre ++ (f s ++ post) ∧ pre.length = s * k ∧ ∀ g : Nat → List Value, (∀ j, (g j).length = k) → (∀ j, j ≠ s → f j = g j) → rowOf n g = pre ++ g s ++ post := by
  have hl : List.range n = (List.range n).take s ++ s :: (List.range n).drop (s + 1) := by
    have h1 : s < (List.range n).length := by simpa using hs
    have h2 := List.drop_eq_getElem_cons h1
    rw [List.getElem_range] at h2
    rw [← h2, List.take_append_drop]
  have hA : ∀ x ∈ (List.range n).take s, x ≠ s := fun x hx e => by
    obtain ⟨j, hj, hj2⟩ := List.mem_iff_getElem.1 hx
    rw [List.getElem_take, List.getElem_range] at hj2
    rw [List.length_take] at hj
    omega
  have hB : ∀ x ∈ (List.range n).drop (s + 1), x ≠ s := fun x hx e => by
    obtain ⟨j, hj, hj2⟩ := List.mem_iff_getElem.1 hx
    rw [List.getElem_drop, List.getElem_range] at hj2
    omega
  refine ⟨((List.range n).take s).flatMap f, ((List.range n).drop (s + 1)).flatMap f, ?_, ?_, fun g hg hfg => ?_⟩
  · unfold rowOf
    conv => lhs; rw [hl, List.flatMap_append, List.flatMap_cons]
  · rw [flat_len f k hf, List.length_take, List.length_range, Nat.min_eq_left (by omega)]
  · unfold rowOf
    rw [flat_congr f g _ (fun x hx => hfg x (hA x hx)), flat_congr f g _ (fun x hx => hfg x (hB x hx))]
    conv => lhs; rw [hl, List.flatMap_append, List.flatMap_cons]
    rw [List.append_assoc]
theorem rowOf_len (n k : Nat) (f : Nat → List Value) (hf : ∀ j, (f j).length = k) : (rowOf n f).length = n * k := by unfold rowOf; rw [flat_len f k hf]; simp
theorem rowOf_get (n s k i : Nat) (hs : s < n) (f : Nat → List Value) (hf : ∀ j, (f j).length = k) (hi : i < k) : (rowOf n f)[s * k + i]? = (f s)[i]? := by
  obtain ⟨pre, post, e, hp, -⟩ := rowOf_parts n s k hs f hf
  rw [e, List.getElem?_append_right (by omega), hp, show s * k + i - s * k = i by omega, List.getElem?_append_left (by rw [hf]; exact hi)]
theorem made_rows (z : List Value) (n : Nat) (hz : 0 < z.length) : madeCells z.toArray (n * z.length) = (rowOf n (fun _ => z)).toArray := by
  apply Array.ext'
  show (madeCells z.toArray (n * z.length)).toList = rowOf n (fun _ => z)
  apply List.ext_getElem?
  intro j
  have hlen := rowOf_len n z.length (fun _ => z) (fun _ => rfl)
  by_cases hj : j < n * z.length
  · have hd : j / z.length < n := (Nat.div_lt_iff_lt_mul hz).2 hj
    have hm : j % z.length < z.length := Nat.mod_lt _ hz
    have q := rowOf_get n (j / z.length) z.length (j % z.length) hd (fun _ => z) (fun _ => rfl) hm
    rw [Nat.mul_comm, Nat.div_add_mod] at q
    rw [q]
    unfold madeCells
    rw [Array.getElem?_toList, Array.getElem?_map, Array.getElem?_range]
    simp [hj, hm, List.getElem?_eq_getElem hm, getElem!_pos]
  · rw [List.getElem?_eq_none (l := rowOf n (fun _ => z)) (by rw [hlen]; omega), List.getElem?_eq_none (by rw [Array.length_toList, size_madeCells]; omega)]
/-- 'make([]T, n)'. -/
theorem wpList_make_full {P : Program} {ops : Array Oper} {rest : List Oper} {o : Oper} {a : Act} {w : World} {Q : Exit → Act → World → Prop} (hg : o.guard = none) (l c : Operand) (t : TypeId) (hop : o.op = Op.makeSlice t l c)
    (e : TypeId) (z : List Value) (bytes : Nat) (zv : Value) (hzv : zv.cells = z.toArray) (ht : P.underlying t = some (.slice e)) (hi : (P.info? e).map (fun i => (i.zero, i.size, i.bytes)) = some (some zv, z.length, bytes)) (hz : 0 < z.length) (hbs : bytes ≤ 1000)
    (n : Nat) (hl : a.eval l = .int .i64 (n : Int)) (hc : a.eval c = .int .i64 (n : Int)) (hn : n ≤ 1000000)
    (h : ∀ W : EW Non w, Bx W.on w.heap.size (rowOf n (fun _ => z)) e → wpList P ops Q rest (a.put o.dst (.slice (some ⟨w.heap.size, 0, none⟩) n n)) W.on) : wpList P ops Q (o :: rest) a w := by
  obtain ⟨i, hi0, hi1, hi2, hi3⟩ := info_parts hi
  have hr := run_make (P := P) w t e i zv ht hi0 hi1 .i64 .i64 (n : Int) (n : Int) (by omega) (by omega) (by
    rw [hi3]
    have : bytes * n ≤ 1000 * n := Nat.mul_le_mul_right _ hbs
    rw [← Int.natCast_mul]
    omega) (by omega)
  rw [hzv, Int.toNat_natCast, hi2, made_rows z n hz] at hr
  have hrun : (execOp a.eval o).run P w = .ok (.value (.slice (some ⟨w.heap.size, 0, none⟩) n n)) (w.alloc (.cells (rowOf n (fun _ => z)).toArray e)) := by
    unfold execOp
    simp only [hop, hl, hc, Sem.run_bind, Sem.run_pure, hr, Result.andThen_ok]
  refine wpList_plain hg fun K hK => ?_
  unfold Oper.wp
  rw [hrun, Oper.upon_value]
  exact hK _ _ (h ⟨_, (Ext.refl _ _).alloc _⟩ (Bx.new _ _ _))
/-- A store of a whole struct into the midst of a row. -/
theorem wpList_store_row {P : Program} {ops : Array Oper} {rest : List Oper} {op : Oper} {a : Act} {w : World} {Q : Exit → Act → World → Prop} (hgd : op.guard = none) (ty : TypeId) (x y : Operand) (ho : op.op = .store ty x y)
    (k n s m : Nat) (f : Nat → List Value) (hf : ∀ j, (f j).length = m) (hs : s < n) (vs' : List Value) (t : TypeId) (hx : a.eval x = .pointer (some ⟨k, s * m, none⟩)) (hy : a.eval y = .agg vs'.toArray) (hB : Bx w k (rowOf n f) t) (hl : vs'.length = m)
    (hi : (P.info? ty).map (·.size) = some vs'.length) (h1 : ∀ v ∈ vs', v.oneCell' = true)
    (h : ∀ W : EW (One k) w, (∀ g : Nat → List Value, (∀ j, (g j).length = m) → (∀ j, j ≠ s → f j = g j) → g s = vs' → Bx W.on k (rowOf n g) t) → wpList P ops Q rest (a.put op.dst undef) W.on) : wpList P ops Q (op :: rest) a w := by
  obtain ⟨pre, post, e, hp, hg⟩ := rowOf_parts n s m hs f hf
  have hB2 := hB.h
  rw [e] at hB2
  have hT : w.there k (s * m) vs'.length := fun j hj => by
    have hjm : j < m := by omega
    have q : (rowOf n f)[s * m + j]? = some ((f s)[j]'(by rw [hf]; exact hjm)) := by rw [rowOf_get n s m j hs f hf hjm]; exact List.getElem?_eq_getElem _
    exact ⟨by rw [cell_of_heap hB.h q]; rfl, froz_of_heap hB.h⟩
  refine wpList_store_mid hgd ty x y ho k (s * m) vs'.toArray hx hy (by simpa using hT) (by simpa using hi) (all_oneCell_toArray h1)
    (h ⟨w.setCells k (s * m) vs', Ext.setCells (.inl (one_self k)) vs' (s * m) w (Ext.refl _ _)⟩ (fun g hgl hfg hgs => ?_))
  have q := heap_setCells_same k t vs' (s * m) w pre (f s ++ post) hB2 hp (by rw [List.length_append, hf]; omega)
  have hd : (f s ++ post).drop vs'.length = post := by rw [hl, ← hf s, List.drop_left]
  rw [hd] at q
  refine ⟨?_⟩
  rw [hg g hgl hfg, hgs]
  exact q
end Go.Proofs.Ytekbonciafbjiaa

/- Layer 22: the reference's Merge. -/
namespace Go.Proofs.Ytekbonciafbjiaa
open Go.RowKit Go.Lib F64
set_option linter.unusedSimpArgs false
set_option linter.unusedVariables false
attribute [local go_sem] run_store_float
attribute [local go_sem low] EW.cellN EW.frozN alloc_cell_or alloc_froz_or EW.cellF EW.frozF EW.cell1 EW.froz1
attribute [local go_sem] relAt relUpon
def reqF (m : Tab) (j : Nat) : List Value := ((m (j + 1)).getD nullR).cells
def hasF (m : Tab) (j : Nat) : List Value := [.bool (m (j + 1)).isSome]
theorem reqF_len (m : Tab) (j : Nat) : (reqF m j).length = 6 := rfl
theorem hasF_len (m : Tab) (j : Nat) : (hasF m j).length = 1 := rfl
theorem rowOf_succ (n : Nat) (f : Nat → List Value) : rowOf (n + 1) f = rowOf n f ++ f n := by unfold rowOf; rw [List.range_succ, List.flatMap_append, List.flatMap_cons, List.flatMap_nil, List.append_nil]
theorem rowOf_full (m : Tab) : ∀ n, fullT m n = true → rowOf n (reqF m) = (listT m n).flatMap Req.cells ∧ (listT m n).length = n
  | 0, _ => ⟨rfl, rfl⟩
  | n + 1, h => by
    rw [full_succ, Bool.and_eq_true] at h
    obtain ⟨r, e⟩ := Option.isSome_iff_exists.1 h.2
    obtain ⟨h1, h2⟩ := rowOf_full m n h.1
    rw [rowOf_succ, list_succ m n e, List.flatMap_append, h1, List.length_append, h2, List.flatMap_cons, List.flatMap_nil, List.append_nil]
    refine ⟨?_, rfl⟩
    unfold reqF; rw [e]; rfl
theorem putE_other (m : Tab) (x : En) {s : Nat} (hs : x.slot.toNat = s + 1) {j : Nat} (h : j ≠ s) : putE m x (j + 1) = m (j + 1) := by
  unfold putE; rw [if_neg (by omega)]
theorem putE_same (m : Tab) (x : En) {s : Nat} (hs : x.slot.toNat = s + 1) : putE m x (s + 1) = some x.req := by
  unfold putE; rw [if_pos hs.symm]
theorem has_set (m : Tab) (x : En) {s n : Nat} (hs : x.slot.toNat = s + 1) (h : s < n) : (rowOf n (hasF m)).set s (.bool true) = rowOf n (hasF (putE m x)) := by
  obtain ⟨pre, post, e, hp, hg⟩ := rowOf_parts n s 1 h (hasF m) (hasF_len m)
  rw [hg (hasF (putE m x)) (hasF_len _) (fun j hj => by unfold hasF; rw [putE_other m x hs hj]), e]
  have e1 : hasF (putE m x) s = [.bool true] := by unfold hasF; rw [putE_same m x hs]; rfl
  have e2 : hasF m s = [.bool (m (s + 1)).isSome] := rfl
  rw [e1, e2, List.set_append, if_neg (by omega), hp, show s - s * 1 = 0 by omega]
  simp
theorem info_bool : (Try.prog.info? 4).map (fun i => (i.zero, i.size, i.bytes)) = some (some (.bool false), 1, 1) := by kernel_rfl
theorem info_req10 : (Try.prog.info? 37).map (·.size) = some 6 := by kernel_rfl
set_option maxHeartbeats 4000000 in
set_option maxRecDepth 100000 in
theorem ref22_Merge (a : Option Addr) (cap : Nat) (rs : List EnR) (hlim : (allE rs).length ≤ 2097152) (hok : ∀ x ∈ allE rs, x.ok) (w : World) (h : EEs w a cap rs) : Calls Try.prog 20 #[.slice a rs.length cap] w fun e w' =>
    ∃ v, e = .returned (.tuple #[v, .int .i64 (mergeE (allE rs))]) ∧ w'.ownsRow w.heap.size 37 6 v (mergeL (allE rs)).length ((mergeL (allE rs)).flatMap Req.cells) ∧ Ext Non w w' := by
  have HA := Go.Lib.hid h
  have s1 := h.small; have s2 := h.le
  clear h
  obtain ⟨l, hl⟩ : ∃ l, l = allE rs := ⟨_, rfl⟩
  rw [← hl] at hlim hok ⊢
  have HLL := Go.Lib.hid hl
  have HK := Go.Lib.hid hok
  clear hl hok
  have ROW0 : Hid (w.ownsRow w.heap.size 62 7 (.slice none 0 0) (allE (rs.take 0)).length ((allE (rs.take 0)).flatMap En.cells)) := Go.Lib.hid (World.ownsRow_nil _ _ _ _)
  go_enter Try.func20, Try.ntmps20
  go_wp2_with fail
  go_loopg [4, 6, 7] rs.length (fun n ov iv kv wr => ∃ (v : Value) (i : Nat) (z : EW Non w), v = ov ∧ i ≤ rs.length ∧ n = rs.length - i ∧ iv = .int .i64 i ∧ wr = z.on ∧ Hid (wr.ownsRow w.heap.size 62 7 v (allE (rs.take i)).length ((allE (rs.take i)).flatMap En.cells)) ∧ Hid (askedE_ (allE (rs.take i)) = true))
  case atStart => exact ⟨_, 0, ⟨_, by (repeat (first | with_reducible exact Ext.refl _ _ | assumption | with_reducible refine Ext.upN ?_ | with_reducible refine Ext.alloc ?_ _ | with_reducible refine Ext.upA (by assumption) ?_ | with_reducible refine Ext.upW ?_ | with_reducible refine Ext.drew ?_ | with_reducible refine Ext.drewN ?_ _ | with_reducible refine Ext.upF ?_ | with_reducible refine Ext.upFF (by first | omega | simp) ?_ | with_reducible refine Ext.setCellsF _ _ _ (by first | omega | simp) ?_ | with_reducible refine Ext.setCellF _ _ _ (by first | omega | simp) ?_ | with_reducible refine Ext.upFN (by first | omega | simp) ?_ | with_reducible refine Ext.up1F (by first | omega | simp) ?_ | with_reducible refine Ext.up1N (by first | omega | simp) ?_ | with_reducible refine Ext.setCell ?_ (.inr (by first | omega | simp)) _ | refine Ext.alloc ?_ _ | refine Ext.setCellF _ _ _ (by first | omega | simp) ?_ | refine Ext.setCell ?_ (.inr (by first | omega | simp)) _))⟩, rfl, Nat.zero_le _, rfl, rfl, rfl, ROW0, Go.Lib.hid rfl⟩
  case round =>
    clear ROW0
    obtain ⟨v, i, z, rfl, hi, hn, rfl, rfl, HO, HD⟩ := hrel
    have HN := Go.Lib.hid hn; clear hn
    by_cases hlt : i < rs.length
    · obtain ⟨ab, ao, rfl, hab, hcell, hE⟩ := HA.out.at_ i hlt
      have HT := Go.Lib.hid (allE_take hlt)
      have HLE : Hid ((allE (rs.take (i + 1))).length ≤ l.length) := Go.Lib.hid (by rw [HLL.out]; exact allE_le rs (i + 1))
      have HSub : Hid (∀ x ∈ allE (rs.take (i + 1)), x ∈ l) := Go.Lib.hid (fun x hx => by
        rw [HLL.out]
        unfold allE at hx ⊢
        obtain ⟨r, hr, hx⟩ := List.mem_flatMap.1 hx
        exact List.mem_flatMap.2 ⟨r, List.mem_of_mem_take hr, hx⟩)
      have HIE := Go.Lib.hid hE
      have es := hE.small; have el := hE.le
      generalize (rs[i]).2.2 = ln at *
      generalize (rs[i]).1 = ia at *
      generalize (rs[i]).2.1 = ic at *
      obtain ⟨nx, hnx⟩ : ∃ nx, nx = allE (rs.take (i + 1)) := ⟨_, rfl⟩
      have HNX := Go.Lib.hid hnx
      rw [← hnx] at HT HLE HSub
      clear hnx
      generalize allE (rs.take i) = pr at *
      clear hE
      have ROWI : Hid (z.on.ownsRow w.heap.size 62 7 v (pr ++ ln.take 0).length ((pr ++ ln.take 0).flatMap En.cells)) := Go.Lib.hid (by rw [List.take_zero, List.append_nil]; exact HO.out)
      have HDI : Hid (askedE_ (pr ++ ln.take 0) = true) := Go.Lib.hid (by rw [List.take_zero, List.append_nil]; exact HD.out)
      clear HO HD
      go_wp2_with fail
      go_loopg [4, 7] ln.length (fun n ov kv wr => ∃ (v : Value) (k : Nat) (u : EW Non w), v = ov ∧ k ≤ ln.length ∧ n = ln.length - k ∧ kv = .int .i64 k ∧ wr = u.on ∧ Hid (wr.ownsRow w.heap.size 62 7 v (pr ++ ln.take k).length ((pr ++ ln.take k).flatMap En.cells)) ∧ Hid (askedE_ (pr ++ ln.take k) = true))
      case atStart => exact ⟨_, 0, ⟨_, by (repeat (first | with_reducible exact Ext.refl _ _ | assumption | with_reducible refine Ext.upN ?_ | with_reducible refine Ext.alloc ?_ _ | with_reducible refine Ext.upA (by assumption) ?_ | with_reducible refine Ext.upW ?_ | with_reducible refine Ext.drew ?_ | with_reducible refine Ext.drewN ?_ _ | with_reducible refine Ext.upF ?_ | with_reducible refine Ext.upFF (by first | omega | simp) ?_ | with_reducible refine Ext.setCellsF _ _ _ (by first | omega | simp) ?_ | with_reducible refine Ext.setCellF _ _ _ (by first | omega | simp) ?_ | with_reducible refine Ext.upFN (by first | omega | simp) ?_ | with_reducible refine Ext.up1F (by first | omega | simp) ?_ | with_reducible refine Ext.up1N (by first | omega | simp) ?_ | with_reducible refine Ext.setCell ?_ (.inr (by first | omega | simp)) _ | refine Ext.alloc ?_ _ | refine Ext.setCellF _ _ _ (by first | omega | simp) ?_ | refine Ext.setCell ?_ (.inr (by first | omega | simp)) _))⟩, rfl, Nat.zero_le _, rfl, rfl, rfl, ROWI, HDI⟩
      case round =>
        clear ROWI HDI
        obtain ⟨v, k, u, rfl, hk, hkn, rfl, rfl, HO, HD⟩ := hrel
        have HKN := Go.Lib.hid hkn; clear hkn
        by_cases hkl : k < ln.length
        · obtain ⟨bb, bo, rfl, hbb, hbc⟩ := HIE.out.at_ k hkl
          have HX : Hid (pr ++ ln.take (k + 1) = (pr ++ ln.take k) ++ [ln[k]]) := Go.Lib.hid (by rw [List.take_succ_eq_append_getElem hkl, List.append_assoc])
          have HIN : Hid (ln[k] ∈ l) := Go.Lib.hid (HSub.out _ (by rw [HT.out]; exact List.mem_append_right _ (List.getElem_mem hkl)))
          have HR := Go.Lib.hid (HK.out _ HIN.out)
          have hlen : (pr ++ ln.take k).length + 1 ≤ 2097152 := by
            have h1 := HLE.out
            rw [HT.out, List.length_append] at h1
            rw [List.length_append, List.length_take]
            omega
          have HBAD : Hid (askedB (ln[k]).req = false → mergeE l = 1 ∧ mergeL l = []) := Go.Lib.hid (fun e => by
            have e1 : chkE l = 1 := by
              unfold chkE
              rw [if_neg]
              unfold askedE_
              rw [Bool.not_eq_true, List.all_eq_false]
              exact ⟨ln[k], HIN.out, by rw [e]; simp⟩
            have e2 : mergeE l = 1 := by unfold mergeE; rw [if_neg (by rw [e1]; decide), e1]
            exact ⟨e2, by unfold mergeL; rw [if_neg (by rw [e2]; decide)]⟩)
          have HGD : Hid (askedB (ln[k]).req = true → askedE_ (pr ++ ln.take (k + 1)) = true) := Go.Lib.hid (fun e => by
            rw [HX.out]
            have h1 := HD.out
            unfold askedE_ at h1 ⊢
            rw [List.all_append, h1]
            simp [e])
          generalize ln[k] = o at *
          obtain ⟨sl, ⟨c, st, ⟨kk, key, x, id⟩⟩⟩ := o
          have q0 : w.cell? ⟨bb, bo + k * 7, none⟩ = some (.int .i64 sl) := hbc 0 _ rfl
          have q1 : w.cell? ⟨bb, bo + k * 7 + 1, none⟩ = some (.int .i64 c) := hbc 1 _ rfl
          have q2 : w.cell? ⟨bb, bo + k * 7 + 2, none⟩ = some (.int .i64 st) := hbc 2 _ rfl
          have q3 : w.cell? ⟨bb, bo + k * 7 + 3, none⟩ = some (.int .i64 kk) := hbc 3 _ rfl
          have q4 : w.cell? ⟨bb, bo + k * 7 + 4, none⟩ = some (.string key) := hbc 4 _ rfl
          have q5 : w.cell? ⟨bb, bo + k * 7 + 5, none⟩ = some (.float .f64 x) := hbc 5 _ rfl
          have q6 : w.cell? ⟨bb, bo + k * 7 + 6, none⟩ = some (.int .i64 id) := hbc 6 _ rfl
          clear hbc
          have HXL : Hid ((pr ++ ln.take (k + 1)).length = (pr ++ ln.take k).length + 1) := Go.Lib.hid (by rw [HX.out, List.length_append]; rfl)
          have HXF : Hid ((pr ++ ln.take (k + 1)).flatMap En.cells = (pr ++ ln.take k).flatMap En.cells ++ [.int .i64 sl, .int .i64 c, .int .i64 st, .int .i64 kk, .string key, .float .f64 x, .int .i64 id]) := Go.Lib.hid (by rw [HX.out, List.flatMap_append, List.flatMap_cons, List.flatMap_nil, List.append_nil]; rfl)
          generalize (pr ++ ln.take k).length = pl at *
          go_wp2_with fail
          refine Calls.ew (ref13_Asked c st kk key x id _) ?_
          rintro e x1 rfl
          cases hs : askedB ⟨c, st, ⟨kk, key, x, id⟩⟩
          · have H2 := Go.Lib.hid (HBAD.out hs)
            clear hs
            go_wp2
            go_returns
            have e1 := H2.out.1
            refine ⟨.slice none 0 0, by rw [e1]; rfl, ?_, by (repeat (first | with_reducible exact Ext.refl _ _ | assumption | with_reducible refine Ext.upN ?_ | with_reducible refine Ext.alloc ?_ _ | with_reducible refine Ext.upA (by assumption) ?_ | with_reducible refine Ext.upW ?_ | with_reducible refine Ext.drew ?_ | with_reducible refine Ext.drewN ?_ _ | with_reducible refine Ext.upF ?_ | with_reducible refine Ext.upFF (by first | omega | simp) ?_ | with_reducible refine Ext.setCellsF _ _ _ (by first | omega | simp) ?_ | with_reducible refine Ext.setCellF _ _ _ (by first | omega | simp) ?_ | with_reducible refine Ext.upFN (by first | omega | simp) ?_ | with_reducible refine Ext.up1F (by first | omega | simp) ?_ | with_reducible refine Ext.up1N (by first | omega | simp) ?_ | with_reducible refine Ext.setCell ?_ (.inr (by first | omega | simp)) _ | refine Ext.alloc ?_ _ | refine Ext.setCellF _ _ _ (by first | omega | simp) ?_ | refine Ext.setCell ?_ (.inr (by first | omega | simp)) _))⟩
            rw [H2.out.2]
            exact World.ownsRow_nil _ _ _ _
          · have HD2 := Go.Lib.hid (HGD.out hs)
            clear hs
            have hzz : w.heap.size ≤ x1.on.heap.size := by have h1 := x1.ext.size; have h2 := u.ext.size; omega
            go_wp2_with (at_builtin; refine wpList_append_rowB rfl _ _ 60 rfl w.heap.size 62 7 64 _ Try.underlying60 info_entry (by rfl) (by omega) v pl _ rfl (ownR_extN HO.out (by (repeat (first | with_reducible exact Ext.refl _ _ | assumption | with_reducible refine Ext.upN ?_ | with_reducible refine Ext.alloc ?_ _ | with_reducible refine Ext.upA (by assumption) ?_ | with_reducible refine Ext.upW ?_ | with_reducible refine Ext.drew ?_ | with_reducible refine Ext.drewN ?_ _ | with_reducible refine Ext.upF ?_ | with_reducible refine Ext.upFF (by first | omega | simp) ?_ | with_reducible refine Ext.setCellsF _ _ _ (by first | omega | simp) ?_ | with_reducible refine Ext.setCellF _ _ _ (by first | omega | simp) ?_ | with_reducible refine Ext.upFN (by first | omega | simp) ?_ | with_reducible refine Ext.up1F (by first | omega | simp) ?_ | with_reducible refine Ext.up1N (by first | omega | simp) ?_ | with_reducible refine Ext.setCell ?_ (.inr (by first | omega | simp)) _ | refine Ext.alloc ?_ _ | refine Ext.setCellF _ _ _ (by first | omega | simp) ?_ | refine Ext.setCell ?_ (.inr (by first | omega | simp)) _)))) x1.on.heap.size [.int .i64 sl, .int .i64 c, .int .i64 st, .int .i64 kk, .string key, .float .f64 x, .int .i64 id] 62 rfl (Bx.newAt _ _ _ _ rfl) rfl (by simp [Value.oneCell']) (by omega) (by omega) (by simp; omega) (fun v' W2 hO hrow => ?_); have HO2 := Go.Lib.hid hO; clear hO hrow)
            have XA : Ext Non u.on (x1.on.alloc (.cells [.int .i64 sl, .int .i64 c, .int .i64 st, .int .i64 kk, .string key, .float .f64 x, .int .i64 id].toArray 62)) := by (repeat (first | with_reducible exact Ext.refl _ _ | assumption | with_reducible refine Ext.upN ?_ | with_reducible refine Ext.alloc ?_ _ | with_reducible refine Ext.upA (by assumption) ?_ | with_reducible refine Ext.upW ?_ | with_reducible refine Ext.drew ?_ | with_reducible refine Ext.drewN ?_ _ | with_reducible refine Ext.upF ?_ | with_reducible refine Ext.upFF (by first | omega | simp) ?_ | with_reducible refine Ext.setCellsF _ _ _ (by first | omega | simp) ?_ | with_reducible refine Ext.setCellF _ _ _ (by first | omega | simp) ?_ | with_reducible refine Ext.upFN (by first | omega | simp) ?_ | with_reducible refine Ext.up1F (by first | omega | simp) ?_ | with_reducible refine Ext.up1N (by first | omega | simp) ?_ | with_reducible refine Ext.setCell ?_ (.inr (by first | omega | simp)) _ | refine Ext.alloc ?_ _ | refine Ext.setCellF _ _ _ (by first | omega | simp) ?_ | refine Ext.setCell ?_ (.inr (by first | omega | simp)) _))
            have XF : Ext Non w W2.on := (u.ext.trans XA).step W2.ext (fun k hk h => by have := (own_row HO.out k h).1; omega)
            go_roundg (ln.length - (k + 1))
            case measure => have := HKN.out; omega
            case rel => exact ⟨_, k + 1, ⟨_, XF⟩, rfl, hkl, rfl, by go_num, rfl, Go.Lib.hid (by rw [HXF.out, HXL.out]; exact HO2.out), HD2⟩
        · obtain rfl : k = ln.length := by omega
          have ho := HO.out
          have hd := HD.out
          rw [List.take_length, ← HT.out] at ho hd
          have HO2 := Go.Lib.hid ho; have HD2 := Go.Lib.hid hd
          clear ho hd
          go_wp2_with fail
          go_roundg (rs.length - (i + 1))
          case measure => have := HN.out; omega
          case rel => exact ⟨_, i + 1, ⟨_, by (repeat (first | with_reducible exact Ext.refl _ _ | assumption | with_reducible refine Ext.upN ?_ | with_reducible refine Ext.alloc ?_ _ | with_reducible refine Ext.upA (by assumption) ?_ | with_reducible refine Ext.upW ?_ | with_reducible refine Ext.drew ?_ | with_reducible refine Ext.drewN ?_ _ | with_reducible refine Ext.upF ?_ | with_reducible refine Ext.upFF (by first | omega | simp) ?_ | with_reducible refine Ext.setCellsF _ _ _ (by first | omega | simp) ?_ | with_reducible refine Ext.setCellF _ _ _ (by first | omega | simp) ?_ | with_reducible refine Ext.upFN (by first | omega | simp) ?_ | with_reducible refine Ext.up1F (by first | omega | simp) ?_ | with_reducible refine Ext.up1N (by first | omega | simp) ?_ | with_reducible refine Ext.setCell ?_ (.inr (by first | omega | simp)) _ | refine Ext.alloc ?_ _ | refine Ext.setCellF _ _ _ (by first | omega | simp) ?_ | refine Ext.setCell ?_ (.inr (by first | omega | simp)) _))⟩, rfl, hlt, rfl, by go_num, rfl, Go.Lib.hid (by rw [← HNX.out]; exact HO2.out), Go.Lib.hid (by rw [← HNX.out]; exact HD2.out)⟩
    · obtain rfl : i = rs.length := by omega
      have ho := HO.out
      have hd := HD.out
      rw [List.take_length, ← HLL.out] at ho hd
      obtain ⟨ga, gcap, rfl, hE⟩ := ens_of_own _ ho
      have HE := Go.Lib.hid hE
      have s3 := hE.small; have s4 := hE.le
      have HAS := Go.Lib.hid hd
      clear ho hd hE HO HD HN
      go_wp2_with fail
      go_loopg [5, 8] l.length (fun n mv iv wr => ∃ (i : Nat) (u : EW Non z.on), i ≤ l.length ∧ n = l.length - i ∧ iv = .int .i64 i ∧ mv = .int .i64 (mostE (l.take i) : Nat) ∧ wr = u.on ∧ Hid (slotsE_ (l.take i) = true) ∧ mostE (l.take i) ≤ 244)
      case atStart => exact ⟨0, ⟨_, by (repeat (first | with_reducible exact Ext.refl _ _ | assumption | with_reducible refine Ext.upN ?_ | with_reducible refine Ext.alloc ?_ _ | with_reducible refine Ext.upA (by assumption) ?_ | with_reducible refine Ext.upW ?_ | with_reducible refine Ext.drew ?_ | with_reducible refine Ext.drewN ?_ _ | with_reducible refine Ext.upF ?_ | with_reducible refine Ext.upFF (by first | omega | simp) ?_ | with_reducible refine Ext.setCellsF _ _ _ (by first | omega | simp) ?_ | with_reducible refine Ext.setCellF _ _ _ (by first | omega | simp) ?_ | with_reducible refine Ext.upFN (by first | omega | simp) ?_ | with_reducible refine Ext.up1F (by first | omega | simp) ?_ | with_reducible refine Ext.up1N (by first | omega | simp) ?_ | with_reducible refine Ext.setCell ?_ (.inr (by first | omega | simp)) _ | refine Ext.alloc ?_ _ | refine Ext.setCellF _ _ _ (by first | omega | simp) ?_ | refine Ext.setCell ?_ (.inr (by first | omega | simp)) _))⟩, Nat.zero_le _, rfl, rfl, rfl, rfl, Go.Lib.hid rfl, Nat.zero_le _⟩
      case round =>
        obtain ⟨i, u, hi, hn, rfl, rfl, rfl, HD, hml⟩ := hrel
        have HN := Go.Lib.hid hn; clear hn
        by_cases hlt : i < l.length
        · obtain ⟨ab, ao, rfl, hab, hc⟩ := HE.out.at_ i hlt
          have HT := Go.Lib.hid (slots_take hlt)
          have HM := Go.Lib.hid (most_take hlt)
          have HBAD : Hid (¬ (1 ≤ (l[i]).slot ∧ (l[i]).slot ≤ 244) → mergeE l = 14 ∧ mergeL l = []) := Go.Lib.hid (fun e => by
            have e1 : chkE l = 14 := by
              unfold chkE
              rw [if_pos HAS.out, if_neg]
              unfold slotsE_
              rw [Bool.not_eq_true, List.all_eq_false]
              refine ⟨l[i], List.getElem_mem hlt, ?_⟩
              simp only [Bool.and_eq_true, decide_eq_true_eq]; exact e
            have e2 : mergeE l = 14 := by unfold mergeE; rw [if_neg (by rw [e1]; decide), e1]
            exact ⟨e2, by unfold mergeL; rw [if_neg (by rw [e2]; decide)]⟩)
          generalize l[i] = o at *
          obtain ⟨sl, ⟨c, st, ⟨k, key, x, id⟩⟩⟩ := o
          have q0 : z.on.cell? ⟨ab, ao + i * 7, none⟩ = some (.int .i64 sl) := hc 0 _ rfl
          clear hc
          by_cases hl1 : sl < 1
          · have d1 : decide (sl < 1) = true := decide_eq_true hl1
            have H2 := Go.Lib.hid (HBAD.out (by simp only; omega))
            go_wp2
            go_returns
            have e1 := H2.out.1
            refine ⟨.slice none 0 0, by rw [e1]; rfl, ?_, by (repeat (first | with_reducible exact Ext.refl _ _ | assumption | with_reducible refine Ext.upN ?_ | with_reducible refine Ext.alloc ?_ _ | with_reducible refine Ext.upA (by assumption) ?_ | with_reducible refine Ext.upW ?_ | with_reducible refine Ext.drew ?_ | with_reducible refine Ext.drewN ?_ _ | with_reducible refine Ext.upF ?_ | with_reducible refine Ext.upFF (by first | omega | simp) ?_ | with_reducible refine Ext.setCellsF _ _ _ (by first | omega | simp) ?_ | with_reducible refine Ext.setCellF _ _ _ (by first | omega | simp) ?_ | with_reducible refine Ext.upFN (by first | omega | simp) ?_ | with_reducible refine Ext.up1F (by first | omega | simp) ?_ | with_reducible refine Ext.up1N (by first | omega | simp) ?_ | with_reducible refine Ext.setCell ?_ (.inr (by first | omega | simp)) _ | refine Ext.alloc ?_ _ | refine Ext.setCellF _ _ _ (by first | omega | simp) ?_ | refine Ext.setCell ?_ (.inr (by first | omega | simp)) _))⟩
            rw [H2.out.2]
            exact World.ownsRow_nil _ _ _ _
          · have d1 : decide (sl < 1) = false := decide_eq_false hl1
            by_cases hl2 : 244 < sl
            · have d2 : decide (244 < sl) = true := decide_eq_true hl2
              have H2 := Go.Lib.hid (HBAD.out (by simp only; omega))
              go_wp2
              go_returns
              have e1 := H2.out.1
              refine ⟨.slice none 0 0, by rw [e1]; rfl, ?_, by (repeat (first | with_reducible exact Ext.refl _ _ | assumption | with_reducible refine Ext.upN ?_ | with_reducible refine Ext.alloc ?_ _ | with_reducible refine Ext.upA (by assumption) ?_ | with_reducible refine Ext.upW ?_ | with_reducible refine Ext.drew ?_ | with_reducible refine Ext.drewN ?_ _ | with_reducible refine Ext.upF ?_ | with_reducible refine Ext.upFF (by first | omega | simp) ?_ | with_reducible refine Ext.setCellsF _ _ _ (by first | omega | simp) ?_ | with_reducible refine Ext.setCellF _ _ _ (by first | omega | simp) ?_ | with_reducible refine Ext.upFN (by first | omega | simp) ?_ | with_reducible refine Ext.up1F (by first | omega | simp) ?_ | with_reducible refine Ext.up1N (by first | omega | simp) ?_ | with_reducible refine Ext.setCell ?_ (.inr (by first | omega | simp)) _ | refine Ext.alloc ?_ _ | refine Ext.setCellF _ _ _ (by first | omega | simp) ?_ | refine Ext.setCell ?_ (.inr (by first | omega | simp)) _))⟩
              rw [H2.out.2]
              exact World.ownsRow_nil _ _ _ _
            · have d2 : decide (244 < sl) = false := decide_eq_false hl2
              obtain ⟨sn, rfl⟩ : ∃ sn : Nat, sl = (sn : Int) := ⟨sl.toNat, by omega⟩
              simp only [Int.toNat_natCast] at HM
              have HF2 : Hid (slotsE_ (l.take (i + 1)) = true) := Go.Lib.hid (by rw [HT.out, HD.out]; simp; omega)
              have hmx : mostE (l.take (i + 1)) ≤ 244 := by rw [HM.out]; omega
              go_wp2_with fail
              all_goals
                go_roundg (l.length - (i + 1))
                case measure => have := HN.out; omega
                case rel => exact ⟨i + 1, ⟨_, by (repeat (first | with_reducible exact Ext.refl _ _ | assumption | with_reducible refine Ext.upN ?_ | with_reducible refine Ext.alloc ?_ _ | with_reducible refine Ext.upA (by assumption) ?_ | with_reducible refine Ext.upW ?_ | with_reducible refine Ext.drew ?_ | with_reducible refine Ext.drewN ?_ _ | with_reducible refine Ext.upF ?_ | with_reducible refine Ext.upFF (by first | omega | simp) ?_ | with_reducible refine Ext.setCellsF _ _ _ (by first | omega | simp) ?_ | with_reducible refine Ext.setCellF _ _ _ (by first | omega | simp) ?_ | with_reducible refine Ext.upFN (by first | omega | simp) ?_ | with_reducible refine Ext.up1F (by first | omega | simp) ?_ | with_reducible refine Ext.up1N (by first | omega | simp) ?_ | with_reducible refine Ext.setCell ?_ (.inr (by first | omega | simp)) _ | refine Ext.alloc ?_ _ | refine Ext.setCellF _ _ _ (by first | omega | simp) ?_ | refine Ext.setCell ?_ (.inr (by first | omega | simp)) _))⟩, hlt, rfl, by go_num, by rw [HM.out]; first | rw [Nat.max_eq_left (by omega)] | rw [Nat.max_eq_right (by omega)], rfl, HF2, hmx⟩
        · obtain rfl : i = l.length := by omega
          have hd := HD.out
          rw [List.take_length] at hd hml ⊢
          have HC : Hid (chkE l = 0) := Go.Lib.hid (by unfold chkE; rw [if_pos HAS.out, if_pos hd])
          have HQ := Go.Lib.hid (chk_asked HC.out)
          obtain ⟨mo, hmo⟩ : ∃ mo, mo = mostE l := ⟨_, rfl⟩
          rw [← hmo] at hml ⊢
          have HMO := Go.Lib.hid hmo
          clear hd hmo HN HD
          go_wp2_with (first | (refine wpList_make_full rfl _ _ 31 rfl 37 nullR.cells 56 _ (by rfl) Try.underlying31 info_req9 (by decide) (by omega) mo rfl rfl (by omega) (fun W1 hB => ?_); have HB1 := Go.Lib.hid hB; clear hB) | (refine wpList_make_full rfl _ _ 101 rfl 4 [.bool false] 1 _ (by rfl) Try.underlying101 info_bool (by decide) (by omega) mo rfl rfl (by omega) (fun W2 hB => ?_); have HB2 := Go.Lib.hid hB; clear hB))
          have hkl : z.on.heap.size ≤ u.on.heap.size := u.ext.size
          have hkt : u.on.heap.size < W1.on.heap.size := HB1.out.lt
          have hB1 := HB1.out.extN W2.ext
          have hB2 := HB2.out
          have X2 : Ext Non z.on W2.on := by (repeat (first | with_reducible exact Ext.refl _ _ | assumption | with_reducible refine Ext.upN ?_ | with_reducible refine Ext.alloc ?_ _ | with_reducible refine Ext.upA (by assumption) ?_ | with_reducible refine Ext.upW ?_ | with_reducible refine Ext.drew ?_ | with_reducible refine Ext.drewN ?_ _ | with_reducible refine Ext.upF ?_ | with_reducible refine Ext.upFF (by first | omega | simp) ?_ | with_reducible refine Ext.setCellsF _ _ _ (by first | omega | simp) ?_ | with_reducible refine Ext.setCellF _ _ _ (by first | omega | simp) ?_ | with_reducible refine Ext.upFN (by first | omega | simp) ?_ | with_reducible refine Ext.up1F (by first | omega | simp) ?_ | with_reducible refine Ext.up1N (by first | omega | simp) ?_ | with_reducible refine Ext.setCell ?_ (.inr (by first | omega | simp)) _ | refine Ext.alloc ?_ _ | refine Ext.setCellF _ _ _ (by first | omega | simp) ?_ | refine Ext.setCell ?_ (.inr (by first | omega | simp)) _))
          obtain ⟨y0, hy0⟩ := X2.ew
          rw [hy0] at hB1 hB2 ⊢
          generalize u.on.heap.size = kl at *
          generalize W1.on.heap.size = kt at *
          have HB1' : Hid (Bx y0.on kl (rowOf mo (reqF (fun _ => none))) 37) := Go.Lib.hid hB1
          have HB2' : Hid (Bx y0.on kt (rowOf mo (hasF (fun _ => none))) 4) := Go.Lib.hid hB2
          clear hB1 hB2 HB1 HB2 hy0 X2 W2
          go_wp2_with fail
          go_loopg [11, 12] l.length (fun n iv nv wr => ∃ (i : Nat) (m : Tab) (q : EW Non z.on), i ≤ l.length ∧ n = l.length - i ∧ iv = .int .i64 i ∧ wr = q.on ∧ Hid (Bx wr kl (rowOf mo (reqF m)) 37) ∧ Hid (Bx wr kt (rowOf mo (hasF m)) 4) ∧ Hid (foldE (fun _ => none) l = foldE m (l.drop i)) ∧ Hid (∀ j r, m j = some r → ReqOk r))
          case atStart => exact ⟨0, _, ⟨_, by (repeat (first | with_reducible exact Ext.refl _ _ | assumption | with_reducible refine Ext.upN ?_ | with_reducible refine Ext.alloc ?_ _ | with_reducible refine Ext.upA (by assumption) ?_ | with_reducible refine Ext.upW ?_ | with_reducible refine Ext.drew ?_ | with_reducible refine Ext.drewN ?_ _ | with_reducible refine Ext.upF ?_ | with_reducible refine Ext.upFF (by first | omega | simp) ?_ | with_reducible refine Ext.setCellsF _ _ _ (by first | omega | simp) ?_ | with_reducible refine Ext.setCellF _ _ _ (by first | omega | simp) ?_ | with_reducible refine Ext.upFN (by first | omega | simp) ?_ | with_reducible refine Ext.up1F (by first | omega | simp) ?_ | with_reducible refine Ext.up1N (by first | omega | simp) ?_ | with_reducible refine Ext.setCell ?_ (.inr (by first | omega | simp)) _ | refine Ext.alloc ?_ _ | refine Ext.setCellF _ _ _ (by first | omega | simp) ?_ | refine Ext.setCell ?_ (.inr (by first | omega | simp)) _))⟩, Nat.zero_le _, rfl, rfl, rfl, HB1', HB2', Go.Lib.hid rfl, Go.Lib.hid (fun j r h => by cases h)⟩
          case round =>
            clear HB1' HB2'
            obtain ⟨i, m, q, hi, hn, rfl, rfl, HB1, HB2, HF, HMR⟩ := hrel
            have HN := Go.Lib.hid hn; clear hn
            by_cases hlt : i < l.length
            · obtain ⟨ab, ao, rfl, hab, hc⟩ := HE.out.at_ i hlt
              have HR := Go.Lib.hid (HK.out _ (List.getElem_mem hlt)).2
              have hqs := (HQ.out _ (List.getElem_mem hlt)).2
              have hmost : (l[i]).slot.toNat ≤ mo := by rw [HMO.out]; exact (most_ge l 0).2 _ (List.getElem_mem hlt)
              have HS1 : Hid (okPut m l[i] = true → foldE (fun _ => none) l = foldE (putE m l[i]) (l.drop (i + 1))) := Go.Lib.hid (fun e => HF.out.trans (fold_step hlt e))
              have HS2 : Hid (okPut m l[i] = false → mergeE l = 22 ∧ mergeL l = []) := Go.Lib.hid (fun e => by
                have e1 := HF.out.trans (fold_stop hlt e)
                have e2 : mergeE l = 22 := by unfold mergeE; rw [if_pos HC.out, e1]
                exact ⟨e2, by unfold mergeL; rw [if_neg (by rw [e2]; decide)]⟩)
              have HO : Hid (okPut m l[i] = (match m (l[i]).slot.toNat with | some r => sameT r (l[i]).req | none => true)) := Go.Lib.hid rfl
              generalize l[i] = o at *
              obtain ⟨sl, ⟨c, st, ⟨k, key, x, id⟩⟩⟩ := o
              obtain ⟨s, rfl⟩ : ∃ s : Nat, sl = ((s + 1 : Nat) : Int) := ⟨(sl - 1).toNat, by simp only at hqs; omega⟩
              simp only [Int.toNat_natCast] at hqs hmost HO
              have hsm : s < mo := by omega
              obtain ⟨sl, hsl⟩ : ∃ sl, sl = ((s + 1 : Nat) : Int) := ⟨_, rfl⟩
              have hT : sl.toNat = s + 1 := by omega
              have hw : IntKind.i64.wrap (sl - 1) = (s : Int) := (IntWalk.i64_in _ (by omega)).trans (by omega)
              rw [← hsl] at hc HS1 HS2 HO
              have q0 : z.on.cell? ⟨ab, ao + i * 7, none⟩ = some (.int .i64 sl) := hc 0 _ rfl
              have q1 : z.on.cell? ⟨ab, ao + i * 7 + 1, none⟩ = some (.int .i64 c) := hc 1 _ rfl
              have q2 : z.on.cell? ⟨ab, ao + i * 7 + 2, none⟩ = some (.int .i64 st) := hc 2 _ rfl
              have q3 : z.on.cell? ⟨ab, ao + i * 7 + 3, none⟩ = some (.int .i64 k) := hc 3 _ rfl
              have q4 : z.on.cell? ⟨ab, ao + i * 7 + 4, none⟩ = some (.string key) := hc 4 _ rfl
              have q5 : z.on.cell? ⟨ab, ao + i * 7 + 5, none⟩ = some (.float .f64 x) := hc 5 _ rfl
              have q6 : z.on.cell? ⟨ab, ao + i * 7 + 6, none⟩ = some (.int .i64 id) := hc 6 _ rfl
              clear hc
              have HTN := Go.Lib.hid hT
              clear hsl hT
              have y0 : q.on.cell? ⟨kt, s, none⟩ = some (.bool (m (s + 1)).isSome) := HB2.out.cell (by have := rowOf_get mo s 1 0 hsm (hasF m) (hasF_len m) (by omega); rw [Nat.mul_one, Nat.add_zero] at this; exact this)
              cases hms : m (s + 1) with
              | none =>
                rw [hms] at y0
                have HG := Go.Lib.hid (HS1.out (by rw [HO.out, hms]))
                clear hms
                have hs0 : (s : Int) < (mo : Int) := by omega
                go_upto_region 24 with fail
                apply wp_region_rel (relR [Mo.is _, Mo.is _, Mo.is _, Mo.is _, Mo.is _, Mo.is _, Mo.is _, Mo.is _, Mo.is _, Mo.is _, Mo.is _, Mo.is _, Mo.is _, Mo.is _, Mo.is _, Mo.is _, Mo.is _]) (by kernel_rfl) (by kernel_rfl) (by kernel_rfl) (relR_mono _) (StepD.all ?st1) ?q1
                case st1 =>
                  refine ⟨?_, ?_, ?_, ?_, ?_, ?_, ?_, ?_, ?_, ?_, ?_, ?_, ?_, ?_, ?_, ?_, ?_, trivial⟩
                  · intro a' w' hx hs hd
                    obtain ⟨y, rfl⟩ := hx.ew
                    have e10 : a'.tmps[10]?.getD undef = _ := hs 10 rfl
                    simp only [List.getElem?_toArray, List.getElem?_cons_succ, List.getElem?_cons_zero, Option.getD_some, Array.getElem?_eq_some_iff] at e10
                    refine .inl ⟨rfl, ?_⟩
                    clear hs hd hx
                    go_simp
                    exact ⟨Ext.refl _ _, rfl⟩
                  · intro a' w' hx hs hd
                    obtain ⟨y, rfl⟩ := hx.ew
                    have e12 : a'.tmps[12]?.getD undef = _ := hs 12 rfl
                    simp only [List.getElem?_toArray, List.getElem?_cons_succ, List.getElem?_cons_zero, Option.getD_some, Array.getElem?_eq_some_iff] at e12
                    refine .inl ⟨rfl, ?_⟩
                    clear hs hd hx
                    go_simp
                    exact ⟨Ext.refl _ _, rfl⟩
                  · intro a' w' hx hs hd
                    obtain ⟨y, rfl⟩ := hx.ew
                    have e92 : a'.tmps[92]?.getD undef = _ := hd 0 92 rfl rfl
                    have e93 : a'.tmps[93]?.getD undef = _ := hd 1 93 rfl rfl
                    refine .inl ⟨rfl, ?_⟩
                    clear hs hd hx
                    go_simp
                    exact ⟨Ext.refl _ _, rfl⟩
                  · intro a' w' hx hs hd
                    obtain ⟨y, rfl⟩ := hx.ew
                    have e94 : a'.tmps[94]?.getD undef = _ := hd 2 94 rfl rfl
                    refine .inl ⟨rfl, ?_⟩
                    clear hs hd hx
                    go_simp
                    exact ⟨Ext.refl _ _, rfl⟩
                  · intro a' w' hx hs hd
                    obtain ⟨y, rfl⟩ := hx.ew
                    have e95 : a'.tmps[95]?.getD undef = _ := hd 3 95 rfl rfl
                    refine .inl ⟨rfl, ?_⟩
                    clear hs hd hx
                    go_simp
                    exact ⟨Ext.refl _ _, rfl⟩
                  · intro a' w' hx hs hd
                    obtain ⟨y, rfl⟩ := hx.ew
                    have eg : a'.tmps[96]?.getD undef = _ := hd 4 96 rfl rfl
                    first
                    | (refine .inr ⟨unwanted_of (j := 4) (d := 96) rfl rfl eg (by rfl), ?_⟩; exact (rfl : (Mo.is undef).p undef y.on))
                    | (refine .inr ⟨unwanted_und (j := 4) (d := 96) rfl rfl eg, ?_⟩; exact (rfl : (Mo.is undef).p undef y.on))
                    | (have e9 : a'.tmps[9]?.getD undef = _ := hs 9 rfl; simp only [List.getElem?_toArray, List.getElem?_cons_succ, List.getElem?_cons_zero, Option.getD_some, Array.getElem?_eq_some_iff] at e9; refine .inl ⟨wanted_of (j := 4) (d := 96) rfl rfl eg, ?_⟩; clear hs hd hx eg; go_simp; exact ⟨Ext.refl _ _, rfl⟩)
                  · intro a' w' hx hs hd
                    obtain ⟨y, rfl⟩ := hx.ew
                    have eg : a'.tmps[96]?.getD undef = _ := hd 4 96 rfl rfl
                    first
                    | (refine .inr ⟨unwanted_of (j := 4) (d := 96) rfl rfl eg (by rfl), ?_⟩; exact (rfl : (Mo.is undef).p undef y.on))
                    | (refine .inr ⟨unwanted_und (j := 4) (d := 96) rfl rfl eg, ?_⟩; exact (rfl : (Mo.is undef).p undef y.on))
                    | (have e12 : a'.tmps[12]?.getD undef = _ := hs 12 rfl; simp only [List.getElem?_toArray, List.getElem?_cons_succ, List.getElem?_cons_zero, Option.getD_some, Array.getElem?_eq_some_iff] at e12; refine .inl ⟨wanted_of (j := 4) (d := 96) rfl rfl eg, ?_⟩; clear hs hd hx eg; go_simp; exact ⟨Ext.refl _ _, rfl⟩)
                  · intro a' w' hx hs hd
                    obtain ⟨y, rfl⟩ := hx.ew
                    have eg : a'.tmps[96]?.getD undef = _ := hd 4 96 rfl rfl
                    first
                    | (refine .inr ⟨unwanted_of (j := 4) (d := 96) rfl rfl eg (by rfl), ?_⟩; exact (rfl : (Mo.is undef).p undef y.on))
                    | (refine .inr ⟨unwanted_und (j := 4) (d := 96) rfl rfl eg, ?_⟩; exact (rfl : (Mo.is undef).p undef y.on))
                    | (have e97 : a'.tmps[97]?.getD undef = _ := hd 5 97 rfl rfl; have e98 : a'.tmps[98]?.getD undef = _ := hd 6 98 rfl rfl; refine .inl ⟨wanted_of (j := 4) (d := 96) rfl rfl eg, ?_⟩; clear hs hd hx eg; go_simp; exact ⟨Ext.refl _ _, rfl⟩)
                  · intro a' w' hx hs hd
                    obtain ⟨y, rfl⟩ := hx.ew
                    have eg : a'.tmps[96]?.getD undef = _ := hd 4 96 rfl rfl
                    first
                    | (refine .inr ⟨unwanted_of (j := 4) (d := 96) rfl rfl eg (by rfl), ?_⟩; exact (rfl : (Mo.is undef).p undef y.on))
                    | (refine .inr ⟨unwanted_und (j := 4) (d := 96) rfl rfl eg, ?_⟩; exact (rfl : (Mo.is undef).p undef y.on))
                    | (have e99 : a'.tmps[99]?.getD undef = _ := hd 7 99 rfl rfl; refine .inl ⟨wanted_of (j := 4) (d := 96) rfl rfl eg, ?_⟩; clear hs hd hx eg; go_simp; exact ⟨Ext.refl _ _, rfl⟩)
                  · intro a' w' hx hs hd
                    obtain ⟨y, rfl⟩ := hx.ew
                    have eg : a'.tmps[96]?.getD undef = _ := hd 4 96 rfl rfl
                    first
                    | (refine .inr ⟨unwanted_of (j := 4) (d := 96) rfl rfl eg (by rfl), ?_⟩; exact (rfl : (Mo.is undef).p undef y.on))
                    | (refine .inr ⟨unwanted_und (j := 4) (d := 96) rfl rfl eg, ?_⟩; exact (rfl : (Mo.is undef).p undef y.on))
                    | (have e4 : a'.tmps[4]?.getD undef = _ := hs 4 rfl; simp only [List.getElem?_toArray, List.getElem?_cons_succ, List.getElem?_cons_zero, Option.getD_some, Array.getElem?_eq_some_iff] at e4; refine .inl ⟨wanted_of (j := 4) (d := 96) rfl rfl eg, ?_⟩; clear hs hd hx eg; go_simp; exact ⟨Ext.refl _ _, rfl⟩)
                  · intro a' w' hx hs hd
                    obtain ⟨y, rfl⟩ := hx.ew
                    have eg : a'.tmps[96]?.getD undef = _ := hd 4 96 rfl rfl
                    first
                    | (refine .inr ⟨unwanted_of (j := 4) (d := 96) rfl rfl eg (by rfl), ?_⟩; exact (rfl : (Mo.is undef).p undef y.on))
                    | (refine .inr ⟨unwanted_und (j := 4) (d := 96) rfl rfl eg, ?_⟩; exact (rfl : (Mo.is undef).p undef y.on))
                    | (have e11 : a'.tmps[11]?.getD undef = _ := hs 11 rfl; simp only [List.getElem?_toArray, List.getElem?_cons_succ, List.getElem?_cons_zero, Option.getD_some, Array.getElem?_eq_some_iff] at e11; refine .inl ⟨wanted_of (j := 4) (d := 96) rfl rfl eg, ?_⟩; clear hs hd hx eg; go_simp; exact ⟨Ext.refl _ _, rfl⟩)
                  · intro a' w' hx hs hd
                    obtain ⟨y, rfl⟩ := hx.ew
                    have eg : a'.tmps[96]?.getD undef = _ := hd 4 96 rfl rfl
                    first
                    | (refine .inr ⟨unwanted_of (j := 4) (d := 96) rfl rfl eg (by rfl), ?_⟩; exact (rfl : (Mo.is undef).p undef y.on))
                    | (refine .inr ⟨unwanted_und (j := 4) (d := 96) rfl rfl eg, ?_⟩; exact (rfl : (Mo.is undef).p undef y.on))
                    | (have e101 : a'.tmps[101]?.getD undef = _ := hd 9 101 rfl rfl; have e102 : a'.tmps[102]?.getD undef = _ := hd 10 102 rfl rfl; refine .inl ⟨wanted_of (j := 4) (d := 96) rfl rfl eg, ?_⟩; clear hs hd hx eg; go_simp; exact ⟨Ext.refl _ _, rfl⟩)
                  · intro a' w' hx hs hd
                    obtain ⟨y, rfl⟩ := hx.ew
                    have eg : a'.tmps[96]?.getD undef = _ := hd 4 96 rfl rfl
                    first
                    | (refine .inr ⟨unwanted_of (j := 4) (d := 96) rfl rfl eg (by rfl), ?_⟩; exact (rfl : (Mo.is undef).p undef y.on))
                    | (refine .inr ⟨unwanted_und (j := 4) (d := 96) rfl rfl eg, ?_⟩; exact (rfl : (Mo.is undef).p undef y.on))
                    | (have e103 : a'.tmps[103]?.getD undef = _ := hd 11 103 rfl rfl; refine .inl ⟨wanted_of (j := 4) (d := 96) rfl rfl eg, ?_⟩; clear hs hd hx eg; go_simp; exact ⟨Ext.refl _ _, rfl⟩)
                  · intro a' w' hx hs hd
                    obtain ⟨y, rfl⟩ := hx.ew
                    have eg : a'.tmps[96]?.getD undef = _ := hd 4 96 rfl rfl
                    first
                    | (refine .inr ⟨unwanted_of (j := 4) (d := 96) rfl rfl eg (by rfl), ?_⟩; exact (rfl : (Mo.is undef).p undef y.on))
                    | (refine .inr ⟨unwanted_und (j := 4) (d := 96) rfl rfl eg, ?_⟩; exact (rfl : (Mo.is undef).p undef y.on))
                    | (have e104 : a'.tmps[104]?.getD undef = _ := hd 12 104 rfl rfl; refine .inl ⟨wanted_of (j := 4) (d := 96) rfl rfl eg, ?_⟩; clear hs hd hx eg; go_simp; exact ⟨Ext.refl _ _, rfl⟩)
                  · intro a' w' hx hs hd
                    obtain ⟨y, rfl⟩ := hx.ew
                    have eg : a'.tmps[96]?.getD undef = _ := hd 4 96 rfl rfl
                    first
                    | (refine .inr ⟨unwanted_of (j := 4) (d := 96) rfl rfl eg (by rfl), ?_⟩; exact (rfl : (Mo.is undef).p undef y.on))
                    | (refine .inr ⟨unwanted_und (j := 4) (d := 96) rfl rfl eg, ?_⟩; exact (rfl : (Mo.is undef).p undef y.on))
                    | (have e100 : a'.tmps[100]?.getD undef = _ := hd 8 100 rfl rfl; have e105 : a'.tmps[105]?.getD undef = _ := hd 13 105 rfl rfl; refine .inl ⟨wanted_of (j := 4) (d := 96) rfl rfl eg, ?_⟩; clear hs hd hx eg; go_simp; fail)
                  · intro a' w' hx hs hd
                    obtain ⟨y, rfl⟩ := hx.ew
                    have eg : a'.tmps[96]?.getD undef = _ := hd 4 96 rfl rfl
                    first
                    | (refine .inr ⟨unwanted_of (j := 4) (d := 96) rfl rfl eg (by rfl), ?_⟩; exact (rfl : (Mo.is undef).p undef y.on))
                    | (refine .inr ⟨unwanted_und (j := 4) (d := 96) rfl rfl eg, ?_⟩; exact (rfl : (Mo.is undef).p undef y.on))
                    | (have e106 : a'.tmps[106]?.getD undef = _ := hd 14 106 rfl rfl; refine .inl ⟨wanted_of (j := 4) (d := 96) rfl rfl eg, ?_⟩; clear hs hd hx eg; go_simp; exact ⟨Ext.refl _ _, rfl⟩)
                  · intro a' w' hx hs hd
                    obtain ⟨y, rfl⟩ := hx.ew
                    have e96 : a'.tmps[96]?.getD undef = _ := hd 4 96 rfl rfl
                    have e107 : a'.tmps[107]?.getD undef = _ := hd 15 107 rfl rfl
                    refine .inl ⟨rfl, ?_⟩
                    clear hs hd hx
                    go_simp
                    exact ⟨Ext.refl _ _, rfl⟩
                case' q1 =>
                  intro vs w' hx hRR
                  obtain ⟨x5, rfl⟩ := hx.ew
                  have q0 : vs 0 = _ := hRR 0 (by decide)
                  have q1 : vs 1 = _ := hRR 1 (by decide)
                  have q2 : vs 2 = _ := hRR 2 (by decide)
                  have q3 : vs 3 = _ := hRR 3 (by decide)
                  have q4 : vs 4 = _ := hRR 4 (by decide)
                  have q5 : vs 5 = _ := hRR 5 (by decide)
                  have q6 : vs 6 = _ := hRR 6 (by decide)
                  have q7 : vs 7 = _ := hRR 7 (by decide)
                  have q8 : vs 8 = _ := hRR 8 (by decide)
                  have q9 : vs 9 = _ := hRR 9 (by decide)
                  have q10 : vs 10 = _ := hRR 10 (by decide)
                  have q11 : vs 11 = _ := hRR 11 (by decide)
                  have q12 : vs 12 = _ := hRR 12 (by decide)
                  have q13 : vs 13 = _ := hRR 13 (by decide)
                  have q14 : vs 14 = _ := hRR 14 (by decide)
                  have q15 : vs 15 = _ := hRR 15 (by decide)
                  have q16 : vs 16 = _ := hRR 16 (by decide)
                  clear hRR hx
                  simp only [putAll, List.take_succ_cons, List.take_zero, List.drop_succ_cons, List.drop_zero, Act.put, List.setIfInBounds_toArray, List.set_cons_zero, List.set_cons_succ, Nat.reduceAdd, Nat.zero_add]
                  simp only [q0, q1, q2, q3, q4, q5, q6, q7, q8, q9, q10, q11, q12, q13, q14, q15, q16]
                  clear q0 q1 q2 q3 q4 q5 q6 q7 q8 q9 q10 q11 q12 q13 q14 q15 q16 vs
                have hB1 := HB1.out.extN x5.ext
                have hB2 := HB2.out.extN x5.ext
                have X5 : Ext Non z.on x5.on := by (repeat (first | with_reducible exact Ext.refl _ _ | assumption | with_reducible refine Ext.upN ?_ | with_reducible refine Ext.alloc ?_ _ | with_reducible refine Ext.upA (by assumption) ?_ | with_reducible refine Ext.upW ?_ | with_reducible refine Ext.drew ?_ | with_reducible refine Ext.drewN ?_ _ | with_reducible refine Ext.upF ?_ | with_reducible refine Ext.upFF (by first | omega | simp) ?_ | with_reducible refine Ext.setCellsF _ _ _ (by first | omega | simp) ?_ | with_reducible refine Ext.setCellF _ _ _ (by first | omega | simp) ?_ | with_reducible refine Ext.upFN (by first | omega | simp) ?_ | with_reducible refine Ext.up1F (by first | omega | simp) ?_ | with_reducible refine Ext.up1N (by first | omega | simp) ?_ | with_reducible refine Ext.setCell ?_ (.inr (by first | omega | simp)) _ | refine Ext.alloc ?_ _ | refine Ext.setCellF _ _ _ (by first | omega | simp) ?_ | refine Ext.setCell ?_ (.inr (by first | omega | simp)) _))
                obtain ⟨p5, hp5⟩ := X5.ew
                rw [hp5] at hB1 hB2 ⊢
                clear hp5 X5 y0
                have HB1a := Go.Lib.hid hB1; have HB2a := Go.Lib.hid hB2
                clear hB1 hB2
                go_upto_region 27 with (refine wpList_store_row rfl 37 _ _ rfl kl mo s 6 (reqF m) (reqF_len m) hsm [.int .i64 c, .int .i64 st, .int .i64 k, .string key, .float .f64 x, .int .i64 id] _ rfl rfl HB1a.out rfl info_req10 (by simp [Value.oneCell']) (fun W3 hW => ?_); have HW3 := Go.Lib.hid hW; clear hW)
                have hB1 := HW3.out (reqF (putE m ⟨sl, ⟨c, st, ⟨k, key, x, id⟩⟩⟩)) (reqF_len _) (fun j hj => by unfold reqF; rw [putE_other m _ HTN.out hj]) (by unfold reqF; rw [putE_same m _ HTN.out]; rfl)
                have hB2 := HB2a.out.ext W3.ext (fun e => by unfold One at e; omega)
                have X6 : Ext Non z.on W3.on := by (repeat (first | with_reducible exact Ext.refl _ _ | assumption | with_reducible refine Ext.upN ?_ | with_reducible refine Ext.alloc ?_ _ | with_reducible refine Ext.upA (by assumption) ?_ | with_reducible refine Ext.upW ?_ | with_reducible refine Ext.drew ?_ | with_reducible refine Ext.drewN ?_ _ | with_reducible refine Ext.upF ?_ | with_reducible refine Ext.upFF (by first | omega | simp) ?_ | with_reducible refine Ext.setCellsF _ _ _ (by first | omega | simp) ?_ | with_reducible refine Ext.setCellF _ _ _ (by first | omega | simp) ?_ | with_reducible refine Ext.upFN (by first | omega | simp) ?_ | with_reducible refine Ext.up1F (by first | omega | simp) ?_ | with_reducible refine Ext.up1N (by first | omega | simp) ?_ | with_reducible refine Ext.setCell ?_ (.inr (by first | omega | simp)) _ | refine Ext.alloc ?_ _ | refine Ext.setCellF _ _ _ (by first | omega | simp) ?_ | refine Ext.setCell ?_ (.inr (by first | omega | simp)) _))
                obtain ⟨p6, hp6⟩ := X6.ew
                rw [hp6] at hB1 hB2 ⊢
                clear hp6 X6 HW3 W3 HB1a HB2a
                have HB1b := Go.Lib.hid hB1; have HB2b := Go.Lib.hid hB2
                clear hB1 hB2
                obtain ⟨vo, hvo⟩ : ∃ vo, vo = Value.bool (m (s + 1)).isSome := ⟨_, rfl⟩
                have y6 : p6.on.cell? ⟨kt, s, none⟩ = some vo := by rw [hvo]; exact HB2b.out.cell (by have := rowOf_get mo s 1 0 hsm (hasF m) (hasF_len m) (by omega); rw [Nat.mul_one, Nat.add_zero] at this; exact this)
                have f6 : p6.on.frozen? ⟨kt, s, none⟩ = false := froz_of_heap HB2b.out.h
                clear hvo
                go_wp2_with fail
                have hB2 := HB2b.out.set (j := s) (.bool true)
                rw [has_set m ⟨sl, ⟨c, st, ⟨k, key, x, id⟩⟩⟩ HTN.out hsm] at hB2
                have hB1 := HB1b.out.ext ((Ext.refl _ _).set1 _ : Ext (One kt) p6.on (p6.on.setCell ⟨kt, s, none⟩ (.bool true))) (fun e => by unfold One at e; omega)
                have hzt : z.on.heap.size ≤ kt := by omega
                have X7 : Ext Non z.on (p6.on.setCell ⟨kt, s, none⟩ (.bool true)) := by (repeat (first | with_reducible exact Ext.refl _ _ | assumption | with_reducible refine Ext.upN ?_ | with_reducible refine Ext.alloc ?_ _ | with_reducible refine Ext.upA (by assumption) ?_ | with_reducible refine Ext.upW ?_ | with_reducible refine Ext.drew ?_ | with_reducible refine Ext.drewN ?_ _ | with_reducible refine Ext.upF ?_ | with_reducible refine Ext.upFF (by first | omega | simp) ?_ | with_reducible refine Ext.setCellsF _ _ _ (by first | omega | simp) ?_ | with_reducible refine Ext.setCellF _ _ _ (by first | omega | simp) ?_ | with_reducible refine Ext.upFN (by first | omega | simp) ?_ | with_reducible refine Ext.up1F (by first | omega | simp) ?_ | with_reducible refine Ext.up1N (by first | omega | simp) ?_ | with_reducible refine Ext.setCell ?_ (.inr (by first | omega | simp)) _ | refine Ext.alloc ?_ _ | refine Ext.setCellF _ _ _ (by first | omega | simp) ?_ | refine Ext.setCell ?_ (.inr (by first | omega | simp)) _))
                have HB1c := Go.Lib.hid hB1; have HB2c := Go.Lib.hid hB2
                clear hB1 hB2
                have HMR2 : Hid (∀ j r, putE m ⟨sl, ⟨c, st, ⟨k, key, x, id⟩⟩⟩ j = some r → ReqOk r) := Go.Lib.hid (fun j r h => by
                  unfold putE at h
                  split at h
                  · injection h with h; rw [← h]; exact HR.out
                  · exact HMR.out j r h)
                go_roundg (l.length - (i + 1))
                case measure => have := HN.out; omega
                case rel => exact ⟨i + 1, _, ⟨_, X7⟩, hlt, rfl, by go_num, rfl, HB1c, HB2c, HG, HMR2⟩
              | some r =>
                rw [hms] at y0
                have HRR := Go.Lib.hid (HMR.out _ _ hms)
                have hget : ∀ i, i < 6 → (rowOf mo (reqF m))[s * 6 + i]? = (r.cells)[i]? := fun i hi => by
                  rw [rowOf_get mo s 6 i hsm (reqF m) (reqF_len m) hi]; unfold reqF; rw [hms]; rfl
                have HOS : Hid (okPut m ⟨sl, ⟨c, st, ⟨k, key, x, id⟩⟩⟩ = sameT r ⟨c, st, ⟨k, key, x, id⟩⟩) := Go.Lib.hid (by rw [HO.out, hms])
                clear hms
                obtain ⟨rc, rst, ⟨rk, rkey, rx, rid⟩⟩ := r
                have z0 : q.on.cell? ⟨kl, s * 6, none⟩ = some (.int .i64 rc) := HB1.out.cell (hget 0 (by omega))
                have z1 : q.on.cell? ⟨kl, s * 6 + 1, none⟩ = some (.int .i64 rst) := HB1.out.cell (hget 1 (by omega))
                have z2 : q.on.cell? ⟨kl, s * 6 + 2, none⟩ = some (.int .i64 rk) := HB1.out.cell (hget 2 (by omega))
                have z3 : q.on.cell? ⟨kl, s * 6 + 3, none⟩ = some (.string rkey) := HB1.out.cell (hget 3 (by omega))
                have z4 : q.on.cell? ⟨kl, s * 6 + 4, none⟩ = some (.float .f64 rx) := HB1.out.cell (hget 4 (by omega))
                have z5 : q.on.cell? ⟨kl, s * 6 + 5, none⟩ = some (.int .i64 rid) := HB1.out.cell (hget 5 (by omega))
                clear hget
                have hs0 : (s : Int) < (mo : Int) := by omega
                go_upto_region 24 with fail
                apply wp_region_rel (relR [Mo.is _, Mo.is _, Mo.is _, Mo.is _, Mo.is _, Mo.is _, Mo.is _, Mo.is _, Mo.is _, Mo.is _, Mo.is _, Mo.is _, Mo.is _, Mo.is _, Mo.is _, Mo.is _, Mo.is _]) (by kernel_rfl) (by kernel_rfl) (by kernel_rfl) (relR_mono _) (StepD.all ?st2) ?q2
                case st2 =>
                  refine ⟨?_, ?_, ?_, ?_, ?_, ?_, ?_, ?_, ?_, ?_, ?_, ?_, ?_, ?_, ?_, ?_, ?_, trivial⟩
                  · intro a' w' hx hs hd
                    obtain ⟨y, rfl⟩ := hx.ew
                    have e10 : a'.tmps[10]?.getD undef = _ := hs 10 rfl
                    simp only [List.getElem?_toArray, List.getElem?_cons_succ, List.getElem?_cons_zero, Option.getD_some, Array.getElem?_eq_some_iff] at e10
                    refine .inl ⟨rfl, ?_⟩
                    clear hs hd hx
                    go_simp
                    exact ⟨Ext.refl _ _, rfl⟩
                  · intro a' w' hx hs hd
                    obtain ⟨y, rfl⟩ := hx.ew
                    have e12 : a'.tmps[12]?.getD undef = _ := hs 12 rfl
                    simp only [List.getElem?_toArray, List.getElem?_cons_succ, List.getElem?_cons_zero, Option.getD_some, Array.getElem?_eq_some_iff] at e12
                    refine .inl ⟨rfl, ?_⟩
                    clear hs hd hx
                    go_simp
                    exact ⟨Ext.refl _ _, rfl⟩
                  · intro a' w' hx hs hd
                    obtain ⟨y, rfl⟩ := hx.ew
                    have e92 : a'.tmps[92]?.getD undef = _ := hd 0 92 rfl rfl
                    have e93 : a'.tmps[93]?.getD undef = _ := hd 1 93 rfl rfl
                    refine .inl ⟨rfl, ?_⟩
                    clear hs hd hx
                    go_simp
                    exact ⟨Ext.refl _ _, rfl⟩
                  · intro a' w' hx hs hd
                    obtain ⟨y, rfl⟩ := hx.ew
                    have e94 : a'.tmps[94]?.getD undef = _ := hd 2 94 rfl rfl
                    refine .inl ⟨rfl, ?_⟩
                    clear hs hd hx
                    go_simp
                    exact ⟨Ext.refl _ _, rfl⟩
                  · intro a' w' hx hs hd
                    obtain ⟨y, rfl⟩ := hx.ew
                    have e95 : a'.tmps[95]?.getD undef = _ := hd 3 95 rfl rfl
                    refine .inl ⟨rfl, ?_⟩
                    clear hs hd hx
                    go_simp
                    exact ⟨Ext.refl _ _, rfl⟩
                  · intro a' w' hx hs hd
                    obtain ⟨y, rfl⟩ := hx.ew
                    have eg : a'.tmps[96]?.getD undef = _ := hd 4 96 rfl rfl
                    first
                    | (refine .inr ⟨unwanted_of (j := 4) (d := 96) rfl rfl eg (by rfl), ?_⟩; exact (rfl : (Mo.is undef).p undef y.on))
                    | (refine .inr ⟨unwanted_und (j := 4) (d := 96) rfl rfl eg, ?_⟩; exact (rfl : (Mo.is undef).p undef y.on))
                    | (have e9 : a'.tmps[9]?.getD undef = _ := hs 9 rfl; simp only [List.getElem?_toArray, List.getElem?_cons_succ, List.getElem?_cons_zero, Option.getD_some, Array.getElem?_eq_some_iff] at e9; refine .inl ⟨wanted_of (j := 4) (d := 96) rfl rfl eg, ?_⟩; clear hs hd hx eg; go_simp; exact ⟨Ext.refl _ _, rfl⟩)
                  · intro a' w' hx hs hd
                    obtain ⟨y, rfl⟩ := hx.ew
                    have eg : a'.tmps[96]?.getD undef = _ := hd 4 96 rfl rfl
                    first
                    | (refine .inr ⟨unwanted_of (j := 4) (d := 96) rfl rfl eg (by rfl), ?_⟩; exact (rfl : (Mo.is undef).p undef y.on))
                    | (refine .inr ⟨unwanted_und (j := 4) (d := 96) rfl rfl eg, ?_⟩; exact (rfl : (Mo.is undef).p undef y.on))
                    | (have e12 : a'.tmps[12]?.getD undef = _ := hs 12 rfl; simp only [List.getElem?_toArray, List.getElem?_cons_succ, List.getElem?_cons_zero, Option.getD_some, Array.getElem?_eq_some_iff] at e12; refine .inl ⟨wanted_of (j := 4) (d := 96) rfl rfl eg, ?_⟩; clear hs hd hx eg; go_simp; exact ⟨Ext.refl _ _, rfl⟩)
                  · intro a' w' hx hs hd
                    obtain ⟨y, rfl⟩ := hx.ew
                    have eg : a'.tmps[96]?.getD undef = _ := hd 4 96 rfl rfl
                    first
                    | (refine .inr ⟨unwanted_of (j := 4) (d := 96) rfl rfl eg (by rfl), ?_⟩; exact (rfl : (Mo.is undef).p undef y.on))
                    | (refine .inr ⟨unwanted_und (j := 4) (d := 96) rfl rfl eg, ?_⟩; exact (rfl : (Mo.is undef).p undef y.on))
                    | (have e97 : a'.tmps[97]?.getD undef = _ := hd 5 97 rfl rfl; have e98 : a'.tmps[98]?.getD undef = _ := hd 6 98 rfl rfl; refine .inl ⟨wanted_of (j := 4) (d := 96) rfl rfl eg, ?_⟩; clear hs hd hx eg; go_simp; exact ⟨Ext.refl _ _, rfl⟩)
                  · intro a' w' hx hs hd
                    obtain ⟨y, rfl⟩ := hx.ew
                    have eg : a'.tmps[96]?.getD undef = _ := hd 4 96 rfl rfl
                    first
                    | (refine .inr ⟨unwanted_of (j := 4) (d := 96) rfl rfl eg (by rfl), ?_⟩; exact (rfl : (Mo.is undef).p undef y.on))
                    | (refine .inr ⟨unwanted_und (j := 4) (d := 96) rfl rfl eg, ?_⟩; exact (rfl : (Mo.is undef).p undef y.on))
                    | (have e99 : a'.tmps[99]?.getD undef = _ := hd 7 99 rfl rfl; refine .inl ⟨wanted_of (j := 4) (d := 96) rfl rfl eg, ?_⟩; clear hs hd hx eg; go_simp; exact ⟨Ext.refl _ _, rfl⟩)
                  · intro a' w' hx hs hd
                    obtain ⟨y, rfl⟩ := hx.ew
                    have eg : a'.tmps[96]?.getD undef = _ := hd 4 96 rfl rfl
                    first
                    | (refine .inr ⟨unwanted_of (j := 4) (d := 96) rfl rfl eg (by rfl), ?_⟩; exact (rfl : (Mo.is undef).p undef y.on))
                    | (refine .inr ⟨unwanted_und (j := 4) (d := 96) rfl rfl eg, ?_⟩; exact (rfl : (Mo.is undef).p undef y.on))
                    | (have e4 : a'.tmps[4]?.getD undef = _ := hs 4 rfl; simp only [List.getElem?_toArray, List.getElem?_cons_succ, List.getElem?_cons_zero, Option.getD_some, Array.getElem?_eq_some_iff] at e4; refine .inl ⟨wanted_of (j := 4) (d := 96) rfl rfl eg, ?_⟩; clear hs hd hx eg; go_simp; exact ⟨Ext.refl _ _, rfl⟩)
                  · intro a' w' hx hs hd
                    obtain ⟨y, rfl⟩ := hx.ew
                    have eg : a'.tmps[96]?.getD undef = _ := hd 4 96 rfl rfl
                    first
                    | (refine .inr ⟨unwanted_of (j := 4) (d := 96) rfl rfl eg (by rfl), ?_⟩; exact (rfl : (Mo.is undef).p undef y.on))
                    | (refine .inr ⟨unwanted_und (j := 4) (d := 96) rfl rfl eg, ?_⟩; exact (rfl : (Mo.is undef).p undef y.on))
                    | (have e11 : a'.tmps[11]?.getD undef = _ := hs 11 rfl; simp only [List.getElem?_toArray, List.getElem?_cons_succ, List.getElem?_cons_zero, Option.getD_some, Array.getElem?_eq_some_iff] at e11; refine .inl ⟨wanted_of (j := 4) (d := 96) rfl rfl eg, ?_⟩; clear hs hd hx eg; go_simp; exact ⟨Ext.refl _ _, rfl⟩)
                  · intro a' w' hx hs hd
                    obtain ⟨y, rfl⟩ := hx.ew
                    have eg : a'.tmps[96]?.getD undef = _ := hd 4 96 rfl rfl
                    first
                    | (refine .inr ⟨unwanted_of (j := 4) (d := 96) rfl rfl eg (by rfl), ?_⟩; exact (rfl : (Mo.is undef).p undef y.on))
                    | (refine .inr ⟨unwanted_und (j := 4) (d := 96) rfl rfl eg, ?_⟩; exact (rfl : (Mo.is undef).p undef y.on))
                    | (have e101 : a'.tmps[101]?.getD undef = _ := hd 9 101 rfl rfl; have e102 : a'.tmps[102]?.getD undef = _ := hd 10 102 rfl rfl; refine .inl ⟨wanted_of (j := 4) (d := 96) rfl rfl eg, ?_⟩; clear hs hd hx eg; go_simp; exact ⟨Ext.refl _ _, rfl⟩)
                  · intro a' w' hx hs hd
                    obtain ⟨y, rfl⟩ := hx.ew
                    have eg : a'.tmps[96]?.getD undef = _ := hd 4 96 rfl rfl
                    first
                    | (refine .inr ⟨unwanted_of (j := 4) (d := 96) rfl rfl eg (by rfl), ?_⟩; exact (rfl : (Mo.is undef).p undef y.on))
                    | (refine .inr ⟨unwanted_und (j := 4) (d := 96) rfl rfl eg, ?_⟩; exact (rfl : (Mo.is undef).p undef y.on))
                    | (have e103 : a'.tmps[103]?.getD undef = _ := hd 11 103 rfl rfl; refine .inl ⟨wanted_of (j := 4) (d := 96) rfl rfl eg, ?_⟩; clear hs hd hx eg; go_simp; exact ⟨Ext.refl _ _, rfl⟩)
                  · intro a' w' hx hs hd
                    obtain ⟨y, rfl⟩ := hx.ew
                    have eg : a'.tmps[96]?.getD undef = _ := hd 4 96 rfl rfl
                    first
                    | (refine .inr ⟨unwanted_of (j := 4) (d := 96) rfl rfl eg (by rfl), ?_⟩; exact (rfl : (Mo.is undef).p undef y.on))
                    | (refine .inr ⟨unwanted_und (j := 4) (d := 96) rfl rfl eg, ?_⟩; exact (rfl : (Mo.is undef).p undef y.on))
                    | (have e104 : a'.tmps[104]?.getD undef = _ := hd 12 104 rfl rfl; refine .inl ⟨wanted_of (j := 4) (d := 96) rfl rfl eg, ?_⟩; clear hs hd hx eg; go_simp; exact ⟨Ext.refl _ _, rfl⟩)
                  · intro a' w' hx hs hd
                    obtain ⟨y, rfl⟩ := hx.ew
                    have eg : a'.tmps[96]?.getD undef = _ := hd 4 96 rfl rfl
                    first
                    | (refine .inr ⟨unwanted_of (j := 4) (d := 96) rfl rfl eg (by rfl), ?_⟩; exact (rfl : (Mo.is undef).p undef y.on))
                    | (refine .inr ⟨unwanted_und (j := 4) (d := 96) rfl rfl eg, ?_⟩; exact (rfl : (Mo.is undef).p undef y.on))
                    | (have e100 : a'.tmps[100]?.getD undef = _ := hd 8 100 rfl rfl; have e105 : a'.tmps[105]?.getD undef = _ := hd 13 105 rfl rfl; refine .inl ⟨wanted_of (j := 4) (d := 96) rfl rfl eg, ?_⟩; clear hs hd hx eg; go_simp; exact (ref11_Same rc rst rk rkey rx rid c st k key x id HRR.out HR.out _).mono (fun e w'' ⟨he, hx⟩ => ⟨_, he, hx, rfl⟩))
                  · intro a' w' hx hs hd
                    obtain ⟨y, rfl⟩ := hx.ew
                    have eg : a'.tmps[96]?.getD undef = _ := hd 4 96 rfl rfl
                    first
                    | (refine .inr ⟨unwanted_of (j := 4) (d := 96) rfl rfl eg (by rfl), ?_⟩; exact (rfl : (Mo.is undef).p undef y.on))
                    | (refine .inr ⟨unwanted_und (j := 4) (d := 96) rfl rfl eg, ?_⟩; exact (rfl : (Mo.is undef).p undef y.on))
                    | (have e106 : a'.tmps[106]?.getD undef = _ := hd 14 106 rfl rfl; refine .inl ⟨wanted_of (j := 4) (d := 96) rfl rfl eg, ?_⟩; clear hs hd hx eg; go_simp; exact ⟨Ext.refl _ _, rfl⟩)
                  · intro a' w' hx hs hd
                    obtain ⟨y, rfl⟩ := hx.ew
                    have e96 : a'.tmps[96]?.getD undef = _ := hd 4 96 rfl rfl
                    have e107 : a'.tmps[107]?.getD undef = _ := hd 15 107 rfl rfl
                    refine .inl ⟨rfl, ?_⟩
                    clear hs hd hx
                    go_simp
                    exact ⟨Ext.refl _ _, rfl⟩
                case' q2 =>
                  intro vs w' hx hRR
                  obtain ⟨x5, rfl⟩ := hx.ew
                  have q0 : vs 0 = _ := hRR 0 (by decide)
                  have q1 : vs 1 = _ := hRR 1 (by decide)
                  have q2 : vs 2 = _ := hRR 2 (by decide)
                  have q3 : vs 3 = _ := hRR 3 (by decide)
                  have q4 : vs 4 = _ := hRR 4 (by decide)
                  have q5 : vs 5 = _ := hRR 5 (by decide)
                  have q6 : vs 6 = _ := hRR 6 (by decide)
                  have q7 : vs 7 = _ := hRR 7 (by decide)
                  have q8 : vs 8 = _ := hRR 8 (by decide)
                  have q9 : vs 9 = _ := hRR 9 (by decide)
                  have q10 : vs 10 = _ := hRR 10 (by decide)
                  have q11 : vs 11 = _ := hRR 11 (by decide)
                  have q12 : vs 12 = _ := hRR 12 (by decide)
                  have q13 : vs 13 = _ := hRR 13 (by decide)
                  have q14 : vs 14 = _ := hRR 14 (by decide)
                  have q15 : vs 15 = _ := hRR 15 (by decide)
                  have q16 : vs 16 = _ := hRR 16 (by decide)
                  clear hRR hx
                  simp only [putAll, List.take_succ_cons, List.take_zero, List.drop_succ_cons, List.drop_zero, Act.put, List.setIfInBounds_toArray, List.set_cons_zero, List.set_cons_succ, Nat.reduceAdd, Nat.zero_add]
                  simp only [q0, q1, q2, q3, q4, q5, q6, q7, q8, q9, q10, q11, q12, q13, q14, q15, q16]
                  clear q0 q1 q2 q3 q4 q5 q6 q7 q8 q9 q10 q11 q12 q13 q14 q15 q16 vs
                clear z0 z1 z2 z3 z4 z5
                cases hsmm : sameT ⟨rc, rst, ⟨rk, rkey, rx, rid⟩⟩ ⟨c, st, ⟨k, key, x, id⟩⟩
                · have H2 := Go.Lib.hid (HS2.out (HOS.out.trans hsmm))
                  clear hsmm
                  go_wp2
                  go_returns
                  have e1 := H2.out.1
                  refine ⟨.slice none 0 0, by rw [e1]; rfl, ?_, by (repeat (first | with_reducible exact Ext.refl _ _ | assumption | with_reducible refine Ext.upN ?_ | with_reducible refine Ext.alloc ?_ _ | with_reducible refine Ext.upA (by assumption) ?_ | with_reducible refine Ext.upW ?_ | with_reducible refine Ext.drew ?_ | with_reducible refine Ext.drewN ?_ _ | with_reducible refine Ext.upF ?_ | with_reducible refine Ext.upFF (by first | omega | simp) ?_ | with_reducible refine Ext.setCellsF _ _ _ (by first | omega | simp) ?_ | with_reducible refine Ext.setCellF _ _ _ (by first | omega | simp) ?_ | with_reducible refine Ext.upFN (by first | omega | simp) ?_ | with_reducible refine Ext.up1F (by first | omega | simp) ?_ | with_reducible refine Ext.up1N (by first | omega | simp) ?_ | with_reducible refine Ext.setCell ?_ (.inr (by first | omega | simp)) _ | refine Ext.alloc ?_ _ | refine Ext.setCellF _ _ _ (by first | omega | simp) ?_ | refine Ext.setCell ?_ (.inr (by first | omega | simp)) _))⟩
                  rw [H2.out.2]
                  exact World.ownsRow_nil _ _ _ _
                have HG := Go.Lib.hid (HS1.out (HOS.out.trans hsmm))
                clear hsmm
                have hB1 := HB1.out.extN x5.ext
                have hB2 := HB2.out.extN x5.ext
                have X5 : Ext Non z.on x5.on := by (repeat (first | with_reducible exact Ext.refl _ _ | assumption | with_reducible refine Ext.upN ?_ | with_reducible refine Ext.alloc ?_ _ | with_reducible refine Ext.upA (by assumption) ?_ | with_reducible refine Ext.upW ?_ | with_reducible refine Ext.drew ?_ | with_reducible refine Ext.drewN ?_ _ | with_reducible refine Ext.upF ?_ | with_reducible refine Ext.upFF (by first | omega | simp) ?_ | with_reducible refine Ext.setCellsF _ _ _ (by first | omega | simp) ?_ | with_reducible refine Ext.setCellF _ _ _ (by first | omega | simp) ?_ | with_reducible refine Ext.upFN (by first | omega | simp) ?_ | with_reducible refine Ext.up1F (by first | omega | simp) ?_ | with_reducible refine Ext.up1N (by first | omega | simp) ?_ | with_reducible refine Ext.setCell ?_ (.inr (by first | omega | simp)) _ | refine Ext.alloc ?_ _ | refine Ext.setCellF _ _ _ (by first | omega | simp) ?_ | refine Ext.setCell ?_ (.inr (by first | omega | simp)) _))
                obtain ⟨p5, hp5⟩ := X5.ew
                rw [hp5] at hB1 hB2 ⊢
                clear hp5 X5 y0
                have HB1a := Go.Lib.hid hB1; have HB2a := Go.Lib.hid hB2
                clear hB1 hB2
                go_upto_region 27 with (refine wpList_store_row rfl 37 _ _ rfl kl mo s 6 (reqF m) (reqF_len m) hsm [.int .i64 c, .int .i64 st, .int .i64 k, .string key, .float .f64 x, .int .i64 id] _ rfl rfl HB1a.out rfl info_req10 (by simp [Value.oneCell']) (fun W3 hW => ?_); have HW3 := Go.Lib.hid hW; clear hW)
                have hB1 := HW3.out (reqF (putE m ⟨sl, ⟨c, st, ⟨k, key, x, id⟩⟩⟩)) (reqF_len _) (fun j hj => by unfold reqF; rw [putE_other m _ HTN.out hj]) (by unfold reqF; rw [putE_same m _ HTN.out]; rfl)
                have hB2 := HB2a.out.ext W3.ext (fun e => by unfold One at e; omega)
                have X6 : Ext Non z.on W3.on := by (repeat (first | with_reducible exact Ext.refl _ _ | assumption | with_reducible refine Ext.upN ?_ | with_reducible refine Ext.alloc ?_ _ | with_reducible refine Ext.upA (by assumption) ?_ | with_reducible refine Ext.upW ?_ | with_reducible refine Ext.drew ?_ | with_reducible refine Ext.drewN ?_ _ | with_reducible refine Ext.upF ?_ | with_reducible refine Ext.upFF (by first | omega | simp) ?_ | with_reducible refine Ext.setCellsF _ _ _ (by first | omega | simp) ?_ | with_reducible refine Ext.setCellF _ _ _ (by first | omega | simp) ?_ | with_reducible refine Ext.upFN (by first | omega | simp) ?_ | with_reducible refine Ext.up1F (by first | omega | simp) ?_ | with_reducible refine Ext.up1N (by first | omega | simp) ?_ | with_reducible refine Ext.setCell ?_ (.inr (by first | omega | simp)) _ | refine Ext.alloc ?_ _ | refine Ext.setCellF _ _ _ (by first | omega | simp) ?_ | refine Ext.setCell ?_ (.inr (by first | omega | simp)) _))
                obtain ⟨p6, hp6⟩ := X6.ew
                rw [hp6] at hB1 hB2 ⊢
                clear hp6 X6 HW3 W3 HB1a HB2a
                have HB1b := Go.Lib.hid hB1; have HB2b := Go.Lib.hid hB2
                clear hB1 hB2
                obtain ⟨vo, hvo⟩ : ∃ vo, vo = Value.bool (m (s + 1)).isSome := ⟨_, rfl⟩
                have y6 : p6.on.cell? ⟨kt, s, none⟩ = some vo := by rw [hvo]; exact HB2b.out.cell (by have := rowOf_get mo s 1 0 hsm (hasF m) (hasF_len m) (by omega); rw [Nat.mul_one, Nat.add_zero] at this; exact this)
                have f6 : p6.on.frozen? ⟨kt, s, none⟩ = false := froz_of_heap HB2b.out.h
                clear hvo
                go_wp2_with fail
                have hB2 := HB2b.out.set (j := s) (.bool true)
                rw [has_set m ⟨sl, ⟨c, st, ⟨k, key, x, id⟩⟩⟩ HTN.out hsm] at hB2
                have hB1 := HB1b.out.ext ((Ext.refl _ _).set1 _ : Ext (One kt) p6.on (p6.on.setCell ⟨kt, s, none⟩ (.bool true))) (fun e => by unfold One at e; omega)
                have hzt : z.on.heap.size ≤ kt := by omega
                have X7 : Ext Non z.on (p6.on.setCell ⟨kt, s, none⟩ (.bool true)) := by (repeat (first | with_reducible exact Ext.refl _ _ | assumption | with_reducible refine Ext.upN ?_ | with_reducible refine Ext.alloc ?_ _ | with_reducible refine Ext.upA (by assumption) ?_ | with_reducible refine Ext.upW ?_ | with_reducible refine Ext.drew ?_ | with_reducible refine Ext.drewN ?_ _ | with_reducible refine Ext.upF ?_ | with_reducible refine Ext.upFF (by first | omega | simp) ?_ | with_reducible refine Ext.setCellsF _ _ _ (by first | omega | simp) ?_ | with_reducible refine Ext.setCellF _ _ _ (by first | omega | simp) ?_ | with_reducible refine Ext.upFN (by first | omega | simp) ?_ | with_reducible refine Ext.up1F (by first | omega | simp) ?_ | with_reducible refine Ext.up1N (by first | omega | simp) ?_ | with_reducible refine Ext.setCell ?_ (.inr (by first | omega | simp)) _ | refine Ext.alloc ?_ _ | refine Ext.setCellF _ _ _ (by first | omega | simp) ?_ | refine Ext.setCell ?_ (.inr (by first | omega | simp)) _))
                have HB1c := Go.Lib.hid hB1; have HB2c := Go.Lib.hid hB2
                clear hB1 hB2
                have HMR2 : Hid (∀ j r, putE m ⟨sl, ⟨c, st, ⟨k, key, x, id⟩⟩⟩ j = some r → ReqOk r) := Go.Lib.hid (fun j r h => by
                  unfold putE at h
                  split at h
                  · injection h with h; rw [← h]; exact HR.out
                  · exact HMR.out j r h)
                go_roundg (l.length - (i + 1))
                case measure => have := HN.out; omega
                case rel => exact ⟨i + 1, _, ⟨_, X7⟩, hlt, rfl, by go_num, rfl, HB1c, HB2c, HG, HMR2⟩
            · obtain rfl : i = l.length := by omega
              have hf := HF.out
              rw [List.drop_length] at hf
              have HMG : Hid (mergeE l = (if fullT m mo = true then 0 else 8)) := Go.Lib.hid (by unfold mergeE; rw [if_pos HC.out, hf, HMO.out]; rfl)
              have HMS : Hid (fullT m mo = true → mergeL l = listT m mo) := Go.Lib.hid (fun e => by
                have e0 : mergeE l = 0 := by rw [HMG.out, if_pos e]
                unfold mergeL
                rw [if_pos e0, hf, HMO.out]; rfl)
              have HMN : Hid (fullT m mo = false → mergeE l = 8 ∧ mergeL l = []) := Go.Lib.hid (fun e => by
                have e0 : mergeE l = 8 := by rw [HMG.out, if_neg (by rw [e]; simp)]
                exact ⟨e0, by unfold mergeL; rw [if_neg (by rw [e0]; decide)]⟩)
              clear hf HF
              go_wp2_with fail
              go_loopg [13] mo (fun n iv wr => ∃ (j : Nat) (p : EW Non q.on), j ≤ mo ∧ n = mo - j ∧ iv = .int .i64 j ∧ wr = p.on ∧ Hid (fullT m j = true))
              case atStart => exact ⟨0, ⟨_, by (repeat (first | with_reducible exact Ext.refl _ _ | assumption | with_reducible refine Ext.upN ?_ | with_reducible refine Ext.alloc ?_ _ | with_reducible refine Ext.upA (by assumption) ?_ | with_reducible refine Ext.upW ?_ | with_reducible refine Ext.drew ?_ | with_reducible refine Ext.drewN ?_ _ | with_reducible refine Ext.upF ?_ | with_reducible refine Ext.upFF (by first | omega | simp) ?_ | with_reducible refine Ext.setCellsF _ _ _ (by first | omega | simp) ?_ | with_reducible refine Ext.setCellF _ _ _ (by first | omega | simp) ?_ | with_reducible refine Ext.upFN (by first | omega | simp) ?_ | with_reducible refine Ext.up1F (by first | omega | simp) ?_ | with_reducible refine Ext.up1N (by first | omega | simp) ?_ | with_reducible refine Ext.setCell ?_ (.inr (by first | omega | simp)) _ | refine Ext.alloc ?_ _ | refine Ext.setCellF _ _ _ (by first | omega | simp) ?_ | refine Ext.setCell ?_ (.inr (by first | omega | simp)) _))⟩, Nat.zero_le _, rfl, rfl, rfl, Go.Lib.hid rfl⟩
              case round =>
                obtain ⟨j, p, hj, hjn, rfl, rfl, HFU⟩ := hrel
                have HJ := Go.Lib.hid hjn; clear hjn
                by_cases hjl : j < mo
                · have y0 : q.on.cell? ⟨kt, j, none⟩ = some (.bool (m (j + 1)).isSome) := HB2.out.cell (by have := rowOf_get mo j 1 0 hjl (hasF m) (hasF_len m) (by omega); rw [Nat.mul_one, Nat.add_zero] at this; exact this)
                  cases hms : m (j + 1) with
                  | none =>
                    rw [hms] at y0
                    have H2 := Go.Lib.hid (HMN.out (full_not m hjl hms))
                    clear hms
                    go_wp2
                    go_returns
                    have e1 := H2.out.1
                    refine ⟨.slice none 0 0, by rw [e1]; rfl, ?_, by (repeat (first | with_reducible exact Ext.refl _ _ | assumption | with_reducible refine Ext.upN ?_ | with_reducible refine Ext.alloc ?_ _ | with_reducible refine Ext.upA (by assumption) ?_ | with_reducible refine Ext.upW ?_ | with_reducible refine Ext.drew ?_ | with_reducible refine Ext.drewN ?_ _ | with_reducible refine Ext.upF ?_ | with_reducible refine Ext.upFF (by first | omega | simp) ?_ | with_reducible refine Ext.setCellsF _ _ _ (by first | omega | simp) ?_ | with_reducible refine Ext.setCellF _ _ _ (by first | omega | simp) ?_ | with_reducible refine Ext.upFN (by first | omega | simp) ?_ | with_reducible refine Ext.up1F (by first | omega | simp) ?_ | with_reducible refine Ext.up1N (by first | omega | simp) ?_ | with_reducible refine Ext.setCell ?_ (.inr (by first | omega | simp)) _ | refine Ext.alloc ?_ _ | refine Ext.setCellF _ _ _ (by first | omega | simp) ?_ | refine Ext.setCell ?_ (.inr (by first | omega | simp)) _))⟩
                    rw [H2.out.2]
                    exact World.ownsRow_nil _ _ _ _
                  | some r =>
                    rw [hms] at y0
                    have HF2 : Hid (fullT m (j + 1) = true) := Go.Lib.hid (by rw [full_succ, HFU.out, hms]; rfl)
                    clear hms
                    go_wp2_with fail
                    go_roundg (mo - (j + 1))
                    case measure => have := HJ.out; omega
                    case rel => exact ⟨j + 1, ⟨_, by (repeat (first | with_reducible exact Ext.refl _ _ | assumption | with_reducible refine Ext.upN ?_ | with_reducible refine Ext.alloc ?_ _ | with_reducible refine Ext.upA (by assumption) ?_ | with_reducible refine Ext.upW ?_ | with_reducible refine Ext.drew ?_ | with_reducible refine Ext.drewN ?_ _ | with_reducible refine Ext.upF ?_ | with_reducible refine Ext.upFF (by first | omega | simp) ?_ | with_reducible refine Ext.setCellsF _ _ _ (by first | omega | simp) ?_ | with_reducible refine Ext.setCellF _ _ _ (by first | omega | simp) ?_ | with_reducible refine Ext.upFN (by first | omega | simp) ?_ | with_reducible refine Ext.up1F (by first | omega | simp) ?_ | with_reducible refine Ext.up1N (by first | omega | simp) ?_ | with_reducible refine Ext.setCell ?_ (.inr (by first | omega | simp)) _ | refine Ext.alloc ?_ _ | refine Ext.setCellF _ _ _ (by first | omega | simp) ?_ | refine Ext.setCell ?_ (.inr (by first | omega | simp)) _))⟩, hjl, rfl, by go_num, rfl, HF2⟩
                · obtain rfl : j = mo := by omega
                  have e0 := HMG.out
                  rw [if_pos HFU.out] at e0
                  have E0 := Go.Lib.hid e0
                  have E1 := Go.Lib.hid (HMS.out HFU.out)
                  clear e0
                  go_wp2
                  go_returns
                  have e0 := E0.out
                  refine ⟨.slice (some ⟨kl, 0, none⟩) j j, by rw [e0]; rfl, ?_, by (repeat (first | with_reducible exact Ext.refl _ _ | assumption | with_reducible refine Ext.upN ?_ | with_reducible refine Ext.alloc ?_ _ | with_reducible refine Ext.upA (by assumption) ?_ | with_reducible refine Ext.upW ?_ | with_reducible refine Ext.drew ?_ | with_reducible refine Ext.drewN ?_ _ | with_reducible refine Ext.upF ?_ | with_reducible refine Ext.upFF (by first | omega | simp) ?_ | with_reducible refine Ext.setCellsF _ _ _ (by first | omega | simp) ?_ | with_reducible refine Ext.setCellF _ _ _ (by first | omega | simp) ?_ | with_reducible refine Ext.upFN (by first | omega | simp) ?_ | with_reducible refine Ext.up1F (by first | omega | simp) ?_ | with_reducible refine Ext.up1N (by first | omega | simp) ?_ | with_reducible refine Ext.setCell ?_ (.inr (by first | omega | simp)) _ | refine Ext.alloc ?_ _ | refine Ext.setCellF _ _ _ (by first | omega | simp) ?_ | refine Ext.setCell ?_ (.inr (by first | omega | simp)) _))⟩
                  obtain ⟨g1, g2⟩ := rowOf_full m j HFU.out
                  have hB := HB1.out.extN p.ext
                  rw [g1] at hB
                  rw [E1.out, g2]
                  have hlen := rowOf_len j 6 (reqF m) (reqF_len m)
                  rw [g1] at hlen
                  exact ⟨hlen, .inr ⟨kl, j, _, rfl, by have := z.ext.size; omega, hB.h, Nat.le_refl _, by unfold maxLen; omega, by simpa using hlen, by show List.take _ (List.flatMap Req.cells (listT m j)) = _; rw [← hlen, List.take_length]⟩⟩
end Go.Proofs.Ytekbonciafbjiaa
