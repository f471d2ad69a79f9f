/- Layer 16: the arrays in which change.Pick keeps the best certificates; rows of requests. -/
import Derived.Test.YtakbkpklfihfiaaBest16
import Derived.Test.YtakbkpklfihfiaaCheck16
import Derived.Test.YtakbkpklfihfiaaEw4
namespace Go.Proofs.Ytakbkpklfihfiaa
open Go.RowKit Go.Lib F64
set_option linter.unusedSimpArgs false
set_option linter.unusedVariables false

def reqCells (l : List Req) : List Value := l.flatMap Req.cells
theorem reqCells_snoc (l : List Req) (r : Req) : reqCells (l ++ [r]) = reqCells l ++ r.cells := by simp [reqCells]
theorem info_req : (Try.prog.info? 49).map (fun i => (i.zero, i.size, i.bytes)) = some (some (.agg #[.int .i64 0, .int .i64 0, .int .i64 0, .string ByteArray.empty, .float .f64 0, .int .i64 0]), 6, 56) := by kernel_rfl
/-- The arrays, when the certificates of P have been seen. -/
structure BestW (ep : Int) (w : World) (kb kt : Nat) (P : List Ct) : Prop where
  rows : ∀ n, n < 4 → ∃ sa scap, w.rangeAt kb (n * 9) ((ctOf (bestC (slotN ep n) P)).cells sa scap)
  there : w.there kb 0 36
  flag : ∀ n, n < 4 → w.cell? ⟨kt, n, none⟩ = some (.bool (bestC (slotN ep n) P).isSome) ∧ w.frozen? ⟨kt, n, none⟩ = false
theorem BestW.ext {S : Nat → Prop} {ep : Int} {w w' : World} {kb kt : Nat} {P : List Ct} (h : BestW ep w kb kt P) (x : Ext S w w') (hb : ¬ S kb) (ht : ¬ S kt) : BestW ep w' kb kt P :=
  ⟨fun n hn => by obtain ⟨sa, scap, r⟩ := h.rows n hn; exact ⟨sa, scap, range_ext r x hb⟩, there_ext h.there x hb,
   fun n hn => by
    obtain ⟨h1, h2⟩ := h.flag n hn
    exact ⟨(x.cell (p := ⟨kt, n, none⟩) (lt_of_cell h1) ht).trans h1, (x.froz (p := ⟨kt, n, none⟩) (lt_of_cell h1) ht).trans h2⟩⟩
theorem stepB_other {slot : Int} {o : Option Ct} {x : Ct} (h : x.slot ≠ slot) : stepB slot o x = o := by unfold stepB; rw [if_neg h]
theorem slotN_inj {ep : Int} {n m : Nat} (h : slotN ep n = slotN ep m) : n = m := by unfold slotN at h; omega
theorem BestW.init {ep : Int} {w : World} {kb kt : Nat} {t t' : TypeId} (hb : Bx w kb ((default : Ct).cells none 0 ++ ((default : Ct).cells none 0 ++ ((default : Ct).cells none 0 ++ (default : Ct).cells none 0))) t) (ht : Bx w kt [.bool false, .bool false, .bool false, .bool false] t') : BestW ep w kb kt [] := by
  refine ⟨fun n hn => ⟨none, 0, fun j v hv => ?_⟩, hb.there rfl, fun n hn => ?_⟩
  · have hj : j < 9 := (List.getElem?_eq_some_iff.1 hv).1
    have hv' : ((default : Ct).cells none 0)[j]? = some v := hv
    clear hv
    have h4 : n = 0 ∨ n = 1 ∨ n = 2 ∨ n = 3 := by omega
    have h9 : j = 0 ∨ j = 1 ∨ j = 2 ∨ j = 3 ∨ j = 4 ∨ j = 5 ∨ j = 6 ∨ j = 7 ∨ j = 8 := by omega
    rcases h4 with rfl | rfl | rfl | rfl <;> rcases h9 with rfl | rfl | rfl | rfl | rfl | rfl | rfl | rfl | rfl <;> (injection hv' with hv'; subst hv'; exact hb.cell rfl)
  · have h4 : n = 0 ∨ n = 1 ∨ n = 2 ∨ n = 3 := by omega
    rcases h4 with rfl | rfl | rfl | rfl <;> exact ⟨ht.cell rfl, froz_of_heap ht.h⟩
theorem certsTo_zero (l : List Ch) : certsTo l 0 0 = [] := by unfold certsTo; simp
theorem lastC_zero (ep : Int) (l : List Ch) : lastC ep (certsTo l 0 0) = 0 := by rw [certsTo_zero]; rfl
theorem BestW.start {ep : Int} {w : World} {t t' : TypeId} (l : List Ch) : BestW ep ((w.alloc (.cells ((default : Ct).cells none 0 ++ ((default : Ct).cells none 0 ++ ((default : Ct).cells none 0 ++ (default : Ct).cells none 0))).toArray t)).alloc (.cells [.bool false, .bool false, .bool false, .bool false].toArray t')) w.heap.size (w.heap.size + 1) (certsTo l 0 0) := by
  rw [certsTo_zero]
  exact BestW.init ((Bx.new _ _ _).alloc _) (Bx.newAt _ _ _ _ (by simp))
/-- Nothing new. -/
theorem BestW.same {ep : Int} {w : World} {kb kt : Nat} {P : List Ct} (h : BestW ep w kb kt P) (x : Ct) (n0 : Nat) (hx : x.slot = slotN ep n0) (hs : stepB (slotN ep n0) (bestC (slotN ep n0) P) x = bestC (slotN ep n0) P) : BestW ep w kb kt (P ++ [x]) := by
  have e : ∀ n, bestC (slotN ep n) (P ++ [x]) = bestC (slotN ep n) P := fun n => by
    rw [best_snoc]
    by_cases hn : n = n0
    · subst hn; exact hs
    · exact stepB_other (fun q => hn (slotN_inj (q.symm.trans hx)))
  exact ⟨fun n hn => by rw [e]; exact h.rows n hn, h.there, fun n hn => by rw [e]; exact h.flag n hn⟩
/-- A better one. -/
theorem BestW.put {ep : Int} {w W w' : World} {kb kt : Nat} {P : List Ct} (h : BestW ep w kb kt P) (x : Ct) (n0 : Nat) (hn0 : n0 < 4) (hx : x.slot = slotN ep n0) (hs : stepB (slotN ep n0) (bestC (slotN ep n0) P) x = some x)
    (sa : Option Addr) (scap : Nat) (hr : W.rangeAt kb (n0 * 9) (x.cells sa scap)) (ho : ∀ o' cs, o' + cs.length ≤ n0 * 9 ∨ n0 * 9 + 9 ≤ o' → w.rangeAt kb o' cs → W.rangeAt kb o' cs) (ht : ∀ o' n, w.there kb o' n → W.there kb o' n)
    (xx : Ext (One kb) w W) (hk : kb ≠ kt) (hw : w' = W.setCell ⟨kt, n0, none⟩ (.bool true)) : BestW ep w' kb kt (P ++ [x]) := by
  have e : ∀ n, n ≠ n0 → bestC (slotN ep n) (P ++ [x]) = bestC (slotN ep n) P := fun n hn => by
    rw [best_snoc]
    exact stepB_other (fun q => hn (slotN_inj (q.symm.trans hx)))
  have e0 : bestC (slotN ep n0) (P ++ [x]) = some x := by rw [best_snoc]; exact hs
  have fl : ∀ n, n < 4 → W.cell? ⟨kt, n, none⟩ = some (.bool (bestC (slotN ep n) P).isSome) ∧ W.frozen? ⟨kt, n, none⟩ = false := fun n hn => by
    obtain ⟨h1, h2⟩ := h.flag n hn
    exact ⟨(xx.cell (p := ⟨kt, n, none⟩) (lt_of_cell h1) (fun f => hk f.symm)).trans h1, (xx.froz (p := ⟨kt, n, none⟩) (lt_of_cell h1) (fun f => hk f.symm)).trans h2⟩
  subst hw
  have y : Ext (One kt) W (W.setCell ⟨kt, n0, none⟩ (.bool true)) := (Ext.refl _ _).set1 _
  refine ⟨fun n hn => ?_, there_ext (ht _ _ h.there) y (fun f => hk f), fun n hn => ?_⟩
  · by_cases q : n = n0
    · subst q
      rw [e0]
      exact ⟨sa, scap, range_ext hr y (fun f => hk f)⟩
    · obtain ⟨sa', scap', r⟩ := h.rows n hn
      rw [e n q]
      refine ⟨sa', scap', range_ext (ho _ _ ?_ r) y (fun f => hk f)⟩
      have : ((ctOf (bestC (slotN ep n) P)).cells sa' scap').length = 9 := rfl
      omega
  · obtain ⟨h1, h2⟩ := fl n hn
    by_cases q : n = n0
    · subst q
      rw [e0]
      exact ⟨World.cell?_setCell_same _ _ _ h1, by rw [World.frozen?_setCell]; exact h2⟩
    · rw [e n q]
      refine ⟨?_, by rw [World.frozen?_setCell]; exact h2⟩
      rw [World.cell?_setCell_other (h := fun f => q (by injection f with _ f; exact f.symm))]
      exact h1
theorem isSome_snoc (slot : Int) (P : List Ct) (x : Ct) : (bestC slot (P ++ [x])).isSome = ((bestC slot P).isSome || decide (x.slot = slot)) := by
  rw [best_snoc]
  unfold stepB
  cases h : bestC slot P with
  | none => by_cases e : x.slot = slot <;> simp [e]
  | some y => by_cases e : x.slot = slot <;> by_cases g : y.view < x.view <;> simp [e, g]
theorem lastC_snoc (ep : Int) (P : List Ct) (x : Ct) (n0 : Nat) (hn0 : n0 < 4) (hx : x.slot = slotN ep n0) : lastC ep (P ++ [x]) = max (lastC ep P) (n0 + 1) := by
  have e : ∀ n, (bestC (slotN ep n) (P ++ [x])).isSome = ((bestC (slotN ep n) P).isSome || decide (n = n0)) := fun n => by
    rw [isSome_snoc, hx]
    congr 1
    by_cases h : n = n0
    · subst h; simp
    · rw [decide_eq_false h, decide_eq_false (fun q => h (slotN_inj q).symm)]
  unfold lastC
  rw [e, e, e, e]
  generalize (bestC (slotN ep 0) P).isSome = b0
  generalize (bestC (slotN ep 1) P).isSome = b1
  generalize (bestC (slotN ep 2) P).isSome = b2
  generalize (bestC (slotN ep 3) P).isSome = b3
  have : n0 = 0 ∨ n0 = 1 ∨ n0 = 2 ∨ n0 = 3 := by omega
  rcases this with rfl | rfl | rfl | rfl <;> cases b0 <;> cases b1 <;> cases b2 <;> cases b3 <;> rfl
theorem lastC_le (ep : Int) (P : List Ct) : lastC ep P ≤ 4 := by unfold lastC; split <;> (try omega); split <;> (try omega); split <;> (try omega); split <;> omega
/-- Where a list is picked from, each certificate is of the epoch. -/
theorem certs_slot (ep : Int) : ∀ (l : List Ct) (last : Int), certsB ep last l = true → ∀ x ∈ l, slotB ep x.slot = true
  | [], _, _, x, hx => (List.not_mem_nil hx).elim
  | y :: t, last, h, x, hx => by
    simp only [certsB, Bool.and_eq_true] at h
    rcases List.mem_cons.1 hx with rfl | hx
    · have := h.1
      simp only [fitsB, headB, Bool.and_eq_true] at this
      exact this.1.1.1.1.1.2
    · exact certs_slot ep t _ h.2 x hx
theorem right_may {ep : Int} {xs : List Int} {c : Ch} (h : rightE ep xs c = 0) : confB ep xs = true ∧ mayB ep c = true := by
  unfold rightE at h
  by_cases h1 : confB ep xs = true
  · refine ⟨h1, ?_⟩
    rw [if_pos h1] at h
    by_cases h2 : chE ep c = 0
    · unfold chE at h2
      by_cases h3 : mayB ep c = true
      · exact h3
      · rw [if_neg h3] at h2; omega
    · rw [if_neg h2] at h; exact absurd h h2
  · rw [if_neg h1] at h; omega
theorem rights_all {ep : Int} {xs : List Int} : ∀ (l : List Ch), rightsE ep xs l = 0 → ∀ c ∈ l, rightE ep xs c = 0
  | [], _, c, hc => (List.not_mem_nil hc).elim
  | y :: t, h, c, hc => by
    unfold rightsE at h
    by_cases h1 : rightE ep xs y = 0
    · rw [if_pos h1] at h
      rcases List.mem_cons.1 hc with rfl | hc
      · exact h1
      · exact rights_all t h c hc
    · rw [if_neg h1] at h; exact absurd h h1
theorem check_parts {ep : Int} {xs : List Int} {view : Int} {l : List Ch} (h : checkE ep xs view l = 0) : confB ep xs = true ∧ viewsB view l = true ∧ rightsE ep xs l = 0 ∧ riseB (-1) l = true ∧ quorumI xs.length ≤ l.length := by
  unfold checkE at h
  by_cases h1 : confB ep xs = true
  · rw [if_pos h1] at h
    by_cases h2 : viewsB view l = true
    · rw [if_pos h2] at h
      by_cases h3 : rightsE ep xs l = 0
      · rw [if_pos h3] at h
        by_cases h4 : riseB (-1) l = true
        · rw [if_pos h4] at h
          by_cases h5 : (l.length : Int) < quorumI xs.length
          · rw [if_pos h5] at h; omega
          · exact ⟨h1, h2, h3, h4, by omega⟩
        · rw [if_neg h4] at h; omega
      · rw [if_neg h3] at h; exact absurd h h3
    · rw [if_neg h2] at h; omega
  · rw [if_neg h1] at h; omega
theorem check_slots {ep : Int} {xs : List Int} {view : Int} {l : List Ch} (h : checkE ep xs view l = 0) (c : Ch) (hc : c ∈ l) (x : Ct) (hx : x ∈ c.certs) : ∃ n, n < 4 ∧ x.slot = slotN ep n := by
  have hr := rights_all l (check_parts h).2.2.1 c hc
  have hm := (right_may hr).2
  unfold mayB at hm
  rw [Bool.and_eq_true] at hm
  have hs := certs_slot ep c.certs 0 hm.2 x hx
  unfold slotB at hs
  simp only [Bool.and_eq_true, decide_eq_true_eq] at hs
  exact ⟨(x.slot - (4 * ep + 1)).toNat, by omega, by unfold slotN; omega⟩
theorem conf_ep {ep : Int} {xs : List Int} (h : confB ep xs = true) : 0 ≤ ep ∧ ep ≤ 60 := by
  unfold confB at h
  simp only [Bool.and_eq_true, decide_eq_true_eq] at h
  exact h.1
def pickL (ep : Int) (xs : List Int) (view : Int) (l : List Ch) : List Req := if checkE ep xs view l = 0 then pickR ep l else []
theorem ctOf_req (o : Option Ct) : (ctOf o).req = reqOf o := by cases o <;> rfl
theorem pickR_length (ep : Int) (l : List Ch) : (pickR ep l).length = lastC ep (l.flatMap (·.certs)) := by unfold pickR; simp
theorem pickR_take (ep : Int) (l : List Ch) (k : Nat) (h : k < lastC ep (l.flatMap (·.certs))) : (pickR ep l).take (k + 1) = (pickR ep l).take k ++ [reqOf (bestC (slotN ep k) (l.flatMap (·.certs)))] := by
  unfold pickR
  rw [← List.map_take, ← List.map_take, List.take_range, List.take_range, Nat.min_eq_left (by omega), Nat.min_eq_left (by omega), List.range_succ, List.map_append]
  rfl
theorem rise_start {ep : Int} {xs : List Int} {l : List Ch} (h : rightsE ep xs l = 0) (hl : 0 < l.length) : riseB (-1) l = riseB (chAt l (1 - 1)).from_ (l.drop 1) := by
  have hd := riseB_drop (-1) l 0 hl
  rw [List.drop_zero] at hd
  rw [hd]
  have hm := (right_may (rights_all l h (chAt l 0) (by rw [chAt_get hl]; exact List.getElem_mem hl))).2
  unfold mayB topB at hm
  simp only [Bool.and_eq_true, decide_eq_true_eq] at hm
  rw [decide_eq_true (show (-1 : Int) < (chAt l 0).from_ by omega)]
  rfl
def lastTo (ep : Int) (P : List Ct) : Nat → Nat
  | 0 => 0
  | k + 1 => if (bestC (slotN ep k) P).isSome then k + 1 else lastTo ep P k
theorem lastTo_four (ep : Int) (P : List Ct) : lastTo ep P 4 = lastC ep P := rfl
theorem lastTo_le (ep : Int) (P : List Ct) : ∀ k, lastTo ep P k ≤ k
  | 0 => Nat.le_refl _
  | k + 1 => by unfold lastTo; split; exact Nat.le_refl _; have := lastTo_le ep P k; omega
end Go.Proofs.Ytakbkpklfihfiaa
