/- Two logs of one view agree (plain): who prepares what is told once; quorums meet in one who isn't bad. No program in sight. -/
import Derived.Test.YtakbkpklfihfiaaSlotsI2
namespace Go.Proofs.Ytakbkpklfihfiaa
open F64
set_option linter.unusedVariables false
set_option linter.unusedSimpArgs false

theorem sameT_symm {a b : Req} (h : sameT a b = true) : sameT b a = true := by
  unfold sameT at h ⊢
  simp only [Bool.and_eq_true, beq_iff_eq] at h ⊢
  exact ⟨⟨h.1.2, h.1.1⟩, h.2.symm⟩
theorem sameT_trans {a b c : Req} (h : sameT a b = true) (k : sameT b c = true) : sameT a c = true := by
  unfold sameT at h k ⊢
  simp only [Bool.and_eq_true, beq_iff_eq] at h k ⊢
  exact ⟨⟨h.1.1, k.1.2⟩, h.2.trans k.2⟩
/-- What a member prepared in a slot at first. -/
def firstN (said : List Stp) (f n : Int) : Option Stp := said.find? (fun x => decide (x.from_ = f) && decide (x.slot = n))
/-- A step with another's question. -/
def askOf (o p : Stp) : Stp := ⟨o.kind, o.from_, o.slot, o.view, p.c, p.s, p.k, p.key, p.b, p.id, o.wrong⟩
def tellsB (bad : List Int) (o : Stp) : Bool := decide (kindN o.kind = 2) && !hasB bad o.from_
def doneO (bad : List Int) (said : List Stp) (o : Stp) : Stp := if tellsB bad o = true then (match firstN said o.from_ o.slot with | some p => askOf o p | none => o) else o
def saidO (bad : List Int) (said : List Stp) (o : Stp) : List Stp := if tellsB bad o = true then (match firstN said o.from_ o.slot with | some _ => said | none => said ++ [o]) else said
/-- What holds of a slot: who isn't bad prepared what it said at first; each signature of a certificate is one who prepared its request. -/
structure AgS (bad : List Int) (said : List Stp) (n : Int) (s : Sl) : Prop where
  pr : ∀ p ∈ s.prep, hasB bad p.1 = false → ∃ q, firstN said p.1 n = some q ∧ p.2.req = q.req
  by_ : ∀ p ∈ s.prep, p.2.by_ = p.1
  ce : ∀ c, s.cert = some c → ∀ x ∈ c.sigs, ∃ v, (x.by_, v) ∈ s.prep ∧ sameT v.req c.req = true
def AgG (bad : List Int) (said : List Stp) (g : Lo) : Prop := ∀ i : Nat, i < 4 → AgS bad said (4 * g.ep + 1 + i) (g.sl i)
theorem newLo_ag (bad : List Int) (ep : Int) (ms : List Int) : AgG bad [] (newLo ep ms) := fun i _ =>
  ⟨fun p hp => absurd hp (List.not_mem_nil), fun p hp => absurd hp (List.not_mem_nil), fun c hc => absurd hc.symm (by show ¬ some c = none; simp)⟩
theorem first_app {said : List Stp} {f n : Int} {q : Stp} (o : Stp) (h : firstN said f n = some q) : firstN (said ++ [o]) f n = some q := by
  unfold firstN at h ⊢
  rw [List.find?_append, h]; rfl
theorem AgS.app {bad : List Int} {said : List Stp} {n : Int} {s : Sl} (h : AgS bad said n s) (o : Stp) : AgS bad (said ++ [o]) n s :=
  ⟨fun p hp hb => by
    obtain ⟨q, e, r⟩ := h.pr p hp hb
    exact ⟨q, first_app o e, r⟩, h.by_, h.ce⟩
theorem AgG.said {bad : List Int} {said : List Stp} {g : Lo} (h : AgG bad said g) (o : Stp) : AgG bad (saidO bad said o) g := fun i hi => by
  unfold saidO
  split
  · split
    · exact h i hi
    · exact (h i hi).app o
  · exact h i hi
theorem agreeG_mem {votes : List (Int × Vt)} {r : Req} (hb : ∀ p ∈ votes, p.2.by_ = p.1) {ms : List Int} {x : Sg} (h : x ∈ agreeG votes r ms) : ∃ v, (x.by_, v) ∈ votes ∧ sameT v.req r = true := by
  unfold agreeG at h
  obtain ⟨m, _, e⟩ := List.mem_filterMap.1 h
  unfold sigFor at e
  cases hg : getG votes m with
  | none => rw [hg] at e; cases e
  | some v =>
    rw [hg] at e
    simp only at e
    split at e
    · rename_i hs
      injection e with e
      have hm := getG_mem hg
      have h1 := hb _ hm
      subst e
      refine ⟨v, ?_, hs⟩
      show (v.by_, v) ∈ votes
      have : v.by_ = m := h1
      rw [this]; exact hm
    · cases e
theorem lookS_ag {bad : List Int} {said : List Stp} {n : Int} {s : Sl} (ms : List Int) (view : Int) (h : AgS bad said n s) : AgS bad said n (lookS ms view n s) := by
  unfold lookS
  split
  · refine ⟨h.pr, h.by_, ?_⟩
    have hnew : ∀ c : Ct, (⟨view, n, s.prop.getD nullR, agreeO s.prep s.prop ms⟩ : Ct) = c → ∀ x ∈ c.sigs, ∃ v, (x.by_, v) ∈ s.prep ∧ sameT v.req c.req = true := by
      intro c e
      subst e
      intro x hx
      cases hp : s.prop with
      | none => rw [hp] at hx; exact absurd hx (List.not_mem_nil)
      | some r =>
        rw [hp] at hx
        exact agreeG_mem h.by_ hx
    intro c hc
    simp only at hc
    split at hc
    · injection hc with hc; exact hnew c hc
    · split at hc
      · injection hc with hc; exact hnew c hc
      · rename_i c0 hc0 _
        injection hc with hc; subst hc
        exact h.ce c0 hc0
  · exact h
theorem putS_ag {bad : List Int} {said : List Stp} {g : Lo} {i : Nat} {s : Sl} (h : AgG bad said g) (hs : AgS bad said (4 * g.ep + 1 + i) s) : AgG bad said (putS g i s) := fun j hj => by
  show AgS bad said (4 * g.ep + 1 + j) (if j = i then s else g.sl j)
  split
  · rename_i e; rw [e]; exact hs
  · exact h j hj
theorem propose_ag {bad : List Int} {said : List Stp} {g : Lo} (h : AgG bad said g) (n : Int) (r : Req) : AgG bad said (proposeG g n r) := by
  unfold proposeG
  split
  · cases hi : idxN g.ep n with
    | none => exact h
    | some i =>
      obtain ⟨h4, hn⟩ := idxN_lt hi
      refine putS_ag h ?_
      have q := h i h4
      rw [← hn] at q ⊢
      exact lookS_ag _ _ ⟨q.pr, q.by_, q.ce⟩
  · exact h
theorem commit_ag {bad : List Int} {said : List Stp} {g : Lo} (h : AgG bad said g) (id n : Int) (r : Req) : AgG bad said (commitG g id n r) := by
  unfold commitG
  split
  · cases hi : idxN g.ep n with
    | none => exact h
    | some i =>
      obtain ⟨h4, hn⟩ := idxN_lt hi
      refine putS_ag h ?_
      have q := h i h4
      rw [← hn] at q ⊢
      exact lookS_ag _ _ ⟨q.pr, q.by_, q.ce⟩
  · exact h
theorem prepare_ag {bad : List Int} {said : List Stp} {g : Lo} (h : AgG bad said g) (id n : Int) (r : Req) (text : ByteArray) (hs : hasB bad id = false → ∃ q, firstN said id n = some q ∧ r = q.req) : AgG bad said (prepareG g id n r id text) := by
  unfold prepareG
  split
  · rename_i he
    cases hi : idxN g.ep n with
    | none => exact h
    | some i =>
      obtain ⟨h4, hn⟩ := idxN_lt hi
      unfold prepareE at he
      rw [hi] at he
      simp only at he
      by_cases a1 : askedB r = true
      · rw [if_pos a1] at he
        by_cases a2 : hasB g.mem id = true
        · rw [if_pos a2] at he
          by_cases a3 : True ∧ text = prepS g.ep g.view n r
          · rw [if_pos a3] at he
            by_cases a4 : hasG (g.sl i).prep id = true
            · rw [if_pos a4] at he; cases he
            · have hno : hasG (g.sl i).prep id = false := by simpa using a4
              refine putS_ag h ?_
              have q := h i h4
              rw [← hn] at q ⊢
              refine lookS_ag _ _ ⟨fun p hp hb => ?_, fun p hp => ?_, fun c hc x hx => ?_⟩
              · rcases set_mem hno hp with hp | rfl
                · exact q.pr p hp hb
                · exact hs hb
              · rcases set_mem hno hp with hp | rfl
                · exact q.by_ p hp
                · rfl
              · obtain ⟨v, hv, e⟩ := q.ce c hc x hx
                refine ⟨v, ?_, e⟩
                show (x.by_, v) ∈ setG (g.sl i).prep id _
                rw [setG_new _ hno]
                exact List.mem_append_left _ hv
          · rw [if_neg a3] at he; cases he
        · rw [if_neg a2] at he; cases he
      · rw [if_neg a1] at he; cases he
  · exact h
theorem done_parts (bad : List Int) (said : List Stp) (o : Stp) : (doneO bad said o).kind = o.kind ∧ (doneO bad said o).from_ = o.from_ ∧ (doneO bad said o).slot = o.slot ∧ (doneO bad said o).view = o.view ∧ (doneO bad said o).wrong = o.wrong := by
  unfold doneO
  split
  · split
    · exact ⟨rfl, rfl, rfl, rfl, rfl⟩
    · exact ⟨rfl, rfl, rfl, rfl, rfl⟩
  · exact ⟨rfl, rfl, rfl, rfl, rfl⟩
theorem step_ag {bad : List Int} {said : List Stp} {g : Lo} (h : AgG bad said g) (ep : Int) (o : Stp) (hk : kindN o.kind ≠ 0) : AgG bad (saidO bad said o) (stepG g ep (doneO bad said o)) := by
  have h' := h.said o
  obtain ⟨p1, p2, p3, p4, p5⟩ := done_parts bad said o
  unfold stepG
  rw [p1, p2, p3, if_neg hk]
  split
  · exact propose_ag h' _ _
  · split
    · rename_i h2
      refine prepare_ag h' _ _ _ _ (fun hb => ?_)
      have ht : tellsB bad o = true := by unfold tellsB; rw [hb, decide_eq_true h2]; rfl
      unfold saidO doneO
      rw [if_pos ht, if_pos ht]
      cases hf : firstN said o.from_ o.slot with
      | some q => exact ⟨q, hf, rfl⟩
      | none =>
        refine ⟨o, ?_, rfl⟩
        unfold firstN at hf ⊢
        rw [List.find?_append, hf]
        simp
    · exact commit_ag h' _ _ _
theorem chain_rises (xs : List Int) (t : ByteArray) : ∀ (l : List Sg) (last : Int), chainB xs t last l = true → (l.map (·.by_)).Pairwise (· < ·) ∧ ∀ s ∈ l, last < s.by_ ∧ s.by_ ∈ xs
  | [], _, _ => ⟨List.Pairwise.nil, fun s hs => absurd hs (List.not_mem_nil)⟩
  | x :: l, last, h => by
    unfold chainB at h
    simp only [Bool.and_eq_true, decide_eq_true_eq] at h
    obtain ⟨⟨⟨h1, h2⟩, h3⟩, h4⟩ := h
    obtain ⟨i1, i2⟩ := chain_rises xs t l x.by_ h4
    refine ⟨?_, fun s hs => ?_⟩
    · rw [List.map_cons, List.pairwise_cons]
      refine ⟨fun y hy => ?_, i1⟩
      obtain ⟨s, hs, rfl⟩ := List.mem_map.1 hy
      exact (i2 s hs).1
    · rcases List.mem_cons.1 hs with rfl | hs
      · exact ⟨h2, (hasB_iff _ _).1 h3⟩
      · exact ⟨by have := (i2 s hs).1; omega, (i2 s hs).2⟩
theorem split_len (p : Int → Bool) (l : List Int) : (l.filter p).length + (l.filter (fun x => !p x)).length = l.length := by
  induction l with
  | nil => rfl
  | cons a t ih => cases h : p a <;> simp [List.filter_cons, h] <;> omega
/-- Two quorums meet in one who isn't bad. -/
theorem quorums_meet {ms X Y : List Int} (bad : List Int) (h4 : 4 ≤ ms.length) (h10 : ms.length ≤ 10) (hn : ms.Nodup) (hX : X.Nodup) (hY : Y.Nodup) (hXm : ∀ x ∈ X, x ∈ ms) (hYm : ∀ x ∈ Y, x ∈ ms)
    (qX : quorumI ms.length ≤ X.length) (qY : quorumI ms.length ≤ Y.length) (hb : ((ms.filter (fun x => hasB bad x)).length : Int) ≤ faultsI ms.length) : ∃ m, m ∈ X ∧ m ∈ Y ∧ hasB bad m = false := by
  obtain ⟨Q, hQ⟩ : ∃ Q : Nat, quorumI ms.length = Q := ⟨(quorumI ms.length).toNat, by unfold quorumI faultsI; rw [if_neg (by omega), if_neg (by omega)]; omega⟩
  obtain ⟨a1, a2, a3⟩ := quorum_facts h4 h10 hQ
  refine Classical.byContradiction fun hno => ?_
  have hno' : ∀ m, m ∈ X → m ∈ Y → hasB bad m = false → False := fun m h1 h2 h3 => hno ⟨m, h1, h2, h3⟩
  have sX := split_len (fun x => hasB bad x) X
  have sY := split_len (fun x => hasB bad x) Y
  have sM := split_len (fun x => hasB bad x) ms
  have bX : (X.filter (fun x => hasB bad x)).length ≤ (ms.filter (fun x => hasB bad x)).length := nodup_sub _ _ (hX.filter _) (fun x hx => by
    obtain ⟨k1, k2⟩ := List.mem_filter.1 hx
    exact List.mem_filter.2 ⟨hXm x k1, k2⟩)
  have bY : (Y.filter (fun x => hasB bad x)).length ≤ (ms.filter (fun x => hasB bad x)).length := nodup_sub _ _ (hY.filter _) (fun x hx => by
    obtain ⟨k1, k2⟩ := List.mem_filter.1 hx
    exact List.mem_filter.2 ⟨hYm x k1, k2⟩)
  have both : (X.filter (fun x => !hasB bad x) ++ Y.filter (fun x => !hasB bad x)).length ≤ (ms.filter (fun x => !hasB bad x)).length := nodup_sub _ _ (List.nodup_append.2 ⟨hX.filter _, hY.filter _, fun a ha b hb' e => by
    obtain ⟨k1, k2⟩ := List.mem_filter.1 ha
    obtain ⟨k3, k4⟩ := List.mem_filter.1 hb'
    subst e
    exact hno' a k1 k3 (by simpa using k2)⟩) (fun x hx => by
    rcases List.mem_append.1 hx with hx | hx
    · obtain ⟨k1, k2⟩ := List.mem_filter.1 hx
      exact List.mem_filter.2 ⟨hXm x k1, k2⟩
    · obtain ⟨k1, k2⟩ := List.mem_filter.1 hx
      exact List.mem_filter.2 ⟨hYm x k1, k2⟩)
  rw [List.length_append] at both
  rw [hQ] at qX qY
  omega
theorem kBad_filter (xs bad : List Int) : kBad xs bad xs.length = (xs.filter (fun x => hasB bad x)).length := by
  have key : ∀ i, i ≤ xs.length → kBad xs bad i = ((xs.take i).filter (fun x => hasB bad x)).length := by
    intro i
    induction i with
    | zero => intro _; rfl
    | succ i ih =>
      intro hi
      have hlt : i < xs.length := by omega
      have e : xs.getD i 0 = xs[i] := by rw [List.getD_eq_getElem?_getD, List.getElem?_eq_getElem hlt]; rfl
      rw [List.take_succ_eq_append_getElem hlt, List.filter_append, List.length_append]
      show (if hasB bad (xs.getD i 0) = true then kBad xs bad i + 1 else kBad xs bad i) = _
      rw [e, ih (by omega)]
      cases h : hasB bad xs[i] <;> simp [h]
  have := key xs.length (Nat.le_refl _)
  rw [List.take_length] at this
  exact this
/-- The law. -/
theorem agree_law {bad : List Int} {said : List Stp} {a b : Lo} (ha : LoI a) (hb : LoI b) (hep : a.ep = b.ep) (hmem : a.mem = b.mem) (ga : AgG bad said a) (gb : AgG bad said b)
    (hw : (kBad a.mem bad a.mem.length : Int) ≤ faultsI a.mem.length) {x y : Ct} (hx : x ∈ certsG a) (hy : y ∈ certsG b) (hs : x.slot = y.slot) : sameT x.req y.req = true := by
  obtain ⟨i, hi, ei, si, _, _, _, pi⟩ := ha.cert hx
  obtain ⟨j, hj, ej, sj, _, _, _, pj⟩ := hb.cert hy
  rw [← hep] at sj pj
  rw [← hmem] at pj
  obtain rfl : i = j := by omega
  unfold provesB at pi pj
  simp only [Bool.and_eq_true, decide_eq_true_eq] at pi pj
  obtain ⟨x1, x2⟩ := chain_rises _ _ _ _ pi.2
  obtain ⟨y1, y2⟩ := chain_rises _ _ _ _ pj.2
  obtain ⟨c1, c2, c3, c4, c5⟩ := conf_facts ha.conf
  obtain ⟨m1, m2, _, _⟩ := members_facts c5
  have nd : ∀ l : List Int, l.Pairwise (· < ·) → l.Nodup := fun l h => h.imp (fun h => by omega)
  rw [kBad_filter] at hw
  obtain ⟨m, hmX, hmY, hmb⟩ := quorums_meet bad c3 c4 (nd _ m2) (nd _ x1) (nd _ y1) (fun z hz => by
    obtain ⟨s, hs, rfl⟩ := List.mem_map.1 hz
    exact (x2 s hs).2) (fun z hz => by
    obtain ⟨s, hs, rfl⟩ := List.mem_map.1 hz
    exact (y2 s hs).2) (by simpa using pi.1.2) (by simpa using pj.1.2) hw
  obtain ⟨s1, hs1, rfl⟩ := List.mem_map.1 hmX
  obtain ⟨s2, hs2, e2⟩ := List.mem_map.1 hmY
  obtain ⟨v1, k1, t1⟩ := (ga i hi).ce x ei s1 hs1
  obtain ⟨v2, k2, t2⟩ := (gb i hi).ce y ej s2 hs2
  obtain ⟨q1, f1, r1⟩ := (ga i hi).pr _ k1 hmb
  have e2' : s2.by_ = s1.by_ := e2
  rw [e2'] at k2
  obtain ⟨q2, f2, r2⟩ := (gb i hi).pr _ k2 hmb
  rw [hep] at f1
  have : (s1.by_, v1).1 = (s1.by_, v2).1 := rfl
  rw [show (s1.by_, v2).1 = (s1.by_, v1).1 from rfl, f1] at f2
  injection f2 with f2
  subst f2
  have e : v1.req = v2.req := r1.trans r2.symm
  rw [e] at t1
  exact sameT_trans (sameT_symm t1) t2
end Go.Proofs.Ytakbkpklfihfiaa
