/- Joined texts: SlotsI, SlotsI2. What each proves stands at its head; no conditions beside those in its theorems. -/
import Derived.Test.YtakbkpklfihfiaaPjBH
/- What always holds of a log of slots (plain): who voted, what is proved, what stays. No program in sight. -/
namespace Go.Proofs.Ytakbkpklfihfiaa
open F64
set_option linter.unusedVariables false
set_option linter.unusedSimpArgs false

theorem askedE (r : Req) : askedB r = true ↔ reqE r = 0 := by
  unfold askedB reqE
  cases nullB r <;> cases rightB r <;> simp
theorem sameT_prep {a b : Req} (h : sameT a b = true) (e v s : Int) : prepS e v s a = prepS e v s b := by
  unfold sameT at h
  simp only [Bool.and_eq_true, beq_iff_eq] at h
  obtain ⟨⟨h1, h2⟩, h3⟩ := h
  have h4 : reqS a = reqS b := by
    exact toList_inj h3
  have h5 : reqL a = reqL b := by
    unfold reqS at h4
    have := congrArg (fun x : ByteArray => x.data.toList) h4
    simpa using this
  unfold prepS prepL prepB
  rw [h1, h2, h5]
theorem nodup_sub : ∀ (l m : List Int), l.Nodup → (∀ x ∈ l, x ∈ m) → l.length ≤ m.length
  | [], _, _, _ => Nat.zero_le _
  | a :: l, m, hn, hs => by
    have h1 := List.nodup_cons.1 hn
    have ha : a ∈ m := hs a (List.mem_cons_self)
    have := nodup_sub l (m.erase a) h1.2 (fun x hx => by
      refine (List.mem_erase_of_ne (fun e => h1.1 (by rw [← e]; exact hx))).2 (hs x (List.mem_cons_of_mem _ hx)))
    rw [List.length_erase_of_mem ha] at this
    have : 0 < m.length := List.length_pos_of_mem ha
    simp only [List.length_cons]
    omega
/-- What always holds of a slot. -/
structure SlI (ep : Int) (ms : List Int) (view n : Int) (s : Sl) : Prop where
  pr : ∀ r, s.prop = some r → askedB r = true
  kp : ∀ p ∈ s.prep, p.1 ∈ ms ∧ askedB p.2.req = true ∧ p.2.by_ = p.1 ∧ p.2.text = prepS ep view n p.2.req
  np : (s.prep.map (·.1)).Nodup
  kc : ∀ p ∈ s.com, p.1 ∈ ms
  nc : (s.com.map (·.1)).Nodup
  ce : ∀ c, s.cert = some c → c.slot = n ∧ 0 ≤ c.view ∧ c.view ≤ view ∧ askedB c.req = true ∧ provesB ep ms (prepS ep c.view n c.req) c.sigs = true
  dn : s.done ≠ none → s.cert ≠ none
/-- What always holds of a log. -/
structure LoI (g : Lo) : Prop where
  conf : confB g.ep g.mem = true
  vw : 0 ≤ g.view ∧ g.view ≤ 15
  sl : ∀ i : Nat, i < 4 → SlI g.ep g.mem g.view (4 * g.ep + 1 + i) (g.sl i)
theorem conf_facts {ep : Int} {ms : List Int} (h : confB ep ms = true) : 0 ≤ ep ∧ ep ≤ 60 ∧ 4 ≤ ms.length ∧ ms.length ≤ 10 ∧ membersB ms = true := by
  unfold confB at h
  simp only [Bool.and_eq_true, decide_eq_true_eq] at h
  have := members_facts h.2
  exact ⟨h.1.1, h.1.2, this.2.2.1, this.2.2.2, h.2⟩
theorem LoI.few {g : Lo} (h : LoI g) : ∀ i, i < 4 → (g.sl i).prep.length ≤ g.mem.length ∧ (g.sl i).com.length ≤ g.mem.length := by
  intro i hi
  have q := h.sl i hi
  have key : ∀ l : List (Int × Vt), (l.map (·.1)).Nodup → (∀ p ∈ l, p.1 ∈ g.mem) → l.length ≤ g.mem.length := fun l hn hm => by
    have := nodup_sub (l.map (·.1)) g.mem hn (fun x hx => by
      obtain ⟨p, hp, rfl⟩ := List.mem_map.1 hx
      exact hm p hp)
    simpa using this
  exact ⟨key _ q.np (fun p hp => (q.kp p hp).1), key _ q.nc q.kc⟩
theorem LoI.fewB {g : Lo} (h : LoI g) : FewB g := fun i hi => by
  have := h.few i hi
  have := conf_facts h.conf
  omega
theorem LoI.sigsB {g : Lo} (h : LoI g) : SigsB g := fun i hi c hc => by
  have := ((h.sl i hi).ce c hc).2.2.2.2
  unfold provesB at this
  simp only [Bool.and_eq_true, decide_eq_true_eq] at this
  omega
theorem LoI.size {g : Lo} (h : LoI g) : sizeG g ≤ 4 * (1 + 2 * g.mem.length) := by
  have h0 := h.few 0 (by omega); have h1 := h.few 1 (by omega); have h2 := h.few 2 (by omega); have h3 := h.few 3 (by omega)
  unfold sizeG sizeS
  have : ∀ b : Bool, (if b = true then 1 else 0) ≤ 1 := by decide
  have a0 := this (g.sl 0).prop.isSome; have a1 := this (g.sl 1).prop.isSome; have a2 := this (g.sl 2).prop.isSome; have a3 := this (g.sl 3).prop.isSome
  omega
theorem newLo_inv {ep : Int} {ms : List Int} (h : confB ep ms = true) : LoI (newLo ep ms) :=
  ⟨h, by unfold newLo; simp, fun i _ => ⟨fun r hr => absurd hr.symm (by show ¬ some r = none; simp), fun p hp => absurd hp (List.not_mem_nil), List.nodup_nil, fun p hp => absurd hp (List.not_mem_nil), List.nodup_nil, fun c hc => absurd hc.symm (by show ¬ some c = none; simp), fun hd => absurd rfl hd⟩⟩
theorem chain_agree (ms : List Int) (t : ByteArray) (votes : List (Int × Vt)) (r : Req) (h : ∀ p ∈ votes, p.2.by_ = p.1 ∧ (sameT p.2.req r = true → p.2.text = t)) :
    ∀ (l : List Int) (last : Int), l.Pairwise (· < ·) → (∀ m ∈ l, last < m ∧ hasB ms m = true) → chainB ms t last (agreeG votes r l) = true
  | [], _, _, _ => rfl
  | m :: l, last, hp, hm => by
    have hp' := List.pairwise_cons.1 hp
    have h1 := hm m List.mem_cons_self
    unfold agreeG
    rw [List.filterMap_cons]
    cases hs : sigFor votes r m with
    | none =>
      exact chain_agree ms t votes r h l last hp'.2 (fun x hx => hm x (List.mem_cons_of_mem _ hx))
    | some s =>
      have ih := chain_agree ms t votes r h l m hp'.2 (fun x hx => ⟨hp'.1 x hx, (hm x (List.mem_cons_of_mem _ hx)).2⟩)
      unfold sigFor at hs
      cases hg : getG votes m with
      | none => rw [hg] at hs; cases hs
      | some v =>
        rw [hg] at hs
        simp only at hs
        split at hs
        · rename_i hsame
          injection hs with hs
          have q := h _ (getG_mem hg)
          have e1 : v.by_ = m := q.1
          have e2 : v.text = t := q.2 hsame
          subst hs
          show (decide (v.text = t) && decide (last < v.by_) && hasB ms v.by_ && chainB ms t v.by_ (agreeG votes r l)) = true
          rw [e1, e2, decide_eq_true rfl, decide_eq_true h1.1, h1.2, ih]; rfl
        · cases hs
theorem lookS_inv {ep : Int} {ms : List Int} {view n : Int} {s : Sl} (hc : confB ep ms = true) (hv : 0 ≤ view ∧ view ≤ 15) (h : SlI ep ms view n s) : SlI ep ms view n (lookS ms view n s) := by
  unfold lookS
  split
  · rename_i he
    obtain ⟨c1, c2, c3, c4, c5⟩ := conf_facts hc
    obtain ⟨m1, m2, _, _⟩ := members_facts c5
    have hnew : ∃ r, s.prop = some r := by
      cases hp : s.prop with
      | some r => exact ⟨r, rfl⟩
      | none =>
        exfalso
        rw [hp] at he
        unfold agreeO enoughB at he
        simp only [decide_eq_true_eq, List.length_nil] at he
        unfold quorumI faultsI at he
        rw [if_neg (by omega), if_neg (by omega)] at he
        omega
    obtain ⟨r, hr⟩ := hnew
    have hask := h.pr r hr
    have hpv : provesB ep ms (prepS ep view n r) (agreeG s.prep r ms) = true := by
      have hl := agreeG_len s.prep r ms
      rw [hr] at he
      unfold agreeO enoughB at he
      simp only [decide_eq_true_eq] at he
      unfold provesB
      rw [hc, decide_eq_true (show (agreeG s.prep r ms).length ≤ 16 by omega), decide_eq_true he, chain_agree ms (prepS ep view n r) s.prep r (fun p hp => ⟨(h.kp p hp).2.2.1, fun hs => by rw [(h.kp p hp).2.2.2, sameT_prep hs]⟩) ms (-1) m2 (fun m hx => ⟨by have := (m1 m hx).1; omega, (hasB_iff _ _).2 hx⟩)]
      rfl
    have hnewI : ∀ c : Ct, (⟨view, n, s.prop.getD nullR, agreeO s.prep s.prop ms⟩ : Ct) = c → c.slot = n ∧ 0 ≤ c.view ∧ c.view ≤ view ∧ askedB c.req = true ∧ provesB ep ms (prepS ep c.view n c.req) c.sigs = true := by
      intro c e
      subst e
      rw [hr]
      exact ⟨rfl, hv.1, Int.le_refl _, hask, hpv⟩
    refine ⟨h.pr, h.kp, h.np, h.kc, h.nc, ?_, ?_⟩
    · intro c hc'
      simp only at hc'
      split at hc'
      · injection hc' with hc'; exact hnewI c hc'
      · split at hc'
        · injection hc' with hc'; exact hnewI c hc'
        · rename_i c0 hc0 _
          injection hc' with hc'; subst hc'
          exact h.ce c0 hc0
    · intro _ hn
      simp only at hn
      split at hn
      · cases hn
      · split at hn <;> cases hn
  · exact h
theorem clearS_inv {ep : Int} {ms : List Int} {view view' n : Int} {s : Sl} (hv : view ≤ view') (h : SlI ep ms view n s) : SlI ep ms view' n (clearS s) :=
  ⟨fun r hr => absurd hr.symm (by show ¬ some r = none; simp), fun p hp => absurd hp (List.not_mem_nil), List.nodup_nil, fun p hp => absurd hp (List.not_mem_nil), List.nodup_nil, fun c hc => by
    obtain ⟨a, b, d, e, f⟩ := h.ce c hc
    exact ⟨a, b, Int.le_trans d hv, e, f⟩, h.dn⟩
theorem put_inv {g : Lo} {i : Nat} {s : Sl} (h : LoI g) (hs : SlI g.ep g.mem g.view (4 * g.ep + 1 + i) s) : LoI (putS g i s) :=
  ⟨h.conf, h.vw, fun j hj => by
    show SlI g.ep g.mem g.view (4 * g.ep + 1 + j) (if j = i then s else g.sl j)
    split
    · rename_i e; rw [e]; exact hs
    · exact h.sl j hj⟩
theorem set_keys {l : List (Int × Vt)} {k : Int} {v : Vt} (h : (l.map (·.1)).Nodup) (hn : hasG l k = false) : ((setG l k v).map (·.1)).Nodup := by
  rw [setG_new v hn, List.map_append]
  have hno : ∀ p ∈ l, p.1 ≠ k := getG_none.1 (by unfold hasG at hn; cases hg : getG l k; rfl; rw [hg] at hn; cases hn)
  refine List.nodup_append.2 ⟨h, by simp, ?_⟩
  intro a ha b hb
  obtain ⟨p, hp, rfl⟩ := List.mem_map.1 ha
  have : b = k := by simpa using hb
  rw [this]; exact hno p hp
theorem set_mem {l : List (Int × Vt)} {k : Int} {v : Vt} {p : Int × Vt} (hn : hasG l k = false) (h : p ∈ setG l k v) : p ∈ l ∨ p = (k, v) := by
  rw [setG_new v hn] at h
  simpa using h
end Go.Proofs.Ytakbkpklfihfiaa

/- A step on a log of slots keeps what always holds; what is committed stays; views of certificates rise (plain). -/
namespace Go.Proofs.Ytakbkpklfihfiaa
open F64
set_option linter.unusedVariables false
set_option linter.unusedSimpArgs false

/-- What a step may do to a slot: nothing that was committed is lost, and no certificate falls back. -/
structure SlLe (s s' : Sl) : Prop where
  dn : ∀ r, s.done = some r → s'.done = some r
  ce : ∀ c, s.cert = some c → ∃ c', s'.cert = some c' ∧ c.view ≤ c'.view
theorem SlLe.refl (s : Sl) : SlLe s s := ⟨fun r h => h, fun c h => ⟨c, h, Int.le_refl _⟩⟩
theorem lookS_le (ms : List Int) (view n : Int) (s0 s : Sl) (h1 : s.done = s0.done) (h2 : s.cert = s0.cert) : SlLe s0 (lookS ms view n s) := by
  unfold lookS
  split
  · refine ⟨fun r hr => ?_, fun c hc => ?_⟩
    · rw [← h1] at hr
      simp only [hr]
    · rw [← h2] at hc
      simp only [hc]
      split
      · rename_i hlt
        exact ⟨_, rfl, Int.le_of_lt hlt⟩
      · exact ⟨c, rfl, Int.le_refl _⟩
  · exact ⟨fun r hr => by rw [h1]; exact hr, fun c hc => ⟨c, by rw [h2]; exact hc, Int.le_refl _⟩⟩
/-- What a step may do to a log. -/
structure LoLe (g g' : Lo) : Prop where
  ep : g'.ep = g.ep
  mem : g'.mem = g.mem
  vw : g.view ≤ g'.view
  sl : ∀ i, SlLe (g.sl i) (g'.sl i)
theorem LoLe.refl (g : Lo) : LoLe g g := ⟨rfl, rfl, Int.le_refl _, fun i => SlLe.refl _⟩
theorem put_le {g : Lo} {i : Nat} {s : Sl} (h : SlLe (g.sl i) s) : LoLe g (putS g i s) :=
  ⟨rfl, rfl, Int.le_refl _, fun j => by
    show SlLe (g.sl j) (if j = i then s else g.sl j)
    split
    · rename_i e; rw [e]; exact h
    · exact SlLe.refl _⟩
theorem propose_ok {g : Lo} (h : LoI g) (n : Int) (r : Req) : LoI (proposeG g n r) ∧ LoLe g (proposeG g n r) := by
  unfold proposeG
  split
  · rename_i he
    cases hi : idxN g.ep n with
    | none => exact ⟨h, LoLe.refl g⟩
    | some i =>
      obtain ⟨h4, hn⟩ := idxN_lt hi
      have hask : askedB r = true := by
        unfold proposeE at he
        by_cases ha : askedB r = true
        · exact ha
        · rw [if_neg ha] at he; cases he
      have q := h.sl i h4
      refine ⟨put_inv h ?_, put_le (lookS_le _ _ _ _ _ rfl rfl)⟩
      rw [← hn]
      rw [← hn] at q
      exact lookS_inv h.conf h.vw ⟨fun r' e => by
        have : some r = some r' := e
        injection this with this
        rw [← this]; exact hask, q.kp, q.np, q.kc, q.nc, q.ce, q.dn⟩
  · exact ⟨h, LoLe.refl g⟩
theorem prepare_ok {g : Lo} (h : LoI g) (id n : Int) (r : Req) (by_ : Int) (text : ByteArray) : LoI (prepareG g id n r by_ text) ∧ LoLe g (prepareG g id n r by_ text) := by
  unfold prepareG
  split
  · rename_i he
    cases hi : idxN g.ep n with
    | none => exact ⟨h, LoLe.refl g⟩
    | some i =>
      obtain ⟨h4, hn⟩ := idxN_lt hi
      unfold prepareE at he
      rw [hi] at he
      simp only at he
      have hask : askedB r = true := by
        by_cases ha : askedB r = true
        · exact ha
        · rw [if_neg ha] at he; cases he
      rw [if_pos hask] at he
      have hmem : hasB g.mem id = true := by
        by_cases ha : hasB g.mem id = true
        · exact ha
        · rw [if_neg ha] at he; cases he
      rw [if_pos hmem] at he
      have hbt : by_ = id ∧ text = prepS g.ep g.view n r := by
        by_cases ha : by_ = id ∧ text = prepS g.ep g.view n r
        · exact ha
        · rw [if_neg ha] at he; cases he
      rw [if_pos hbt] at he
      have hno : hasG (g.sl i).prep id = false := by
        cases ha : hasG (g.sl i).prep id
        · rfl
        · rw [ha, if_pos rfl] at he; cases he
      have q := h.sl i h4
      refine ⟨put_inv h ?_, put_le (lookS_le _ _ _ _ _ rfl rfl)⟩
      rw [← hn]
      rw [← hn] at q
      refine lookS_inv h.conf h.vw ⟨q.pr, fun p hp => ?_, set_keys q.np hno, q.kc, q.nc, q.ce, q.dn⟩
      rcases set_mem hno hp with hp | rfl
      · exact q.kp p hp
      · exact ⟨(hasB_iff _ _).1 hmem, hask, hbt.1, hbt.2⟩
  · exact ⟨h, LoLe.refl g⟩
theorem commit_ok {g : Lo} (h : LoI g) (id n : Int) (r : Req) : LoI (commitG g id n r) ∧ LoLe g (commitG g id n r) := by
  unfold commitG
  split
  · rename_i he
    cases hi : idxN g.ep n with
    | none => exact ⟨h, LoLe.refl g⟩
    | some i =>
      obtain ⟨h4, hn⟩ := idxN_lt hi
      unfold commitE at he
      rw [hi] at he
      simp only at he
      have hask : askedB r = true := by
        by_cases ha : askedB r = true
        · exact ha
        · rw [if_neg ha] at he; cases he
      rw [if_pos hask] at he
      have hmem : hasB g.mem id = true := by
        by_cases ha : hasB g.mem id = true
        · exact ha
        · rw [if_neg ha] at he; cases he
      rw [if_pos hmem] at he
      have hno : hasG (g.sl i).com id = false := by
        cases ha : hasG (g.sl i).com id
        · rfl
        · rw [ha, if_pos rfl] at he; cases he
      have q := h.sl i h4
      refine ⟨put_inv h ?_, put_le (lookS_le _ _ _ _ _ rfl rfl)⟩
      rw [← hn]
      rw [← hn] at q
      refine lookS_inv h.conf h.vw ⟨q.pr, q.kp, q.np, fun p hp => ?_, set_keys q.nc hno, q.ce, q.dn⟩
      rcases set_mem hno hp with hp | rfl
      · exact q.kc p hp
      · exact (hasB_iff _ _).1 hmem
  · exact ⟨h, LoLe.refl g⟩
theorem enter_ok {g : Lo} (h : LoI g) (v : Int) : LoI (enterG g v) ∧ LoLe g (enterG g v) := by
  unfold enterG
  split
  · rename_i he
    have hv : g.view < v ∧ v ≤ 15 := by
      unfold enterE at he
      split at he
      · cases he
      · rename_i hn; omega
    have := h.vw
    exact ⟨⟨h.conf, ⟨by show 0 ≤ v; omega, hv.2⟩, fun i hi => clearS_inv (by show g.view ≤ v; omega) (h.sl i hi)⟩, rfl, rfl, by show g.view ≤ v; omega, fun i => ⟨fun r hr => hr, fun c hc => ⟨c, hc, Int.le_refl _⟩⟩⟩
  · exact ⟨h, LoLe.refl g⟩
theorem step_ok {g : Lo} (h : LoI g) (ep : Int) (o : Stp) : LoI (stepG g ep o) ∧ LoLe g (stepG g ep o) := by
  unfold stepG
  split
  · exact enter_ok h _
  · split
    · exact propose_ok h _ _
    · split
      · exact prepare_ok h _ _ _ _ _
      · exact commit_ok h _ _ _
theorem LoI.cert {g : Lo} (h : LoI g) {c : Ct} (hc : c ∈ certsG g) : ∃ i : Nat, i < 4 ∧ (g.sl i).cert = some c ∧ c.slot = 4 * g.ep + 1 + i ∧ 0 ≤ c.view ∧ c.view ≤ g.view ∧ askedB c.req = true ∧ provesB g.ep g.mem (prepS g.ep c.view c.slot c.req) c.sigs = true := by
  unfold certsG at hc
  obtain ⟨i, hi, he⟩ := List.mem_filterMap.1 hc
  have h4 := List.mem_range.1 hi
  obtain ⟨a, b, c', d, e⟩ := (h.sl i h4).ce c he
  exact ⟨i, h4, he, a, b, c', d, by rw [a]; exact e⟩
theorem LoI.prepE {g : Lo} (h : LoI g) {c : Ct} (hc : c ∈ certsG g) : prepE g.ep c.view c.slot c.req = 0 := by
  obtain ⟨i, h4, _, a, b, d, e, _⟩ := h.cert hc
  obtain ⟨c1, c2, _⟩ := conf_facts h.conf
  have := h.vw
  have h1 : reqE c.req = 0 := (askedE _).1 e
  unfold Go.Proofs.Ytakbkpklfihfiaa.prepE prepB
  rw [h1]
  have h2 : ok32 g.ep c.view c.slot = true := by
    unfold ok32 okN
    simp only [Bool.and_eq_true, decide_eq_true_eq]
    omega
  rw [h2]; rfl
end Go.Proofs.Ytakbkpklfihfiaa
