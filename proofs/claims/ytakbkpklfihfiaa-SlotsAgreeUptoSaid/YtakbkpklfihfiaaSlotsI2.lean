/- A step on a log of slots keeps what always holds; what is committed stays; views of certificates rise (plain). -/
import Derived.Test.YtakbkpklfihfiaaSlotsI
namespace Go.Proofs.Ytakbkpklfihfiaa
open F64
set_option linter.unusedVariables false
set_option linter.unusedSimpArgs false

/-- What a step may do to a slot: nothing that was committed is lost, and no certificate falls back. -/
structure SlLe (s s' : Sl) : Prop where
  dn : ∀ r, s.done = some r → s'.done = some r
  ce : ∀ c, s.cert = some c → ∃ c', s'.cert = some c' ∧ c.view ≤ c'.view
theorem SlLe.refl (s : Sl) : SlLe s s := ⟨fun r h => h, fun c h => ⟨c, h, Int.le_refl _⟩⟩
theorem lookS_le (ms : List Int) (view n : Int) (s0 s : Sl) (h1 : s.done = s0.done) (h2 : s.cert = s0.cert) : SlLe s0 (lookS ms view n s) := by
  unfold lookS
  split
  · refine ⟨fun r hr => ?_, fun c hc => ?_⟩
    · rw [← h1] at hr
      simp only [hr]
    · rw [← h2] at hc
      simp only [hc]
      split
      · rename_i hlt
        exact ⟨_, rfl, Int.le_of_lt hlt⟩
      · exact ⟨c, rfl, Int.le_refl _⟩
  · exact ⟨fun r hr => by rw [h1]; exact hr, fun c hc => ⟨c, by rw [h2]; exact hc, Int.le_refl _⟩⟩
/-- What a step may do to a log. -/
structure LoLe (g g' : Lo) : Prop where
  ep : g'.ep = g.ep
  mem : g'.mem = g.mem
  vw : g.view ≤ g'.view
  sl : ∀ i, SlLe (g.sl i) (g'.sl i)
theorem LoLe.refl (g : Lo) : LoLe g g := ⟨rfl, rfl, Int.le_refl _, fun i => SlLe.refl _⟩
theorem put_le {g : Lo} {i : Nat} {s : Sl} (h : SlLe (g.sl i) s) : LoLe g (putS g i s) :=
  ⟨rfl, rfl, Int.le_refl _, fun j => by
    show SlLe (g.sl j) (if j = i then s else g.sl j)
    split
    · rename_i e; rw [e]; exact h
    · exact SlLe.refl _⟩
theorem propose_ok {g : Lo} (h : LoI g) (n : Int) (r : Req) : LoI (proposeG g n r) ∧ LoLe g (proposeG g n r) := by
  unfold proposeG
  split
  · rename_i he
    cases hi : idxN g.ep n with
    | none => exact ⟨h, LoLe.refl g⟩
    | some i =>
      obtain ⟨h4, hn⟩ := idxN_lt hi
      have hask : askedB r = true := by
        unfold proposeE at he
        by_cases ha : askedB r = true
        · exact ha
        · rw [if_neg ha] at he; cases he
      have q := h.sl i h4
      refine ⟨put_inv h ?_, put_le (lookS_le _ _ _ _ _ rfl rfl)⟩
      rw [← hn]
      rw [← hn] at q
      exact lookS_inv h.conf h.vw ⟨fun r' e => by
        have : some r = some r' := e
        injection this with this
        rw [← this]; exact hask, q.kp, q.np, q.kc, q.nc, q.ce, q.dn⟩
  · exact ⟨h, LoLe.refl g⟩
theorem prepare_ok {g : Lo} (h : LoI g) (id n : Int) (r : Req) (by_ : Int) (text : ByteArray) : LoI (prepareG g id n r by_ text) ∧ LoLe g (prepareG g id n r by_ text) := by
  unfold prepareG
  split
  · rename_i he
    cases hi : idxN g.ep n with
    | none => exact ⟨h, LoLe.refl g⟩
    | some i =>
      obtain ⟨h4, hn⟩ := idxN_lt hi
      unfold prepareE at he
      rw [hi] at he
      simp only at he
      have hask : askedB r = true := by
        by_cases ha : askedB r = true
        · exact ha
        · rw [if_neg ha] at he; cases he
      rw [if_pos hask] at he
      have hmem : hasB g.mem id = true := by
        by_cases ha : hasB g.mem id = true
        · exact ha
        · rw [if_neg ha] at he; cases he
      rw [if_pos hmem] at he
      have hbt : by_ = id ∧ text = prepS g.ep g.view n r := by
        by_cases ha : by_ = id ∧ text = prepS g.ep g.view n r
        · exact ha
        · rw [if_neg ha] at he; cases he
      rw [if_pos hbt] at he
      have hno : hasG (g.sl i).prep id = false := by
        cases ha : hasG (g.sl i).prep id
        · rfl
        · rw [ha, if_pos rfl] at he; cases he
      have q := h.sl i h4
      refine ⟨put_inv h ?_, put_le (lookS_le _ _ _ _ _ rfl rfl)⟩
      rw [← hn]
      rw [← hn] at q
      refine lookS_inv h.conf h.vw ⟨q.pr, fun p hp => ?_, set_keys q.np hno, q.kc, q.nc, q.ce, q.dn⟩
      rcases set_mem hno hp with hp | rfl
      · exact q.kp p hp
      · exact ⟨(hasB_iff _ _).1 hmem, hask, hbt.1, hbt.2⟩
  · exact ⟨h, LoLe.refl g⟩
theorem commit_ok {g : Lo} (h : LoI g) (id n : Int) (r : Req) : LoI (commitG g id n r) ∧ LoLe g (commitG g id n r) := by
  unfold commitG
  split
  · rename_i he
    cases hi : idxN g.ep n with
    | none => exact ⟨h, LoLe.refl g⟩
    | some i =>
      obtain ⟨h4, hn⟩ := idxN_lt hi
      unfold commitE at he
      rw [hi] at he
      simp only at he
      have hask : askedB r = true := by
        by_cases ha : askedB r = true
        · exact ha
        · rw [if_neg ha] at he; cases he
      rw [if_pos hask] at he
      have hmem : hasB g.mem id = true := by
        by_cases ha : hasB g.mem id = true
        · exact ha
        · rw [if_neg ha] at he; cases he
      rw [if_pos hmem] at he
      have hno : hasG (g.sl i).com id = false := by
        cases ha : hasG (g.sl i).com id
        · rfl
        · rw [ha, if_pos rfl] at he; cases he
      have q := h.sl i h4
      refine ⟨put_inv h ?_, put_le (lookS_le _ _ _ _ _ rfl rfl)⟩
      rw [← hn]
      rw [← hn] at q
      refine lookS_inv h.conf h.vw ⟨q.pr, q.kp, q.np, fun p hp => ?_, set_keys q.nc hno, q.ce, q.dn⟩
      rcases set_mem hno hp with hp | rfl
      · exact q.kc p hp
      · exact (hasB_iff _ _).1 hmem
  · exact ⟨h, LoLe.refl g⟩
theorem enter_ok {g : Lo} (h : LoI g) (v : Int) : LoI (enterG g v) ∧ LoLe g (enterG g v) := by
  unfold enterG
  split
  · rename_i he
    have hv : g.view < v ∧ v ≤ 15 := by
      unfold enterE at he
      split at he
      · cases he
      · rename_i hn; omega
    have := h.vw
    exact ⟨⟨h.conf, ⟨by show 0 ≤ v; omega, hv.2⟩, fun i hi => clearS_inv (by show g.view ≤ v; omega) (h.sl i hi)⟩, rfl, rfl, by show g.view ≤ v; omega, fun i => ⟨fun r hr => hr, fun c hc => ⟨c, hc, Int.le_refl _⟩⟩⟩
  · exact ⟨h, LoLe.refl g⟩
theorem step_ok {g : Lo} (h : LoI g) (ep : Int) (o : Stp) : LoI (stepG g ep o) ∧ LoLe g (stepG g ep o) := by
  unfold stepG
  split
  · exact enter_ok h _
  · split
    · exact propose_ok h _ _
    · split
      · exact prepare_ok h _ _ _ _ _
      · exact commit_ok h _ _ _
/-- A refused step changes nothing. -/
theorem step_no {g : Lo} {ep : Int} {o : Stp} (h : stepE g ep o ≠ 0) : stepG g ep o = g := by
  unfold stepE at h
  unfold stepG
  split at h
  · rename_i e; rw [if_pos e]; unfold enterG; rw [if_neg h]
  · rename_i e; rw [if_neg e]
    split at h
    · rename_i e; rw [if_pos e]; unfold proposeG; rw [if_neg h]
    · rename_i e; rw [if_neg e]
      split at h
      · rename_i e; rw [if_pos e]; unfold prepareG; rw [if_neg h]
      · rename_i e; rw [if_neg e]; unfold commitG; rw [if_neg h]
theorem LoLe.stays {g g' : Lo} (h : LoLe g g') {n : Int} {r : Req} (hc : committedO g n = some r) : committedO g' n = some r := by
  unfold committedO at hc ⊢
  rw [h.ep]
  cases hi : idxN g.ep n with
  | none => rw [hi] at hc; cases hc
  | some i => rw [hi] at hc; exact (h.sl i).dn r hc
/-- What is committed was prepared. -/
theorem LoI.found {g : Lo} (h : LoI g) {n : Int} {r : Req} (hc : committedO g n = some r) : ∃ c ∈ certsG g, c.slot = n := by
  unfold committedO at hc
  cases hi : idxN g.ep n with
  | none => rw [hi] at hc; cases hc
  | some i =>
    rw [hi] at hc
    simp only at hc
    obtain ⟨h4, hn⟩ := idxN_lt hi
    have q := h.sl i h4
    cases he : (g.sl i).cert with
    | none => exact absurd he (q.dn (by rw [hc]; simp))
    | some c =>
      refine ⟨c, ?_, by rw [hn]; exact (q.ce c he).1⟩
      unfold certsG
      exact List.mem_filterMap.2 ⟨i, List.mem_range.2 h4, he⟩
theorem LoI.cert {g : Lo} (h : LoI g) {c : Ct} (hc : c ∈ certsG g) : ∃ i : Nat, i < 4 ∧ (g.sl i).cert = some c ∧ c.slot = 4 * g.ep + 1 + i ∧ 0 ≤ c.view ∧ c.view ≤ g.view ∧ askedB c.req = true ∧ provesB g.ep g.mem (prepS g.ep c.view c.slot c.req) c.sigs = true := by
  unfold certsG at hc
  obtain ⟨i, hi, he⟩ := List.mem_filterMap.1 hc
  have h4 := List.mem_range.1 hi
  obtain ⟨a, b, c', d, e⟩ := (h.sl i h4).ce c he
  exact ⟨i, h4, he, a, b, c', d, by rw [a]; exact e⟩
theorem LoI.prepE {g : Lo} (h : LoI g) {c : Ct} (hc : c ∈ certsG g) : prepE g.ep c.view c.slot c.req = 0 := by
  obtain ⟨i, h4, _, a, b, d, e, _⟩ := h.cert hc
  obtain ⟨c1, c2, _⟩ := conf_facts h.conf
  have := h.vw
  have h1 : reqE c.req = 0 := (askedE _).1 e
  unfold Go.Proofs.Ytakbkpklfihfiaa.prepE prepB
  rw [h1]
  have h2 : ok32 g.ep c.view c.slot = true := by
    unfold ok32 okN
    simp only [Bool.and_eq_true, decide_eq_true_eq]
    omega
  rw [h2]; rfl
/-- Certificates stand by slots. -/
theorem LoI.rise {g : Lo} (h : LoI g) : (certsG g).Pairwise (fun a b => a.slot < b.slot) := by
  have key : ∀ n, n ≤ 4 → ((List.range n).filterMap fun i => (g.sl i).cert).Pairwise (fun a b => a.slot < b.slot) ∧ ∀ c ∈ (List.range n).filterMap (fun i => (g.sl i).cert), c.slot < 4 * g.ep + 1 + n := by
    intro n
    induction n with
    | zero => intro _; exact ⟨List.Pairwise.nil, fun c hc => absurd hc List.not_mem_nil⟩
    | succ n ih =>
      intro hn
      obtain ⟨i1, i2⟩ := ih (by omega)
      rw [List.range_succ, List.filterMap_append]
      have hl : ∀ c ∈ [n].filterMap (fun i => (g.sl i).cert), c.slot = 4 * g.ep + 1 + n := by
        intro c hc
        obtain ⟨j, hj, he⟩ := List.mem_filterMap.1 hc
        have : j = n := by simpa using hj
        subst this
        exact ((h.sl j (by omega)).ce c he).1
      refine ⟨List.pairwise_append.2 ⟨i1, ?_, fun a ha b hb => by rw [hl b hb]; exact i2 a ha⟩, fun c hc => ?_⟩
      · cases hc : (g.sl n).cert <;> simp [List.filterMap_cons, hc]
      · rcases List.mem_append.1 hc with hc | hc
        · have := i2 c hc; omega
        · rw [hl c hc]; omega
  exact (key 4 (by omega)).1
end Go.Proofs.Ytakbkpklfihfiaa
