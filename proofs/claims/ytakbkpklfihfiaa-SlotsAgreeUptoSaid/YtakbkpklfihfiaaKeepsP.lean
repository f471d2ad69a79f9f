/- Layer 16 in plain words: what a quorum committed is picked again. No program in sight. -/
import Derived.Test.YtakbkpklfihfiaaJoinJ
import Derived.Test.YtakbkpklfihfiaaUnlikeP
namespace Go.Proofs.Ytakbkpklfihfiaa
open F64
set_option linter.unusedVariables false
set_option linter.unusedSimpArgs false

theorem put_ok {W : Wr} (h : W.err = 0) {c : List UInt8} (hc : (c.length : Int) ≤ W.room) : (putW W true c).err = 0 ∧ (putW W true c).room = W.room - c.length := by
  rw [put_good h hc]; exact ⟨rfl, rfl⟩
theorem byte_ok {W : Wr} {n : Int} (h : W.err = 0) (hr : 1 ≤ W.room) (hn : 0 ≤ n ∧ n ≤ 255) : (byteW W n).err = 0 ∧ (byteW W n).room = W.room - 1 := by
  unfold byteW
  rw [okN_of hn.1 hn.2]
  exact put_ok h (by simp [big1]; omega)
theorem word_ok {W : Wr} {n : Int} (h : W.err = 0) (hr : 2 ≤ W.room) (hn : 0 ≤ n ∧ n ≤ 65535) : (wordW W n).err = 0 ∧ (wordW W n).room = W.room - 2 := by
  unfold wordW
  rw [okN_of hn.1 hn.2]
  exact put_ok h (by simp [big2]; omega)
theorem text_ok {W : Wr} {s : List UInt8} (h : W.err = 0) (hs : s.length ≤ 100) (hr : 102 ≤ W.room) : (textW W s).err = 0 ∧ W.room - 102 ≤ (textW W s).room := by
  unfold textW
  rw [decide_eq_true (show s.length ≤ 65535 by omega)]
  obtain ⟨a, b⟩ := put_ok h (c := big2 s.length ++ s) (by simp [big2]; omega)
  refine ⟨a, ?_⟩
  rw [b]; simp [big2]; omega
theorem sigs_ok : ∀ (l : List Sg) (W : Wr), W.err = 0 → (∀ s ∈ l, (0 ≤ s.by_ ∧ s.by_ ≤ 255) ∧ s.text.data.toList.length ≤ 100) → 103 * (l.length : Int) ≤ W.room → (wSigs W l).err = 0 ∧ W.room - 103 * (l.length : Int) ≤ (wSigs W l).room
  | [], W, h, _, hr => ⟨h, by simp [wSigs]⟩
  | s :: t, W, h, ht, hr => by
    have hs := ht s (List.mem_cons_self)
    have hl : ((s :: t).length : Int) = (t.length : Int) + 1 := by simp
    rw [hl] at hr ⊢
    have ht0 : 0 ≤ (t.length : Int) := by omega
    obtain ⟨a, b⟩ := byte_ok h (n := s.by_) (by omega) hs.1
    obtain ⟨c, d⟩ := text_ok a hs.2 (by omega)
    have e : wSig W s = textW (byteW W s.by_) s.text.data.toList := rfl
    rw [← e] at c d
    obtain ⟨f, g⟩ := sigs_ok t (wSig W s) c (fun x hx => ht x (List.mem_cons_of_mem _ hx)) (by omega)
    exact ⟨f, by show _ ≤ (wSigs (wSig W s) t).room; omega⟩
theorem reqL_len (r : Req) : (reqL r).length ≤ 34 := by
  have h := reqS_size r
  unfold reqS at h
  simpa [ByteArray.size] using h

section
variable (ep : Int) (xs : List Int) (v : Int) (wb : Nat → Bool) (bad : List Int) (r : Req) (lies : List Ct) (Q : Nat)
def kCert (v : Int) (r : Req) : Ct := ⟨v, 4 * ep + 2, r, sigsOf (xs.take Q) (prepS ep v (4 * ep + 2) r)⟩
def kLie : List Ct :=
  match lies with
  | [] => []
  | z :: _ => if (0 ≤ z.view ∧ z.view < v) then [kCert ep xs Q z.view z.req] else []
def kCerts (i : Nat) : List Ct := if hasB bad (xs.getD i 0) = true then kLie ep xs v lies Q else if i < Q then [kCert ep xs Q v r] else []
def kCh (i : Nat) : Ch := ⟨xs.getD i 0, v + 1, kCerts ep xs v bad r lies Q i, xs.getD i 0, chS ep ⟨xs.getD i 0, v + 1, kCerts ep xs v bad r lies Q i, 0, ByteArray.empty⟩⟩
def kIn (i len : Nat) : Bool := wb i || decide ((xs.length : Int) - i ≤ (Q : Int) - len)
def kList : Nat → List Ch
  | 0 => []
  | i + 1 => if kIn xs wb Q i (kList i).length = true then kList i ++ [kCh ep xs v bad r lies Q i] else kList i
/-- How many of the first i are bad. -/
def kBad : Nat → Nat
  | 0 => 0
  | i + 1 => if hasB bad (xs.getD i 0) = true then kBad i + 1 else kBad i
end
theorem kBad_le (xs bad : List Int) : ∀ i, kBad xs bad i ≤ i
  | 0 => Nat.le_refl _
  | i + 1 => by unfold kBad; have := kBad_le xs bad i; split <;> omega
/-- The number of a quorum. -/
theorem quorum_facts {xs : List Int} (h4 : 4 ≤ xs.length) (h10 : xs.length ≤ 10) {Q : Nat} (hQ : quorumI xs.length = Q) : Q ≤ xs.length ∧ 0 < Q ∧ (xs.length : Int) + faultsI xs.length + 1 ≤ 2 * (Q : Int) := by
  unfold quorumI faultsI at hQ
  rw [if_neg (by omega), if_neg (by omega)] at hQ
  unfold faultsI
  rw [if_neg (by omega)]
  omega

section
variable {ep : Int} {xs : List Int} {v : Int} {wb : Nat → Bool} {bad : List Int} {r : Req} {lies : List Ct} {Q : Nat}
theorem kList_len (hQ : Q ≤ xs.length) : ∀ i, i ≤ xs.length → (Q : Int) - (kList ep xs v wb bad r lies Q i).length ≤ (xs.length : Int) - i
  | 0, _ => by unfold kList; simp; omega
  | i + 1, hi => by
    have := kList_len hQ i (by omega)
    unfold kList
    split
    · simp; omega
    · rename_i hn
      unfold kIn at hn
      simp at hn
      omega
theorem kList_mem : ∀ i (c : Ch), c ∈ kList ep xs v wb bad r lies Q i → ∃ j, j < i ∧ c = kCh ep xs v bad r lies Q j
  | 0, c, h => by unfold kList at h; exact (List.not_mem_nil h).elim
  | i + 1, c, h => by
    unfold kList at h
    split at h
    · rcases List.mem_append.1 h with h | h
      · obtain ⟨j, hj, e⟩ := kList_mem i c h; exact ⟨j, by omega, e⟩
      · simp at h; exact ⟨i, by omega, h⟩
    · obtain ⟨j, hj, e⟩ := kList_mem i c h; exact ⟨j, by omega, e⟩
theorem kList_sub : ∀ d i (c : Ch), c ∈ kList ep xs v wb bad r lies Q i → c ∈ kList ep xs v wb bad r lies Q (i + d)
  | 0, i, c, h => h
  | d + 1, i, c, h => by
    have := kList_sub d i c h
    show c ∈ kList ep xs v wb bad r lies Q (i + d + 1)
    unfold kList
    split
    · exact List.mem_append_left _ this
    · exact this
/-- One of the honest ones of the first quorum tells. -/
theorem kList_honest (hQ : Q ≤ xs.length) (hb : (xs.length : Int) + kBad xs bad xs.length + 1 ≤ 2 * (Q : Int)) :
    ∃ j, j < Q ∧ hasB bad (xs.getD j 0) = false ∧ kCh ep xs v bad r lies Q j ∈ kList ep xs v wb bad r lies Q xs.length := by
  by_cases hno : ∃ j, j < Q ∧ hasB bad (xs.getD j 0) = false ∧ kIn xs wb Q j (kList ep xs v wb bad r lies Q j).length = true
  · obtain ⟨j, h1, h2, h3⟩ := hno
    refine ⟨j, h1, h2, ?_⟩
    have hm : kCh ep xs v bad r lies Q j ∈ kList ep xs v wb bad r lies Q (j + 1) := by
      unfold kList; rw [if_pos h3]; simp
    have := kList_sub (xs.length - (j + 1)) (j + 1) _ hm
    rwa [show j + 1 + (xs.length - (j + 1)) = xs.length by omega] at this
  · exfalso
    have key : ∀ i, i ≤ xs.length → (kList ep xs v wb bad r lies Q i).length ≤ kBad xs bad i + (i - Q) := by
      intro i
      induction i with
      | zero => intro _; unfold kList; simp
      | succ i ih =>
        intro hi
        have ih := ih (by omega)
        unfold kList kBad
        by_cases hin : kIn xs wb Q i (kList ep xs v wb bad r lies Q i).length = true
        · rw [if_pos hin]
          by_cases hiQ : i < Q
          · have hbad : hasB bad (xs.getD i 0) = true := by
              cases hq : hasB bad (xs.getD i 0) with
              | true => rfl
              | false => exact absurd ⟨i, hiQ, hq, hin⟩ hno
            rw [if_pos hbad]; simp; omega
          · split <;> simp <;> omega
        · rw [if_neg hin]
          split <;> omega
    have k1 := key xs.length (Nat.le_refl _)
    have k2 := kList_len (ep := ep) (v := v) (wb := wb) (bad := bad) (r := r) (lies := lies) hQ xs.length (Nat.le_refl _)
    omega
theorem sigsOf_len (ms : List Int) (t : ByteArray) : (sigsOf ms t).length = ms.length := by simp [sigsOf]
theorem take_pairwise {l : List Int} (h : l.Pairwise (· < ·)) (n : Nat) : (l.take n).Pairwise (· < ·) := List.Pairwise.sublist (List.take_sublist n l) h
theorem chain_sigsOf (xs : List Int) (t : ByteArray) : ∀ (ms : List Int) (last : Int), ms.Pairwise (· < ·) → (∀ m ∈ ms, last < m ∧ hasB xs m = true) → chainB xs t last (sigsOf ms t) = true
  | [], _, _, _ => rfl
  | m :: ms, last, hp, hm => by
    have h0 := hm m (List.mem_cons_self)
    have hp' := List.pairwise_cons.1 hp
    show (decide (t = t) && decide (last < m) && hasB xs m && chainB xs t m (sigsOf ms t)) = true
    rw [decide_eq_true rfl, decide_eq_true h0.1, h0.2, chain_sigsOf xs t ms m hp'.2 (fun x hx => ⟨hp'.1 x hx, (hm x (List.mem_cons_of_mem _ hx)).2⟩)]
    rfl
theorem proves_own (hc : confB ep xs = true) (hQ : quorumI xs.length = Q) (hQn : Q ≤ xs.length) (t : ByteArray) : provesB ep xs t (sigsOf (xs.take Q) t) = true := by
  have hm : membersB xs = true := by unfold confB at hc; simp only [Bool.and_eq_true] at hc; exact hc.2
  obtain ⟨m1, m2, m3, m4⟩ := members_facts hm
  have hl : (sigsOf (xs.take Q) t).length = Q := by rw [sigsOf_len, List.length_take]; omega
  unfold provesB
  rw [hc, hl, hQ, chain_sigsOf xs t (xs.take Q) (-1) (take_pairwise m2 Q) (fun m hx => ⟨by have := (m1 m (List.mem_of_mem_take hx)).1; omega, (hasB_iff _ _).2 (List.mem_of_mem_take hx)⟩)]
  simp; omega
theorem nodes_sigsOf (t : ByteArray) : ∀ (ms : List Int), (∀ m ∈ ms, 0 ≤ m ∧ m < 16) → nodesB (sigsOf ms t) = true
  | [], _ => rfl
  | m :: ms, h => by
    have h0 := h m (List.mem_cons_self)
    show (decide (0 ≤ m) && decide (m < 200) && nodesB (sigsOf ms t)) = true
    rw [decide_eq_true h0.1, decide_eq_true (show m < 200 by omega), nodes_sigsOf t ms (fun x hx => h x (List.mem_cons_of_mem _ hx))]
    rfl
/-- A certificate of the slot fits, if its request may be asked. -/
theorem kCert_fits (hc : confB ep xs = true) {v : Int} (hv : 0 ≤ v ∧ v ≤ 15) (r : Req) : certsB ep 0 [kCert ep xs Q v r] = askedB r := by
  have hm : membersB xs = true := by unfold confB at hc; simp only [Bool.and_eq_true] at hc; exact hc.2
  obtain ⟨m1, m2, m3, m4⟩ := members_facts hm
  have he := conf_ep hc
  unfold certsB certsB fitsB headB slotB kCert
  rw [nodes_sigsOf _ _ (fun m hx => m1 m (List.mem_of_mem_take hx))]
  have hl : (sigsOf (xs.take Q) (prepS ep v (4 * ep + 2) r)).length ≤ 16 := by rw [sigsOf_len, List.length_take]; omega
  rw [decide_eq_true hl, decide_eq_true hv.1, decide_eq_true hv.2, decide_eq_true (show (0 : Int) < 4 * ep + 2 by omega), decide_eq_true (show ep * 4 + 1 ≤ 4 * ep + 2 by omega), decide_eq_true (show 4 * ep + 2 < ep * 4 + 5 by omega)]
  simp
theorem top_err (hc : confB ep xs = true) {f v : Int} (hf : 0 ≤ f ∧ f < 16) (hv : 1 ≤ v ∧ v ≤ 15) (cs : List Ct) (hl : cs.length ≤ 4) (b : Int) (t : ByteArray) : (wTop ep ⟨f, v, cs, b, t⟩).err = 0 ∧ (wTop ep ⟨f, v, cs, b, t⟩).room = 65529 := by
  have he := conf_ep hc
  have h0 : (newW 65535).err = 0 ∧ (newW 65535).room = 65535 := ⟨rfl, rfl⟩
  obtain ⟨a1, b1⟩ := byte_ok h0.1 (n := 86) (by omega) (by omega)
  obtain ⟨a2, b2⟩ := word_ok a1 (n := ep) (by omega) (by omega)
  obtain ⟨a3, b3⟩ := byte_ok a2 (n := f) (by omega) (by omega)
  obtain ⟨a4, b4⟩ := byte_ok a3 (n := v) (by omega) (by omega)
  obtain ⟨a5, b5⟩ := byte_ok a4 (n := (cs.length : Int)) (by omega) (by omega)
  exact ⟨a5, b5.trans (by omega)⟩
theorem kCert_err (hc : confB ep xs = true) {v : Int} (hv : 0 ≤ v ∧ v ≤ 15) (r : Req) (hQn : Q ≤ xs.length) {W : Wr} (h : W.err = 0) (hr : 60000 ≤ W.room) : (wCert W (kCert ep xs Q v r)).err = 0 := by
  have hm : membersB xs = true := by unfold confB at hc; simp only [Bool.and_eq_true] at hc; exact hc.2
  obtain ⟨m1, m2, m3, m4⟩ := members_facts hm
  have he := conf_ep hc
  have hl := reqL_len r
  obtain ⟨a1, b1⟩ := byte_ok h (n := v) (by omega) (by omega)
  obtain ⟨a2, b2⟩ := word_ok a1 (n := 4 * ep + 2) (by omega) (by omega)
  obtain ⟨a3, b3⟩ := text_ok a2 (s := reqL r) (by omega) (by omega)
  have hq : (sigsOf (xs.take Q) (prepS ep v (4 * ep + 2) r)).length ≤ 10 := by rw [sigsOf_len, List.length_take]; omega
  obtain ⟨a4, b4⟩ := byte_ok a3 (n := ((sigsOf (xs.take Q) (prepS ep v (4 * ep + 2) r)).length : Int)) (by omega) (by omega)
  refine (sigs_ok _ _ a4 (fun s hs => ?_) (by show 103 * ((sigsOf (xs.take Q) (prepS ep v (4 * ep + 2) r)).length : Int) ≤ (byteW _ ((sigsOf (xs.take Q) (prepS ep v (4 * ep + 2) r)).length : Int)).room; omega)).1
  obtain ⟨m, hx, rfl⟩ := List.mem_map.1 hs
  have hm1 := m1 m (List.mem_of_mem_take hx)
  refine ⟨⟨hm1.1, by show m ≤ 255; omega⟩, ?_⟩
  have := prepS_size ep v (4 * ep + 2) r
  show (prepS ep v (4 * ep + 2) r).data.toList.length ≤ 100
  rw [size_data]; exact this
/-- The error of a change with one certificate, or none. -/
theorem right_one (hc : confB ep xs = true) (hQ : quorumI xs.length = Q) (hQn : Q ≤ xs.length) {v : Int} (hv : 0 ≤ v ∧ v < 15) {m : Int} (hm : m ∈ xs) {u : Int} (hu : 0 ≤ u ∧ u ≤ v) (r : Req) :
    rightE ep xs ⟨m, v + 1, [kCert ep xs Q u r], m, chS ep ⟨m, v + 1, [kCert ep xs Q u r], 0, ByteArray.empty⟩⟩ = if askedB r = true then 0 else 1 := by
  have hmm : membersB xs = true := by unfold confB at hc; simp only [Bool.and_eq_true] at hc; exact hc.2
  obtain ⟨m1, -, -, -⟩ := members_facts hmm
  have hm16 := m1 m hm
  have he := conf_ep hc
  have htop : ∀ b t, topB ep ⟨m, v + 1, [kCert ep xs Q u r], b, t⟩ = true := fun b t => by
    unfold topB; simp; omega
  have hmay : ∀ b t, mayB ep ⟨m, v + 1, [kCert ep xs Q u r], b, t⟩ = askedB r := fun b t => by
    unfold mayB
    rw [htop, show certsB ep 0 (Ch.certs ⟨m, v + 1, [kCert ep xs Q u r], b, t⟩) = askedB r from kCert_fits hc (by omega) r]; rfl
  unfold rightE
  rw [if_pos hc]
  unfold chE
  rw [hmay]
  by_cases ha : askedB r = true
  · rw [if_pos ha, if_pos ha]
    have herr : (chW ep ⟨m, v + 1, [kCert ep xs Q u r], m, chS ep ⟨m, v + 1, [kCert ep xs Q u r], 0, ByteArray.empty⟩⟩).err = 0 := by
      obtain ⟨t1, t2⟩ := top_err hc hm16 (show 1 ≤ v + 1 ∧ v + 1 ≤ 15 by omega) [kCert ep xs Q u r] (by simp) m (chS ep ⟨m, v + 1, [kCert ep xs Q u r], 0, ByteArray.empty⟩)
      exact kCert_err hc (by omega) r hQn t1 (by omega)
    rw [if_pos herr, if_pos rfl, if_pos ((hasB_iff _ _).2 hm)]
    show certsE ep xs (v + 1) _ [kCert ep xs Q u r] = 0
    unfold certsE
    rw [if_neg (show ¬ v + 1 ≤ (kCert ep xs Q u r).view by show ¬ v + 1 ≤ u; omega), if_pos (show provesB ep xs (prepS ep (kCert ep xs Q u r).view (kCert ep xs Q u r).slot (kCert ep xs Q u r).req) (kCert ep xs Q u r).sigs = true from proves_own hc hQ hQn _)]
    unfold certsE sigE
    exact if_pos ⟨rfl, rfl⟩
  · rw [if_neg ha, if_neg ha, if_neg (by decide)]
theorem right_none (hc : confB ep xs = true) {v : Int} (hv : 0 ≤ v ∧ v < 15) {m : Int} (hm : m ∈ xs) :
    rightE ep xs ⟨m, v + 1, [], m, chS ep ⟨m, v + 1, [], 0, ByteArray.empty⟩⟩ = 0 := by
  have hmm : membersB xs = true := by unfold confB at hc; simp only [Bool.and_eq_true] at hc; exact hc.2
  obtain ⟨m1, -, -, -⟩ := members_facts hmm
  have hm16 := m1 m hm
  have he := conf_ep hc
  have hmay : ∀ b t, mayB ep ⟨m, v + 1, [], b, t⟩ = true := fun b t => by
    unfold mayB topB certsB; simp; omega
  unfold rightE
  rw [if_pos hc]
  unfold chE
  rw [hmay, if_pos rfl]
  have herr : (chW ep ⟨m, v + 1, [], m, chS ep ⟨m, v + 1, [], 0, ByteArray.empty⟩⟩).err = 0 :=
    (top_err hc hm16 (show 1 ≤ v + 1 ∧ v + 1 ≤ 15 by omega) [] (by simp) m (chS ep ⟨m, v + 1, [], 0, ByteArray.empty⟩)).1
  rw [if_pos herr, if_pos rfl, if_pos ((hasB_iff _ _).2 hm)]
  show certsE ep xs (v + 1) _ [] = 0
  unfold certsE sigE
  exact if_pos ⟨rfl, rfl⟩
/-- What each certificate of the changes is. -/
theorem kCerts_cases (i : Nat) : kCerts ep xs v bad r lies Q i = [] ∨ (kCerts ep xs v bad r lies Q i = [kCert ep xs Q v r] ∧ hasB bad (xs.getD i 0) = false) ∨ (∃ z t, lies = z :: t ∧ 0 ≤ z.view ∧ z.view < v ∧ kCerts ep xs v bad r lies Q i = [kCert ep xs Q z.view z.req]) := by
  unfold kCerts
  by_cases h : hasB bad (xs.getD i 0) = true
  · rw [if_pos h]
    cases lies with
    | nil => left; rfl
    | cons z t =>
      by_cases hz : 0 ≤ z.view ∧ z.view < v
      · right; right; exact ⟨z, t, rfl, hz.1, hz.2, if_pos hz⟩
      · left; exact if_neg hz
  · rw [if_neg h]
    by_cases hi : i < Q
    · right; left; exact ⟨if_pos hi, by simpa using h⟩
    · left; exact if_neg hi
theorem getD_mem {l : List Int} {i : Nat} (h : i < l.length) : l.getD i 0 ∈ l := by
  rw [List.getD_eq_getElem?_getD, List.getElem?_eq_getElem h]; exact List.getElem_mem h
theorem kCh_right (hc : confB ep xs = true) (hQ : quorumI xs.length = Q) (hQn : Q ≤ xs.length) (hv : 0 ≤ v ∧ v < 15) (hr : askedB r = true) {i : Nat} (hi : i < xs.length) :
    rightE ep xs (kCh ep xs v bad r lies Q i) = 0 ∨ (rightE ep xs (kCh ep xs v bad r lies Q i) = 1 ∧ lies ≠ []) := by
  unfold kCh
  rcases kCerts_cases (ep := ep) (xs := xs) (v := v) (bad := bad) (r := r) (lies := lies) (Q := Q) i with h | ⟨h, _⟩ | ⟨z, t, rfl, h0, h1, h⟩
  · rw [h]; left; exact right_none hc hv (getD_mem hi)
  · rw [h]; left
    rw [right_one hc hQ hQn hv (getD_mem hi) (show 0 ≤ v ∧ v ≤ v by omega) r, if_pos hr]
  · rw [h, right_one hc hQ hQn hv (getD_mem hi) (show 0 ≤ z.view ∧ z.view ≤ v by omega) z.req]
    by_cases ha : askedB z.req = true
    · left; exact if_pos ha
    · right; exact ⟨if_neg ha, by simp⟩
theorem rights_of : ∀ (l : List Ch), (∀ c ∈ l, rightE ep xs c = 0 ∨ (rightE ep xs c = 1 ∧ lies ≠ [])) → rightsE ep xs l = 0 ∨ (rightsE ep xs l = 1 ∧ lies ≠ [])
  | [], _ => .inl rfl
  | c :: t, h => by
    unfold rightsE
    rcases h c (List.mem_cons_self) with e | ⟨e, n⟩
    · rw [if_pos e]; exact rights_of t (fun x hx => h x (List.mem_cons_of_mem _ hx))
    · rw [if_neg (by omega)]; exact .inr ⟨e, n⟩
theorem same_of (w : Int) : ∀ (l : List Ch), (∀ c ∈ l, c.view = w) → sameViews w l = true
  | [], _ => rfl
  | c :: t, h => by
    unfold sameViews
    rw [decide_eq_true (h c (List.mem_cons_self)), same_of w t (fun x hx => h x (List.mem_cons_of_mem _ hx))]; rfl
theorem rise_snoc : ∀ (l : List Ch) (last : Int) (c : Ch), riseB last l = true → (∀ x ∈ l, x.from_ < c.from_) → last < c.from_ → riseB last (l ++ [c]) = true
  | [], last, c, _, _, h => by show (decide (last < c.from_) && true) = true; rw [decide_eq_true h]; rfl
  | x :: t, last, c, h, hx, hl => by
    unfold riseB at h
    simp only [Bool.and_eq_true, decide_eq_true_eq] at h
    show (decide (last < x.from_) && riseB x.from_ (t ++ [c])) = true
    rw [decide_eq_true h.1, rise_snoc t x.from_ c h.2 (fun y hy => hx y (List.mem_cons_of_mem _ hy)) (hx x (List.mem_cons_self))]; rfl
theorem kList_rise (hm : membersB xs = true) : ∀ i, i ≤ xs.length → riseB (-1) (kList ep xs v wb bad r lies Q i) = true
  | 0, _ => rfl
  | i + 1, hi => by
    have ih := kList_rise hm i (by omega)
    obtain ⟨m1, m2, -, -⟩ := members_facts hm
    unfold kList
    split
    · refine rise_snoc _ _ _ ih (fun x hx => ?_) ?_
      · obtain ⟨j, hj, rfl⟩ := kList_mem i x hx
        show xs.getD j 0 < xs.getD i 0
        rw [List.getD_eq_getElem?_getD, List.getD_eq_getElem?_getD, List.getElem?_eq_getElem (show j < xs.length by omega), List.getElem?_eq_getElem (show i < xs.length by omega)]
        exact List.pairwise_iff_getElem.1 m2 j i (by omega) (by omega) hj
      · have := (m1 _ (getD_mem (show i < xs.length by omega))).1
        show (-1 : Int) < xs.getD i 0
        omega
    · exact ih
/-- The best one of a slot: where one has the greatest view, and all of that view are of its request. -/
theorem fold_top (slot : Int) (V : Int) (R : Req) : ∀ (P : List Ct) (o : Option Ct), (∀ x ∈ P, x.slot = slot → x.view ≤ V ∧ (x.view = V → x.req = R)) → (∀ y, o = some y → y.view ≤ V ∧ (y.view = V → y.req = R)) →
    ((∃ x ∈ P, x.slot = slot ∧ x.view = V) ∨ ∃ y, o = some y ∧ y.view = V) → ∃ y, P.foldl (stepB slot) o = some y ∧ y.req = R
  | [], o, _, h2, h3 => by
    rcases h3 with ⟨x, hx, _⟩ | ⟨y, rfl, hy⟩
    · exact (List.not_mem_nil hx).elim
    · exact ⟨y, rfl, (h2 y rfl).2 hy⟩
  | x :: t, o, h1, h2, h3 => by
    rw [List.foldl_cons]
    have hx := h1 x (List.mem_cons_self)
    refine fold_top slot V R t _ (fun y hy => h1 y (List.mem_cons_of_mem _ hy)) ?_ ?_
    · intro y hy
      unfold stepB at hy
      by_cases hs : x.slot = slot
      · rw [if_pos hs] at hy
        cases o with
        | none => simp at hy; subst hy; exact hx hs
        | some z =>
          simp only at hy
          by_cases hv : z.view < x.view
          · rw [if_pos hv] at hy; simp at hy; subst hy; exact hx hs
          · rw [if_neg hv] at hy; exact h2 y hy
      · rw [if_neg hs] at hy; exact h2 y hy
    · have tk : ∀ z, z.view = V → z.slot = slot → (z = x ∨ z ∈ t) → (∃ x ∈ t, x.slot = slot ∧ x.view = V) ∨ ∃ y, stepB slot o x = some y ∧ y.view = V := by
        intro z hz hzs hor
        rcases hor with rfl | hz'
        · right
          unfold stepB
          rw [if_pos hzs]
          cases o with
          | none => exact ⟨z, rfl, hz⟩
          | some u =>
            simp only
            by_cases hv : u.view < z.view
            · rw [if_pos hv]; exact ⟨z, rfl, hz⟩
            · rw [if_neg hv]; exact ⟨u, rfl, by have := (h2 u rfl).1; omega⟩
        · left; exact ⟨z, hz', hzs, hz⟩
      rcases h3 with ⟨z, hz, hzs, hzv⟩ | ⟨y, rfl, hy⟩
      · exact tk z hzv hzs (List.mem_cons.1 hz)
      · right
        unfold stepB
        by_cases hs : x.slot = slot
        · rw [if_pos hs]
          simp only
          rw [if_neg (by have := (hx hs).1; omega)]
          exact ⟨y, rfl, hy⟩
        · rw [if_neg hs]; exact ⟨y, rfl, hy⟩
theorem bestC_none (slot : Int) (P : List Ct) (h : ∀ x ∈ P, x.slot ≠ slot) : bestC slot P = none := by
  unfold bestC
  have : ∀ (P : List Ct), (∀ x ∈ P, x.slot ≠ slot) → P.foldl (stepB slot) none = none := by
    intro P
    induction P with
    | nil => intro _; rfl
    | cons x t ih =>
      intro h
      rw [List.foldl_cons, stepB_other (h x (List.mem_cons_self))]
      exact ih (fun y hy => h y (List.mem_cons_of_mem _ hy))
  exact this P h
/-- **The law.** -/
theorem keeps_law (hc : confB ep xs = true) (hQ : quorumI xs.length = Q) (hv : 0 ≤ v ∧ v < 15) (hr : rightB r = true) (hb : (kBad xs bad xs.length : Int) ≤ faultsI xs.length) :
    (checkE ep xs (v + 1) (kList ep xs v wb bad r lies Q xs.length) = 0 ∧ pickR ep (kList ep xs v wb bad r lies Q xs.length) = [nullR, r]) ∨
    (checkE ep xs (v + 1) (kList ep xs v wb bad r lies Q xs.length) = 1 ∧ lies ≠ []) := by
  have hm : membersB xs = true := by unfold confB at hc; simp only [Bool.and_eq_true] at hc; exact hc.2
  obtain ⟨m1, m2, m3, m4⟩ := members_facts hm
  obtain ⟨q1, q2, q3⟩ := quorum_facts m3 m4 hQ
  have ha : askedB r = true := by unfold askedB; rw [hr]; rfl
  have hview : viewsB (v + 1) (kList ep xs v wb bad r lies Q xs.length) = true := by
    unfold viewsB viewB
    rw [same_of (v + 1) _ (fun c hx => by obtain ⟨j, _, rfl⟩ := kList_mem _ c hx; rfl)]
    simp; omega
  have hrise := kList_rise (ep := ep) (v := v) (wb := wb) (bad := bad) (r := r) (lies := lies) (Q := Q) hm xs.length (Nat.le_refl _)
  have hlen := kList_len (ep := ep) (v := v) (wb := wb) (bad := bad) (r := r) (lies := lies) q1 xs.length (Nat.le_refl _)
  have hrs := rights_of (ep := ep) (xs := xs) (lies := lies) (kList ep xs v wb bad r lies Q xs.length) (fun c hx => by
    obtain ⟨j, hj, rfl⟩ := kList_mem _ c hx
    exact kCh_right hc hQ q1 hv ha hj)
  have hck : checkE ep xs (v + 1) (kList ep xs v wb bad r lies Q xs.length) = if rightsE ep xs (kList ep xs v wb bad r lies Q xs.length) = 0 then 0 else rightsE ep xs (kList ep xs v wb bad r lies Q xs.length) := by
    unfold checkE
    rw [if_pos hc, if_pos hview, if_pos hrise, if_neg (show ¬ ((kList ep xs v wb bad r lies Q xs.length).length : Int) < quorumI xs.length by rw [hQ]; omega)]
  rw [hck]
  rcases hrs with e | ⟨e, n⟩
  · left
    rw [if_pos e]
    refine ⟨rfl, ?_⟩
    obtain ⟨j, hj1, hj2, hj3⟩ := kList_honest (ep := ep) (v := v) (wb := wb) (bad := bad) (r := r) (lies := lies) (Q := Q) (xs := xs) q1 (by omega)
    have hall : ∀ x ∈ (kList ep xs v wb bad r lies Q xs.length).flatMap (·.certs), x.slot = 4 * ep + 2 ∧ x.view ≤ v ∧ (x.view = v → x.req = r) := by
      intro x hx
      obtain ⟨c, hcx, hxc⟩ := List.mem_flatMap.1 hx
      obtain ⟨i, hi, rfl⟩ := kList_mem _ c hcx
      have hxc' : x ∈ kCerts ep xs v bad r lies Q i := hxc
      rcases kCerts_cases (ep := ep) (xs := xs) (v := v) (bad := bad) (r := r) (lies := lies) (Q := Q) i with h | ⟨h, _⟩ | ⟨z, t, rfl, h0, h1, h⟩
      · rw [h] at hxc'; exact (List.not_mem_nil hxc').elim
      · rw [h] at hxc'; simp at hxc'; subst hxc'; exact ⟨rfl, Int.le_refl _, fun _ => rfl⟩
      · rw [h] at hxc'; simp at hxc'; subst hxc'
        exact ⟨rfl, by show z.view ≤ v; omega, fun e => by have : z.view = v := e; omega⟩
    have hex : ∃ x ∈ (kList ep xs v wb bad r lies Q xs.length).flatMap (·.certs), x.slot = 4 * ep + 2 ∧ x.view = v := by
      refine ⟨kCert ep xs Q v r, List.mem_flatMap.2 ⟨_, hj3, ?_⟩, rfl, rfl⟩
      show _ ∈ kCerts ep xs v bad r lies Q j
      unfold kCerts
      rw [if_neg (by rw [hj2]; simp), if_pos hj1]; simp
    unfold pickR
    generalize (kList ep xs v wb bad r lies Q xs.length).flatMap (·.certs) = P at hall hex ⊢
    obtain ⟨y, hy, hyr⟩ := fold_top (4 * ep + 2) v r P none (fun x hx hs => (hall x hx).2) (fun y h => by cases h) (.inl hex)
    have b0 : bestC (slotN ep 0) P = none := bestC_none _ _ (fun x hx => by rw [(hall x hx).1]; unfold slotN; omega)
    have b2 : bestC (slotN ep 2) P = none := bestC_none _ _ (fun x hx => by rw [(hall x hx).1]; unfold slotN; omega)
    have b3 : bestC (slotN ep 3) P = none := bestC_none _ _ (fun x hx => by rw [(hall x hx).1]; unfold slotN; omega)
    have b1 : bestC (slotN ep 1) P = some y := by rw [show slotN ep 1 = 4 * ep + 2 by unfold slotN; omega]; exact hy
    have hl : lastC ep P = 2 := by unfold lastC; rw [b3, b2, b1]; rfl
    rw [hl]
    show [reqOf (bestC (slotN ep 0) P), reqOf (bestC (slotN ep 1) P)] = _
    rw [b0, b1]
    show [nullR, y.req] = _
    rw [hyr]
  · right
    rw [if_neg (by omega)]
    exact ⟨e, n⟩
end
end Go.Proofs.Ytakbkpklfihfiaa
