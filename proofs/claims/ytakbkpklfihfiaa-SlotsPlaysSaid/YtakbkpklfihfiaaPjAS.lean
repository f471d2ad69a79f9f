/- Joined texts: R14P. What each proves stands at its head; no conditions beside those in its theorems. -/
import Derived.Test.YtakbkpklfihfiaaPjAR
/- Layer 14: the reference's log in plain words; it knows what the program's log knows. No program in sight. -/
namespace Go.Proofs.Ytakbkpklfihfiaa
open F64
set_option linter.unusedVariables false
set_option linter.unusedSimpArgs false
/-- A vote of the reference's. -/
structure RV where
  cm : Bool
  frm : Int
  slot : Int
  vt : Vt
/-- The reference's log. -/
structure RL14 where
  ep : Int
  mem : List Int
  view : Int
  props : List (Int × Req)
  votes : List RV
  kept : List Ct
  done : List (Int × Req)
def newR (ep : Int) (ms : List Int) : RL14 := ⟨ep, ms, 0, [], [], [], []⟩
def isV (cm : Bool) (n : Int) (m : Int) (r : Req) (v : RV) : Bool := (v.cm == cm) && (v.slot == n) && (v.frm == m) && sameT v.vt.req r
def whoR (ms : List Int) (votes : List RV) (cm : Bool) (n : Int) (r : Req) : List RV := ms.flatMap fun m => votes.filter (isV cm n m r)
def prepR (g : RL14) (n : Int) : Bool := match getG g.props n with | none => false | some r => enoughB g.mem (whoR g.mem g.votes false n r).length
/-- What is kept beside a slot's; whether the slot's is of this view. -/
def othR (kept : List Ct) (n : Int) : List Ct := kept.filter fun c => c.slot != n
def hasR (kept : List Ct) (v n : Int) : Bool := kept.any fun c => (c.slot == n) && (c.view == v)
def sigsR (l : List RV) : List Sg := l.map fun v => ⟨v.vt.by_, v.vt.text⟩
def keptR (g : RL14) (n : Int) (r : Req) : List Ct := if hasR g.kept g.view n = true then g.kept else othR g.kept n ++ [⟨g.view, n, r, sigsR (whoR g.mem g.votes false n r)⟩]
def doneR (g : RL14) (n : Int) (r : Req) : List (Int × Req) := if (getG g.done n).isNone && enoughB g.mem (whoR g.mem g.votes true n r).length then g.done ++ [(n, r)] else g.done
def lookR (g : RL14) (n : Int) : RL14 := match getG g.props n with
  | none => g
  | some r => if enoughB g.mem (whoR g.mem g.votes false n r).length = true then { g with kept := keptR g n r, done := doneR g n r } else g
def slotOk (ep n : Int) : Bool := decide (4 * ep < n) && decide (n ≤ 4 * (ep + 1))
def proposeRE (g : RL14) (n : Int) (r : Req) : Int :=
  if askedB r = true then (if slotOk g.ep n = true then (match getG g.props n with | some x => if sameT x r = true then 7 else 22 | none => 0) else 14) else 1
def proposeR (g : RL14) (n : Int) (r : Req) : RL14 := if proposeRE g n r = 0 then lookR { g with props := g.props ++ [(n, r)] } n else g
def votedR (votes : List RV) (cm : Bool) (f n : Int) : Bool := votes.any fun v => (v.cm == cm) && (v.slot == n) && (v.frm == f)
def voteR (g : RL14) (v : RV) : RL14 := lookR { g with votes := g.votes ++ [v] } v.slot
def mayRE (g : RL14) (f n : Int) (r : Req) : Int := if askedB r = true then (if slotOk g.ep n = true then (if hasB g.mem f = true then 0 else 8) else 14) else 1
def voteE (g : RL14) (v : RV) : Int := if votedR g.votes v.cm v.frm v.slot = true then 7 else 0
def voteG (g : RL14) (v : RV) : RL14 := if voteE g v = 0 then voteR g v else g
def prepareRE (g : RL14) (f n : Int) (r : Req) (by_ : Int) (text : ByteArray) : Int :=
  if mayRE g f n r = 0 then (if by_ = f ∧ text = prepS g.ep g.view n r then voteE g ⟨false, f, n, ⟨r, by_, text⟩⟩ else 16) else mayRE g f n r
def prepareR (g : RL14) (f n : Int) (r : Req) (by_ : Int) (text : ByteArray) : RL14 := if prepareRE g f n r by_ text = 0 then voteR g ⟨false, f, n, ⟨r, by_, text⟩⟩ else g
def commitRE (g : RL14) (f n : Int) (r : Req) : Int := if mayRE g f n r = 0 then voteE g ⟨true, f, n, ⟨r, 0, ByteArray.empty⟩⟩ else mayRE g f n r
def commitR (g : RL14) (f n : Int) (r : Req) : RL14 := if commitRE g f n r = 0 then voteR g ⟨true, f, n, ⟨r, 0, ByteArray.empty⟩⟩ else g
def enterRE (g : RL14) (view : Int) : Int := if view ≤ g.view ∨ 15 < view then 13 else 0
def enterR (g : RL14) (view : Int) : RL14 := if enterRE g view = 0 then { g with view := view, props := [], votes := [] } else g
def certsR (g : RL14) : List Ct := (List.range 4).flatMap fun (i : Nat) => g.kept.filter fun c => c.slot == 4 * g.ep + ((i : Int) + 1)
def sizeR (g : RL14) : Nat := g.props.length + g.votes.length
/-- A slot's votes, as the program has them. -/
def voteM (votes : List RV) (cm : Bool) (n : Int) : List (Int × Vt) := (votes.filter fun v => (v.cm == cm) && (v.slot == n)).map fun v => (v.frm, v.vt)
/-- Number i of the epoch's slots. -/
def slN (ep : Int) (i : Nat) : Int := 4 * ep + 1 + i
/-- Both logs know the same of a slot. -/
structure SimS (m : RL14) (n : Int) (s : Sl) : Prop where
  prop : getG m.props n = s.prop
  prep : voteM m.votes false n = s.prep
  com : voteM m.votes true n = s.com
  cert : m.kept.filter (fun c => c.slot == n) = s.cert.toList
  done : getG m.done n = s.done
  nd1 : (s.prep.map (·.1)).Nodup
  nd2 : (s.com.map (·.1)).Nodup
  vw : ∀ c, s.cert = some c → c.view ≤ m.view
def sum4 (f : Sl → Nat) (g : Lo) : Nat := f (g.sl 0) + f (g.sl 1) + f (g.sl 2) + f (g.sl 3)
theorem sum4_put (f : Sl → Nat) (g : Lo) {i : Nat} (hi : i < 4) (s : Sl) : sum4 f (putS g i s) + f (g.sl i) = sum4 f g + f s := by
  have h4 : i = 0 ∨ i = 1 ∨ i = 2 ∨ i = 3 := by omega
  unfold sum4 putS
  rcases h4 with rfl | rfl | rfl | rfl <;> simp <;> omega
theorem sum4_same (f : Sl → Nat) (g : Lo) {i : Nat} (hi : i < 4) (t : Sl) (k : Nat) (h : f t = f (g.sl i) + k) : sum4 f (putS g i t) = sum4 f g + k := by have := sum4_put f g hi t; omega
def cb (s : Sl) : Nat := if s.cert.isSome then 1 else 0
def db (s : Sl) : Nat := if s.done.isSome then 1 else 0
theorem cb_le (s : Sl) : cb s ≤ 1 := by unfold cb; split <;> omega
theorem db_le (s : Sl) : db s ≤ 1 := by unfold db; split <;> omega
structure Sim (g : Lo) (m : RL14) : Prop where
  ep : m.ep = g.ep
  mem : m.mem = g.mem
  view : m.view = g.view
  ml : 4 ≤ g.mem.length
  size : sum4 sizeS g = sizeR m
  kl : m.kept.length = sum4 cb g
  dl : m.done.length = sum4 db g
  out : ∀ n, idxN g.ep n = none → getG m.props n = none ∧ getG m.done n = none
  sl : ∀ i, i < 4 → SimS m (slN g.ep i) (g.sl i)
theorem slN_inj {ep : Int} {i j : Nat} (h : slN ep i = slN ep j) : i = j := by unfold slN at h; omega
theorem sim_new (ep : Int) (ms : List Int) (hm : 4 ≤ ms.length) : Sim (newLo ep ms) (newR ep ms) :=
  ⟨rfl, rfl, rfl, hm, rfl, rfl, rfl, fun _ _ => ⟨rfl, rfl⟩, fun i _ => ⟨rfl, rfl, rfl, rfl, rfl, List.nodup_nil, List.nodup_nil, fun c h => by cases h⟩⟩
theorem one_of {L : List (Int × Vt)} (nd : (L.map (·.1)).Nodup) (m : Int) (r : Req) : (L.filter (fun p => (p.1 == m) && sameT p.2.req r)).map (fun p => (⟨p.2.by_, p.2.text⟩ : Sg)) = (sigFor L r m).toList := by
  induction L with
  | nil => rfl
  | cons p t ih =>
    obtain ⟨k, v⟩ := p
    have nd' : k ∉ t.map (·.1) ∧ (t.map (·.1)).Nodup := by simpa using nd
    by_cases h : k = m
    · subst h
      have hno : t.filter (fun p => (p.1 == k) && sameT p.2.req r) = [] := by
        rw [List.filter_eq_nil_iff]
        intro q hq
        have : q.1 ≠ k := fun e => nd'.1 (e ▸ List.mem_map.2 ⟨q, hq, rfl⟩)
        simp [this]
      have hs : sigFor ((k, v) :: t) r k = if sameT v.req r = true then some ⟨v.by_, v.text⟩ else none := by
        unfold sigFor getG
        simp [List.find?_cons]
      rw [List.filter_cons, hno, hs]
      cases sameT v.req r <;> simp
    · have hs : sigFor ((k, v) :: t) r m = sigFor t r m := by
        unfold sigFor getG
        rw [List.find?_cons, decide_eq_false h]
      rw [List.filter_cons, hs, ← ih nd'.2]
      have : (k == m) = false := by simpa using h
      simp [this]
theorem who_agree {votes : List RV} {cm : Bool} {n : Int} {L : List (Int × Vt)} (h : voteM votes cm n = L) (nd : (L.map (·.1)).Nodup) (ms : List Int) (r : Req) : sigsR (whoR ms votes cm n r) = agreeG L r ms := by
  have key : ∀ m, sigsR (votes.filter (isV cm n m r)) = (sigFor L r m).toList := fun m => by
    rw [← one_of nd m r, ← h]
    unfold voteM sigsR
    rw [List.filter_map, List.filter_filter, List.map_map]
    congr 1
    apply List.filter_congr
    intro v _
    unfold isV
    simp only [Function.comp]
    cases v.cm == cm <;> cases v.slot == n <;> cases v.frm == m <;> cases sameT v.vt.req r <;> rfl
  unfold whoR agreeG
  induction ms with
  | nil => rfl
  | cons m t ih =>
    rw [List.flatMap_cons, List.filterMap_cons]
    unfold sigsR at *
    rw [List.map_append, key m, ih]
    cases sigFor L r m <;> rfl
theorem sigsR_len (l : List RV) : (sigsR l).length = l.length := List.length_map _
theorem who_len {votes : List RV} {cm : Bool} {n : Int} {L : List (Int × Vt)} (h : voteM votes cm n = L) (nd : (L.map (·.1)).Nodup) (ms : List Int) (r : Req) : (whoR ms votes cm n r).length = (agreeG L r ms).length := by
  rw [← who_agree h nd ms r, sigsR_len]
theorem keptR_other (g : RL14) (n k : Int) (r : Req) (hk : k ≠ n) : (keptR g n r).filter (fun c => c.slot == k) = g.kept.filter (fun c => c.slot == k) := by
  unfold keptR
  split
  · rfl
  · unfold othR
    rw [List.filter_append, List.filter_filter]
    have h1 : ([⟨g.view, n, r, sigsR (whoR g.mem g.votes false n r)⟩] : List Ct).filter (fun c => c.slot == k) = [] := by
      have : (n == k) = false := by simpa using fun e => hk e.symm
      simp [this]
    rw [h1, List.append_nil]
    apply List.filter_congr
    intro c _
    by_cases h : c.slot = k
    · have : (c.slot != n) = true := by simp; omega
      simp [h, this]
      omega
    · have : (c.slot == k) = false := by simpa using h
      simp [this]
theorem getG_app {l : List (Int × Req)} {n k : Int} {r : Req} (h : getG l n = none) : getG (l ++ [(n, r)]) k = if k = n then some r else getG l k := by
  have := getG_setNew (x := r) (show hasG l n = false by unfold hasG; rw [h]; rfl) k
  exact this
theorem doneR_get (g : RL14) (n k : Int) (r : Req) : getG (doneR g n r) k = if k = n ∧ getG g.done n = none ∧ enoughB g.mem (whoR g.mem g.votes true n r).length = true then some r else getG g.done k := by
  unfold doneR
  cases hd : getG g.done n with
  | none =>
    cases he : enoughB g.mem (whoR g.mem g.votes true n r).length
    · simp
    · simp only [Option.isNone_none, Bool.and_self, if_true, and_true]
      exact getG_app hd
  | some x => simp
theorem oth_len (l : List Ct) (n : Int) : (othR l n).length + (l.filter (fun c => c.slot == n)).length = l.length := by
  unfold othR
  induction l with
  | nil => rfl
  | cons c t ih =>
    rw [List.filter_cons, List.filter_cons]
    by_cases h : c.slot = n
    · have h1 : (c.slot == n) = true := by simpa using h
      have h2 : (c.slot != n) = false := by unfold bne; rw [h1]; rfl
      rw [h1, h2]; simp only [Bool.false_eq_true, if_false, if_true, List.length_cons]; omega
    · have h1 : (c.slot == n) = false := by simpa using h
      have h2 : (c.slot != n) = true := by unfold bne; rw [h1]; rfl
      rw [h1, h2]; simp only [Bool.false_eq_true, if_false, if_true, List.length_cons]; omega
theorem enough_zero {ms : List Int} (h : 4 ≤ ms.length) : enoughB ms 0 = false := by
  unfold enoughB quorumI faultsI
  apply decide_eq_false
  rw [if_neg (by omega)]
  split <;> omega
/-- Looking at a slot keeps both alike. -/
theorem look_sim {g : Lo} {m : RL14} {i : Nat} {s : Sl} (hi : i < 4) (ep : m.ep = g.ep) (mem : m.mem = g.mem) (view : m.view = g.view) (hs : SimS m (slN g.ep i) s) (ho : ∀ j, j < 4 → j ≠ i → SimS m (slN g.ep j) (g.sl j)) (ml : 4 ≤ g.mem.length) (hz : sum4 sizeS (putS g i s) = sizeR m) (hk : m.kept.length = sum4 cb (putS g i s)) (hdl : m.done.length = sum4 db (putS g i s)) (hout : ∀ n, idxN g.ep n = none → getG m.props n = none ∧ getG m.done n = none) : Sim (putS g i (lookS g.mem g.view (slN g.ep i) s)) (lookR m (slN g.ep i)) := by
  have put : ∀ (t : Sl) (m' : RL14), m'.ep = m.ep → m'.mem = m.mem → m'.view = m.view → sizeR m' = sizeR m → sizeS t = sizeS s → m'.kept.length + cb s = m.kept.length + cb t → m'.done.length + db s = m.done.length + db t → (∀ n, idxN g.ep n = none → getG m'.props n = none ∧ getG m'.done n = none) → SimS m' (slN g.ep i) t → (∀ j, j < 4 → j ≠ i → SimS m' (slN g.ep j) (g.sl j)) → Sim (putS g i t) m' := fun t m' e1 e2 e3 e4 h1 h2 h3 ho h4 h5 => by
    have a1 := sum4_put sizeS g hi t; have a2 := sum4_put sizeS g hi s
    have b1 := sum4_put cb g hi t; have b2 := sum4_put cb g hi s
    have c1 := sum4_put db g hi t; have c2 := sum4_put db g hi s
    refine ⟨e1.trans ep, e2.trans mem, e3.trans view, ml, by omega, by omega, by omega, ho, fun j hj => ?_⟩
    show SimS m' (slN g.ep j) (if j = i then t else g.sl j)
    by_cases q : j = i
    · subst q; rw [if_pos rfl]; exact h4
    · rw [if_neg q]; exact h5 j hj q
  unfold lookR
  cases hp : getG m.props (slN g.ep i) with
  | none =>
    have hsp : s.prop = none := by rw [← hs.prop, hp]
    have hl : lookS g.mem g.view (slN g.ep i) s = s := by
      unfold lookS agreeO
      rw [hsp]
      have := enough_zero ml
      simp [this]
    rw [hl]
    exact put s m rfl rfl rfl rfl rfl rfl rfl hout hs ho
  | some r =>
    have hsp : s.prop = some r := by rw [← hs.prop, hp]
    have w1 := who_agree hs.prep hs.nd1 m.mem r
    have l1 := who_len hs.prep hs.nd1 m.mem r
    have l2 := who_len hs.com hs.nd2 m.mem r
    simp only
    have e1 : agreeO s.prep s.prop g.mem = agreeG s.prep r m.mem := by rw [hsp, mem]; rfl
    have e2 : agreeO s.com s.prop g.mem = agreeG s.com r m.mem := by rw [hsp, mem]; rfl
    by_cases he : enoughB m.mem (whoR m.mem m.votes false (slN g.ep i) r).length = true
    · rw [if_pos he]
      have hl : lookS g.mem g.view (slN g.ep i) s = { s with
          cert := (match s.cert with | none => some ⟨g.view, slN g.ep i, r, agreeG s.prep r m.mem⟩ | some c => if c.view < g.view then some ⟨g.view, slN g.ep i, r, agreeG s.prep r m.mem⟩ else some c),
          done := (match s.done with | none => if enoughB g.mem (agreeG s.com r m.mem).length = true then some r else none | some x => some x) } := by
        unfold lookS
        rw [e1, e2, if_pos (by rw [← mem, ← l1]; exact he), hsp]
        rfl
      rw [hl]
      refine put _ _ rfl rfl rfl rfl rfl ?_ ?_ (fun n hn => ⟨(hout n hn).1, ?_⟩) ⟨?_, hs.prep, hs.com, ?_, ?_, hs.nd1, hs.nd2, ?_⟩ ?_
      · show (keptR m (slN g.ep i) r).length + cb s = m.kept.length + cb _
        have hf := hs.cert
        have ho := oth_len m.kept (slN g.ep i)
        rw [hf] at ho
        unfold keptR cb
        cases hc : s.cert with
        | none =>
          rw [hc] at ho
          have hno : hasR m.kept m.view (slN g.ep i) = false := by
            unfold hasR
            rw [List.any_eq_false]
            intro c hcm
            rw [hc] at hf
            have := List.filter_eq_nil_iff.1 hf c hcm
            simp only [Bool.and_eq_true, not_and]
            intro h1
            exact absurd h1 this
          rw [hno]
          simp at ho ⊢
          omega
        | some c =>
          rw [hc] at ho
          simp at ho
          split
          · simp
            split <;> simp
          · rw [List.length_append]
            simp
            split <;> simp <;> omega
      · show (doneR m (slN g.ep i) r).length + db s = m.done.length + db _
        unfold doneR db
        rw [hs.done, l2, mem]
        cases hd : s.done with
        | none =>
          cases he2 : enoughB g.mem (agreeG s.com r g.mem).length <;> simp
        | some x => simp
      · show getG (doneR m (slN g.ep i) r) n = none
        rw [doneR_get, if_neg (fun h => ?_)]
        · exact (hout n hn).2
        · have hx : idxN g.ep n = some i := by
            rw [h.1]; unfold idxN slN; rw [if_pos (by omega)]; congr 1; omega
          rw [hx] at hn; cases hn
      · show getG m.props _ = s.prop; exact hs.prop
      · show (keptR m (slN g.ep i) r).filter _ = _
        have hf := hs.cert
        unfold keptR
        cases hc : s.cert with
        | none =>
          rw [hc] at hf
          have hno : hasR m.kept m.view (slN g.ep i) = false := by
            unfold hasR
            rw [List.any_eq_false]
            intro c hcm
            have := List.filter_eq_nil_iff.1 hf c hcm
            simp only [Bool.and_eq_true, not_and]
            intro h1
            exact absurd h1 this
          rw [hno]
          simp only [Bool.false_eq_true, if_false]
          unfold othR
          rw [List.filter_append, List.filter_filter]
          have h1 : m.kept.filter (fun c => (c.slot == slN g.ep i) && (c.slot != slN g.ep i)) = [] := by
            rw [List.filter_eq_nil_iff]; intro c _ h; simp only [Bool.and_eq_true, beq_iff_eq, bne_iff_ne] at h; exact h.2 h.1
          rw [h1, w1, view]
          simp
        | some c =>
          rw [hc] at hf
          have hcm : c ∈ m.kept ∧ c.slot = slN g.ep i := by
            have : c ∈ m.kept.filter (fun c => c.slot == slN g.ep i) := by rw [hf]; simp
            have := List.mem_filter.1 this
            exact ⟨this.1, by simpa using this.2⟩
          have hall : ∀ d ∈ m.kept, d.slot = slN g.ep i → d = c := fun d hd hds => by
            have : d ∈ m.kept.filter (fun c => c.slot == slN g.ep i) := List.mem_filter.2 ⟨hd, by simpa using hds⟩
            rw [hf] at this
            simpa using this
          by_cases hv : c.view < g.view
          · have hno : hasR m.kept m.view (slN g.ep i) = false := by
              unfold hasR
              rw [List.any_eq_false]
              intro d hd
              simp only [Bool.and_eq_true, beq_iff_eq, not_and]
              intro h1 h2
              have := hall d hd h1
              subst this
              omega
            rw [hno]
            simp only [Bool.false_eq_true, if_false]
            rw [if_pos hv]
            unfold othR
            rw [List.filter_append, List.filter_filter]
            have h1 : m.kept.filter (fun c => (c.slot == slN g.ep i) && (c.slot != slN g.ep i)) = [] := by
              rw [List.filter_eq_nil_iff]; intro c _ h; simp only [Bool.and_eq_true, beq_iff_eq, bne_iff_ne] at h; exact h.2 h.1
            rw [h1, w1, view]
            simp
          · have hyes : hasR m.kept m.view (slN g.ep i) = true := by
              unfold hasR
              rw [List.any_eq_true]
              refine ⟨c, hcm.1, ?_⟩
              have := hs.vw c hc
              simp only [Bool.and_eq_true, beq_iff_eq]
              exact ⟨hcm.2, by omega⟩
            rw [hyes]
            simp only [if_true]
            rw [if_neg hv, hf]
      · show getG (doneR m (slN g.ep i) r) _ = _
        rw [doneR_get, hs.done, l2, mem]
        cases hd : s.done with
        | none =>
          simp only [true_and]
        | some x => simp
      · intro c hc
        show c.view ≤ m.view
        simp only at hc
        split at hc
        · injection hc with hc; subst hc; show g.view ≤ m.view; omega
        · rename_i c0 hc0
          split at hc
          · injection hc with hc; subst hc; show g.view ≤ m.view; omega
          · injection hc with hc; subst hc; exact hs.vw _ hc0
      · intro j hj hji
        have q := ho j hj hji
        have hne : slN g.ep j ≠ slN g.ep i := fun e => hji (slN_inj e)
        refine ⟨q.prop, q.prep, q.com, ?_, ?_, q.nd1, q.nd2, q.vw⟩
        · show (keptR m (slN g.ep i) r).filter _ = _
          rw [keptR_other m _ _ r hne]; exact q.cert
        · show getG (doneR m (slN g.ep i) r) _ = _
          rw [doneR_get, if_neg (fun h => hne h.1)]; exact q.done
    · rw [if_neg he]
      have hl : lookS g.mem g.view (slN g.ep i) s = s := by
        unfold lookS
        rw [e1, if_neg (by rw [← mem, ← l1]; exact he)]
      rw [hl]
      exact put s m rfl rfl rfl rfl rfl rfl rfl hout hs ho
theorem slotOk_idx (ep n : Int) : slotOk ep n = (idxN ep n).isSome := by
  unfold slotOk idxN
  by_cases h : 4 * ep + 1 ≤ n ∧ n < 4 * ep + 5
  · rw [if_pos h, decide_eq_true (show 4 * ep < n by omega), decide_eq_true (show n ≤ 4 * (ep + 1) by omega)]; rfl
  · rw [if_neg h]
    by_cases h1 : 4 * ep < n
    · rw [decide_eq_false (show ¬ n ≤ 4 * (ep + 1) by omega)]; simp
    · rw [decide_eq_false h1]; rfl
theorem idx_slN {ep n : Int} {i : Nat} (h : idxN ep n = some i) : i < 4 ∧ n = slN ep i := idxN_lt h
theorem voted_has {m : RL14} {cm : Bool} {n : Int} {L : List (Int × Vt)} (h : voteM m.votes cm n = L) (f : Int) : votedR m.votes cm f n = hasG L f := by
  rw [← h]
  unfold votedR hasG getG voteM
  rw [List.find?_map, Option.isSome_map, Option.isSome_map, Bool.eq_iff_iff, List.find?_isSome]
  rw [List.any_eq_true]
  constructor
  · rintro ⟨v, hv, e⟩
    simp only [Bool.and_eq_true, beq_iff_eq] at e
    exact ⟨v, List.mem_filter.2 ⟨hv, by simp [e.1.1, e.1.2]⟩, by simp [e.2]⟩
  · rintro ⟨v, hv, e⟩
    have := List.mem_filter.1 hv
    simp only [Bool.and_eq_true, beq_iff_eq, Function.comp, decide_eq_true_eq] at this e
    exact ⟨v, this.1, by simp [this.2.1, this.2.2, e]⟩
theorem sim_proposeE {g : Lo} {m : RL14} (s : Sim g m) (n : Int) (r : Req) : proposeRE m n r = proposeE g n r := by
  unfold proposeRE proposeE
  rw [slotOk_idx, s.ep]
  cases hi : idxN g.ep n with
  | none => simp
  | some i =>
    obtain ⟨h4, hn⟩ := idx_slN hi
    have := (s.sl i h4).prop
    rw [← hn] at this
    rw [this]
    rfl
theorem sim_propose {g : Lo} {m : RL14} (s : Sim g m) (n : Int) (r : Req) : Sim (proposeG g n r) (proposeR m n r) := by
  unfold proposeG proposeR
  rw [sim_proposeE s]
  by_cases he : proposeE g n r = 0
  · rw [if_pos he, if_pos he]
    cases hi : idxN g.ep n with
    | none => unfold proposeE at he; rw [hi] at he; split at he <;> simp at he
    | some i =>
      obtain ⟨h4, hn⟩ := idx_slN hi
      have hp : (g.sl i).prop = none := by
        unfold proposeE at he
        rw [hi] at he
        cases hq : (g.sl i).prop with
        | none => rfl
        | some x => simp only [hq] at he; split at he <;> (try split at he) <;> simp at he
      have q := s.sl i h4
      have hpn : getG m.props (slN g.ep i) = none := by rw [q.prop, hp]
      subst hn
      simp only
      have zs := sum4_same sizeS g h4 { g.sl i with prop := some r } 1 (by unfold sizeS; rw [hp]; rfl)
      have zk := sum4_same cb g h4 { g.sl i with prop := some r } 0 rfl
      have zd := sum4_same db g h4 { g.sl i with prop := some r } 0 rfl
      refine look_sim h4 s.ep s.mem s.view ⟨?_, q.prep, q.com, q.cert, q.done, q.nd1, q.nd2, q.vw⟩ (fun j hj hji => ?_) s.ml ?_ ?_ ?_ ?_
      · show getG (m.props ++ [(slN g.ep i, r)]) _ = some r
        rw [getG_app hpn, if_pos rfl]
      · have q2 := s.sl j hj
        refine ⟨?_, q2.prep, q2.com, q2.cert, q2.done, q2.nd1, q2.nd2, q2.vw⟩
        show getG (m.props ++ [(slN g.ep i, r)]) _ = _
        rw [getG_app hpn, if_neg (fun e => hji (slN_inj e))]; exact q2.prop
      · have := s.size
        show _ = (m.props ++ [(slN g.ep i, r)]).length + m.votes.length
        rw [List.length_append, zs, this]
        unfold sizeR
        simp only [List.length_cons, List.length_nil]
        omega
      · show m.kept.length = _; rw [zk]; exact s.kl
      · show m.done.length = _; rw [zd]; exact s.dl
      · intro n hn
        refine ⟨?_, (s.out n hn).2⟩
        show getG (m.props ++ [(slN g.ep i, r)]) n = none
        rw [getG_app hpn, if_neg (fun e => by rw [e, hi] at hn; cases hn)]; exact (s.out n hn).1
  · rw [if_neg he, if_neg he]; exact s
theorem sim_enter {g : Lo} {m : RL14} (s : Sim g m) (v : Int) : enterRE m v = enterE g v ∧ Sim (enterG g v) (enterR m v) := by
  have he : enterRE m v = enterE g v := by unfold enterRE enterE; rw [s.view]
  refine ⟨he, ?_⟩
  unfold enterG enterR
  rw [he]
  by_cases h0 : enterE g v = 0
  · rw [if_pos h0, if_pos h0]
    have hv : g.view ≤ v := by unfold enterE at h0; split at h0; cases h0; omega
    refine ⟨s.ep, s.mem, rfl, s.ml, rfl, s.kl, s.dl, fun n hn => ⟨rfl, (s.out n hn).2⟩, fun i hi => ?_⟩
    have q := s.sl i hi
    exact ⟨rfl, rfl, rfl, q.cert, q.done, List.nodup_nil, List.nodup_nil, fun c hc => by have h1 := q.vw c hc; have := s.view; show c.view ≤ v; omega⟩
  · rw [if_neg h0, if_neg h0]; exact s
theorem voteM_app (votes : List RV) (v : RV) (cm : Bool) (n : Int) : voteM (votes ++ [v]) cm n = if v.cm = cm ∧ v.slot = n then voteM votes cm n ++ [(v.frm, v.vt)] else voteM votes cm n := by
  unfold voteM
  rw [List.filter_append, List.map_append]
  by_cases h : v.cm = cm ∧ v.slot = n
  · rw [if_pos h]
    have : ((v.cm == cm) && (v.slot == n)) = true := by simp [h.1, h.2]
    simp [this]
  · rw [if_neg h]
    have : ((v.cm == cm) && (v.slot == n)) = false := by
      rw [Bool.eq_false_iff]
      intro e
      simp only [Bool.and_eq_true, beq_iff_eq] at e
      exact h e
    simp [this]
theorem nd_snoc {l : List (Int × Vt)} (nd : (l.map (·.1)).Nodup) {k : Int} (h : hasG l k = false) (v : Vt) : ((l ++ [(k, v)]).map (·.1)).Nodup := by
  rw [List.map_append, List.nodup_append]
  refine ⟨nd, by simp, fun a ha b hb => ?_⟩
  simp only [List.map_cons, List.map_nil, List.mem_singleton] at hb
  obtain ⟨p, hp, rfl⟩ := List.mem_map.1 ha
  have hn : getG l k = none := by unfold hasG at h; cases hg : getG l k; rfl; rw [hg] at h; cases h
  rw [hb]
  exact getG_none.1 hn p hp
/-- A vote that is taken. -/
theorem sim_vote {g : Lo} {m : RL14} (s : Sim g m) {i : Nat} (h4 : i < 4) (cm : Bool) (f : Int) (v : Vt) (hno : hasG (if cm = true then (g.sl i).com else (g.sl i).prep) f = false) :
    Sim (putS g i (lookS g.mem g.view (slN g.ep i) (if cm = true then { g.sl i with com := setG (g.sl i).com f v } else { g.sl i with prep := setG (g.sl i).prep f v }))) (voteR m ⟨cm, f, slN g.ep i, v⟩) := by
  have q := s.sl i h4
  have hsz := s.size
  have hkl := s.kl; have hdl := s.dl
  unfold sizeR at hsz
  have others : ∀ j, j < 4 → j ≠ i → SimS { m with votes := m.votes ++ [⟨cm, f, slN g.ep i, v⟩] } (slN g.ep j) (g.sl j) := fun j hj hji => by
    have q2 := s.sl j hj
    have hne : ¬ (slN g.ep i = slN g.ep j) := fun e => hji (slN_inj e).symm
    refine ⟨q2.prop, ?_, ?_, q2.cert, q2.done, q2.nd1, q2.nd2, q2.vw⟩
    · show voteM (m.votes ++ [_]) _ _ = _
      rw [voteM_app, if_neg (fun e => hne e.2)]; exact q2.prep
    · show voteM (m.votes ++ [_]) _ _ = _
      rw [voteM_app, if_neg (fun e => hne e.2)]; exact q2.com
  cases cm with
  | false =>
    simp only [Bool.false_eq_true, if_false] at hno ⊢
    have zs := sum4_same sizeS g h4 { g.sl i with prep := setG (g.sl i).prep f v } 1 (by unfold sizeS; rw [setG_new v hno, List.length_append]; simp only [List.length_cons, List.length_nil]; omega)
    have zk := sum4_same cb g h4 { g.sl i with prep := setG (g.sl i).prep f v } 0 rfl
    have zd := sum4_same db g h4 { g.sl i with prep := setG (g.sl i).prep f v } 0 rfl
    refine look_sim (m := { m with votes := m.votes ++ [⟨false, f, slN g.ep i, v⟩] }) h4 s.ep s.mem s.view ⟨q.prop, ?_, ?_, q.cert, q.done, ?_, q.nd2, q.vw⟩ others s.ml ?_ ?_ ?_ s.out
    · show voteM (m.votes ++ [_]) _ _ = setG _ _ _
      rw [voteM_app, if_pos ⟨rfl, rfl⟩, q.prep, setG_new v hno]
    · show voteM (m.votes ++ [_]) _ _ = _
      rw [voteM_app, if_neg (fun e => by cases e.1)]; exact q.com
    · show ((setG (g.sl i).prep f v).map (·.1)).Nodup
      rw [setG_new v hno]; exact nd_snoc q.nd1 hno v
    · show _ = m.props.length + (m.votes ++ [_]).length
      rw [List.length_append, zs, hsz]; simp only [List.length_cons, List.length_nil]; omega
    · show m.kept.length = _; rw [zk]; exact hkl
    · show m.done.length = _; rw [zd]; exact hdl
  | true =>
    simp only [if_true] at hno ⊢
    have zs := sum4_same sizeS g h4 { g.sl i with com := setG (g.sl i).com f v } 1 (by unfold sizeS; rw [setG_new v hno, List.length_append]; simp only [List.length_cons, List.length_nil]; omega)
    have zk := sum4_same cb g h4 { g.sl i with com := setG (g.sl i).com f v } 0 rfl
    have zd := sum4_same db g h4 { g.sl i with com := setG (g.sl i).com f v } 0 rfl
    refine look_sim (m := { m with votes := m.votes ++ [⟨true, f, slN g.ep i, v⟩] }) h4 s.ep s.mem s.view ⟨q.prop, ?_, ?_, q.cert, q.done, q.nd1, ?_, q.vw⟩ others s.ml ?_ ?_ ?_ s.out
    · show voteM (m.votes ++ [_]) _ _ = _
      rw [voteM_app, if_neg (fun e => by cases e.1)]; exact q.prep
    · show voteM (m.votes ++ [_]) _ _ = setG _ _ _
      rw [voteM_app, if_pos ⟨rfl, rfl⟩, q.com, setG_new v hno]
    · show ((setG (g.sl i).com f v).map (·.1)).Nodup
      rw [setG_new v hno]; exact nd_snoc q.nd2 hno v
    · show _ = m.props.length + (m.votes ++ [_]).length
      rw [List.length_append, zs, hsz]; simp only [List.length_cons, List.length_nil]; omega
    · show m.kept.length = _; rw [zk]; exact hkl
    · show m.done.length = _; rw [zd]; exact hdl
theorem sim_prepareE {g : Lo} {m : RL14} (s : Sim g m) (f n : Int) (r : Req) (by_ : Int) (text : ByteArray) : prepareRE m f n r by_ text = prepareE g f n r by_ text := by
  unfold prepareRE mayRE prepareE voteE
  rw [slotOk_idx, s.ep, s.mem, s.view]
  cases hi : idxN g.ep n with
  | none => cases askedB r <;> simp
  | some i =>
    obtain ⟨h4, hn⟩ := idx_slN hi
    have := voted_has (s.sl i h4).prep f
    rw [← hn] at this
    simp only [Option.isSome_some, if_true]
    rw [this]
    cases askedB r <;> cases hasB g.mem f <;> simp
theorem sim_commitE {g : Lo} {m : RL14} (s : Sim g m) (f n : Int) (r : Req) : commitRE m f n r = commitE g f n r := by
  unfold commitRE mayRE commitE voteE
  rw [slotOk_idx, s.ep, s.mem]
  cases hi : idxN g.ep n with
  | none => cases askedB r <;> simp
  | some i =>
    obtain ⟨h4, hn⟩ := idx_slN hi
    have := voted_has (s.sl i h4).com f
    rw [← hn] at this
    simp only [Option.isSome_some, if_true]
    rw [this]
    cases askedB r <;> cases hasB g.mem f <;> simp
theorem sim_prepare {g : Lo} {m : RL14} (s : Sim g m) (f n : Int) (r : Req) (by_ : Int) (text : ByteArray) : Sim (prepareG g f n r by_ text) (prepareR m f n r by_ text) := by
  unfold prepareG prepareR
  rw [sim_prepareE s]
  by_cases he : prepareE g f n r by_ text = 0
  · rw [if_pos he, if_pos he]
    have he' := he
    unfold prepareE at he'
    cases hi : idxN g.ep n with
    | none => rw [hi] at he'; split at he' <;> simp at he'
    | some i =>
      obtain ⟨h4, hn⟩ := idx_slN hi
      rw [hi] at he'
      have hno : hasG (g.sl i).prep f = false := by
        cases h : hasG (g.sl i).prep f
        · rfl
        · simp only [h] at he'; split at he' <;> (try split at he') <;> (try split at he') <;> simp at he'
      subst hn
      exact sim_vote s h4 false f ⟨r, by_, text⟩ hno
  · rw [if_neg he, if_neg he]; exact s
theorem sim_commit {g : Lo} {m : RL14} (s : Sim g m) (f n : Int) (r : Req) : Sim (commitG g f n r) (commitR m f n r) := by
  unfold commitG commitR
  rw [sim_commitE s]
  by_cases he : commitE g f n r = 0
  · rw [if_pos he, if_pos he]
    have he' := he
    unfold commitE at he'
    cases hi : idxN g.ep n with
    | none => rw [hi] at he'; split at he' <;> simp at he'
    | some i =>
      obtain ⟨h4, hn⟩ := idx_slN hi
      rw [hi] at he'
      have hno : hasG (g.sl i).com f = false := by
        cases h : hasG (g.sl i).com f
        · rfl
        · exfalso; simp only [h] at he'; split at he' <;> (try split at he') <;> (try split at he') <;> simp_all
      subst hn
      exact sim_vote s h4 true f ⟨r, 0, ByteArray.empty⟩ hno
  · rw [if_neg he, if_neg he]; exact s
/-! What both tell. -/
theorem sim_proposed {g : Lo} {m : RL14} (s : Sim g m) (n : Int) : getG m.props n = proposedO g n := by
  unfold proposedO
  cases hi : idxN g.ep n with
  | none => exact (s.out n hi).1
  | some i => obtain ⟨h4, hn⟩ := idx_slN hi; rw [hn]; exact (s.sl i h4).prop
theorem sim_committed {g : Lo} {m : RL14} (s : Sim g m) (n : Int) : getG m.done n = committedO g n := by
  unfold committedO
  cases hi : idxN g.ep n with
  | none => exact (s.out n hi).2
  | some i => obtain ⟨h4, hn⟩ := idx_slN hi; rw [hn]; exact (s.sl i h4).done
theorem sim_certs {g : Lo} {m : RL14} (s : Sim g m) : certsR m = certsG g := by
  unfold certsR certsG
  have hh : ∀ i : Nat, i < 4 → m.kept.filter (fun c => c.slot == 4 * m.ep + ((i : Int) + 1)) = (g.sl i).cert.toList := fun i hi => by
    rw [← (s.sl i hi).cert, s.ep]
    have : 4 * g.ep + ((i : Int) + 1) = slN g.ep i := by unfold slN; omega
    rw [this]
  simp only [List.range, List.range.loop, List.flatMap_cons, List.flatMap_nil, List.filterMap_cons, List.filterMap_nil]
  have a0 := hh 0 (by decide); have a1 := hh 1 (by decide); have a2 := hh 2 (by decide); have a3 := hh 3 (by decide)
  rw [a0, a1, a2, a3]
  cases (g.sl 0).cert <;> cases (g.sl 1).cert <;> cases (g.sl 2).cert <;> cases (g.sl 3).cert <;> rfl
theorem sim_prepared {g : Lo} {m : RL14} (s : Sim g m) (n : Int) : prepR m n = preparedB g n := by
  unfold prepR preparedB
  cases hi : idxN g.ep n with
  | none => rw [(s.out n hi).1]
  | some i =>
  obtain ⟨h4, hn⟩ := idx_slN hi
  have q := s.sl i h4
  rw [hn, q.prop]
  simp only
  cases hp : (g.sl i).prop with
  | none =>
    unfold agreeO
    exact (enough_zero s.ml).symm
  | some r =>
    simp only
    unfold agreeO
    rw [who_len q.prep q.nd1, s.mem]
end Go.Proofs.Ytakbkpklfihfiaa
