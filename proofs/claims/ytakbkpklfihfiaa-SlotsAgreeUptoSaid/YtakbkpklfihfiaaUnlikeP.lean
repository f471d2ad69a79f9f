/- Layer 16 in plain words: unlike changes have unlike texts (bytes of numbers, of signatures, of requests). Wants canon_lt: canonN x < 2^64. -/
import Derived.Test.YtakbkpklfihfiaaJoinI
namespace Go.Proofs.Ytakbkpklfihfiaa
open F64
set_option linter.unusedVariables false
set_option linter.unusedSimpArgs false
theorem put_zero {W : Wr} {ok : Bool} {c : List UInt8} (h : (putW W ok c).err = 0) : W.err = 0 ∧ ok = true ∧ (putW W ok c).bs = W.bs ++ c := by
  by_cases h0 : W.err = 0
  · cases ok with
    | false =>
      exfalso
      unfold putW at h
      rw [if_pos h0, if_neg (by simp)] at h
      unfold failW at h; simp at h
    | true =>
      have e : putW W true c = addW W c := by unfold putW; rw [if_pos h0, if_pos rfl]
      rw [e] at h ⊢
      unfold addW at h ⊢
      by_cases hr : W.room < c.length
      · rw [if_pos hr] at h; unfold failW at h; simp at h
      · rw [if_neg hr]; exact ⟨h0, rfl, rfl⟩
  · exfalso
    unfold putW at h
    rw [if_neg h0] at h
    exact h0 h
theorem lowB_inj {a b : Int} (h : lowB a = lowB b) : a % 256 = b % 256 := by rw [← lowB_toNat, ← lowB_toNat, h]
theorem big1_inj {a b : Int} (ha : 0 ≤ a ∧ a ≤ 255) (hb : 0 ≤ b ∧ b ≤ 255) (h : big1 a = big1 b) : a = b := by
  unfold big1 at h
  simp at h
  have := lowB_inj h; omega
theorem big2_inj {a b : Int} (ha : 0 ≤ a ∧ a ≤ 65535) (hb : 0 ≤ b ∧ b ≤ 65535) (h : big2 a = big2 b) : a = b := by
  unfold big2 at h
  simp at h
  have h1 := lowB_inj h.1; have h2 := lowB_inj h.2; omega
theorem big4_inj {a b : Int} (ha : 0 ≤ a ∧ a ≤ 4294967295) (hb : 0 ≤ b ∧ b ≤ 4294967295) (h : big4 a = big4 b) : a = b := by
  unfold big4 at h
  simp at h
  have h1 := lowB_inj h.1; have h2 := lowB_inj h.2.1; have h3 := lowB_inj h.2.2.1; have h4 := lowB_inj h.2.2.2; omega
theorem big8_inj {a b : Int} (ha : 0 ≤ a ∧ a ≤ 18446744073709551615) (hb : 0 ≤ b ∧ b ≤ 18446744073709551615) (h : big8 a = big8 b) : a = b := by
  unfold big8 at h
  obtain ⟨h1, h2⟩ := List.append_inj h rfl
  unfold big4 at h1 h2
  simp at h1 h2
  have a1 := lowB_inj h1.1; have a2 := lowB_inj h1.2.1; have a3 := lowB_inj h1.2.2.1; have a4 := lowB_inj h1.2.2.2
  have b1 := lowB_inj h2.1; have b2 := lowB_inj h2.2.1; have b3 := lowB_inj h2.2.2.1; have b4 := lowB_inj h2.2.2.2
  omega
theorem text_inj {s t X Y : List UInt8} (hs : s.length ≤ 65535) (ht : t.length ≤ 65535) (h : (big2 s.length ++ s) ++ X = (big2 t.length ++ t) ++ Y) : s = t ∧ X = Y := by
  rw [List.append_assoc, List.append_assoc] at h
  obtain ⟨h1, h2⟩ := List.append_inj h rfl
  have hl := big2_inj (by omega) (by omega) h1
  exact List.append_inj h2 (by omega)
def sigB (s : Sg) : List UInt8 := big1 s.by_ ++ (big2 s.text.data.toList.length ++ s.text.data.toList)
def SgOk (s : Sg) : Prop := (0 ≤ s.by_ ∧ s.by_ ≤ 255) ∧ s.text.data.toList.length ≤ 65535
theorem sigs_inj : ∀ (l m : List Sg) (X Y : List UInt8), l.length = m.length → (∀ s ∈ l, SgOk s) → (∀ s ∈ m, SgOk s) → l.flatMap sigB ++ X = m.flatMap sigB ++ Y → l = m ∧ X = Y
  | [], [], X, Y, _, _, _, h => ⟨rfl, by simpa using h⟩
  | [], _ :: _, _, _, hl, _, _, _ => by simp at hl
  | _ :: _, [], _, _, hl, _, _, _ => by simp at hl
  | s :: l, t :: m, X, Y, hl, h1, h2, h => by
    have hs := h1 s (List.mem_cons_self); have ht := h2 t (List.mem_cons_self)
    simp only [List.flatMap_cons, sigB, List.append_assoc] at h
    obtain ⟨e1, h⟩ := List.append_inj h rfl
    rw [← List.append_assoc (big2 _), ← List.append_assoc (big2 _)] at h
    obtain ⟨e2, h⟩ := text_inj hs.2 ht.2 h
    obtain ⟨e3, e4⟩ := sigs_inj l m X Y (by simpa using hl) (fun s hs => h1 s (List.mem_cons_of_mem _ hs)) (fun s hs => h2 s (List.mem_cons_of_mem _ hs)) h
    have eb := big1_inj hs.1 ht.1 e1
    have et : s.text = t.text := by
      have : s.text.data = t.text.data := Array.toList_inj.1 e2
      cases hx : s.text; cases hy : t.text; rw [hx, hy] at this; simp at this; rw [this]
    obtain ⟨sb, st⟩ := s; obtain ⟨tb, tt⟩ := t
    simp at eb et
    subst eb; subst et; rw [e3]
    exact ⟨rfl, e4⟩
theorem whole_of {a b : Req} (h1 : a.client = b.client) (h2 : a.stamp = b.stamp) (h3 : a.op.kind = b.op.kind) (h4 : keyL a = keyL b) (h5 : a.op.id = b.op.id) (h6 : canonN a.op.real = canonN b.op.real) : wholeB a b = true := by
  unfold keyL at h4
  unfold wholeB
  rw [toList_data, toList_data]
  simp [h1, h2, h3, h4, h5, h6]
theorem whole_parts {a b : Req} (h : wholeB a b = true) : a.client = b.client ∧ a.stamp = b.stamp ∧ a.op.kind = b.op.kind ∧ keyL a = keyL b ∧ a.op.id = b.op.id ∧ canonN a.op.real = canonN b.op.real := by
  unfold wholeB at h
  rw [toList_data, toList_data] at h
  simp only [Bool.and_eq_true, beq_iff_eq] at h
  obtain ⟨⟨⟨⟨⟨h1, h2⟩, h3⟩, h4⟩, h5⟩, h6⟩ := h
  exact ⟨h1, h2, h3, h4, h5, h6⟩
theorem reqT_inj {a b : Req} (xa : a.op.real < 18446744073709551616) (xb : b.op.real < 18446744073709551616) (ha : rightB a = true) (hb : rightB b = true) (h : reqT a = reqT b) : wholeB a b = true := by
  unfold rightB withinB at ha hb
  simp only [Bool.and_eq_true, decide_eq_true_eq] at ha hb
  have ka := op_bounds ha.2; have kb := op_bounds hb.2
  have la : (keyL a).length ≤ 65535 := by have := size_data a.op.key; unfold keyL; omega
  have lb : (keyL b).length ≤ 65535 := by have := size_data b.op.key; unfold keyL; omega
  unfold reqT at h
  simp only [List.append_assoc] at h
  obtain ⟨_, h⟩ := List.append_inj h rfl
  obtain ⟨e1, h⟩ := List.append_inj h rfl
  obtain ⟨e2, h⟩ := List.append_inj h rfl
  obtain ⟨e3, h⟩ := List.append_inj h rfl
  rw [← List.append_assoc (big2 _), ← List.append_assoc (big2 _)] at h
  obtain ⟨e4, h⟩ := text_inj la lb h
  obtain ⟨e5, e6⟩ := List.append_inj h rfl
  have ca := canon_lt xa; have cb := canon_lt xb
  exact whole_of (big1_inj (by omega) (by omega) e1) (big4_inj (by omega) (by omega) e2) (big1_inj (by omega) (by omega) e3) e4 (big1_inj (by omega) (by omega) e6) (by have := big8_inj (by omega) (by omega) e5; omega)
theorem reqT_head (a : Req) : ∃ t, reqT a = 1 :: t := ⟨_, rfl⟩
theorem reqL_inj {a b : Req} (xa : a.op.real < 18446744073709551616) (xb : b.op.real < 18446744073709551616) (ha : askedB a = true) (hb : askedB b = true) (h : reqL a = reqL b) : wholeB a b = true := by
  unfold askedB at ha hb
  unfold reqL at h
  cases hna : nullB a with
  | true =>
    cases hnb : nullB b with
    | true =>
      unfold nullB noneB at hna hnb
      simp only [Bool.and_eq_true, decide_eq_true_eq] at hna hnb
      have k1 : keyL a = [] := List.eq_nil_of_length_eq_zero (by unfold keyL; rw [size_data]; omega)
      have k2 : keyL b = [] := List.eq_nil_of_length_eq_zero (by unfold keyL; rw [size_data]; omega)
      exact whole_of (by omega) (by omega) (by omega) (by rw [k1, k2]) (by omega) (by omega)
    | false =>
      rw [hnb] at hb; simp at hb
      obtain ⟨t, ht⟩ := reqT_head b
      rw [hna, hnb, hb, ht] at h; simp at h
  | false =>
    rw [hna] at ha; simp at ha
    obtain ⟨t, ht⟩ := reqT_head a
    cases hnb : nullB b with
    | true => rw [hna, hnb, ha, ht] at h; simp at h
    | false =>
      rw [hnb] at hb; simp at hb
      rw [hna, hnb, ha, hb] at h
      simp at h
      exact reqT_inj xa xb ha hb h
theorem reqL_whole {a b : Req} (h : wholeB a b = true) : reqL a = reqL b := by
  obtain ⟨h1, h2, h3, h4, h5, h6⟩ := whole_parts h
  have hk : a.op.key.size = b.op.key.size := by rw [← size_data, ← size_data]; exact congrArg List.length h4
  have hn : nullB a = nullB b := by unfold nullB noneB; rw [h1, h2, h3, h5, h6, hk]
  have hr : rightB a = rightB b := by unfold rightB opB keyB noneB; rw [h1, h2, h3, h5, h6, hk]
  have ht : reqT a = reqT b := by unfold reqT; rw [h1, h2, h3, h4, h5, h6]
  unfold reqL
  rw [hn, hr, ht]
theorem okN_spec {n hi : Int} (h : okN n hi = true) : 0 ≤ n ∧ n ≤ hi := by unfold okN at h; simp only [Bool.and_eq_true, decide_eq_true_eq] at h; exact h
theorem byte_zero {W : Wr} {n : Int} (h : (byteW W n).err = 0) : W.err = 0 ∧ (0 ≤ n ∧ n ≤ 255) ∧ (byteW W n).bs = W.bs ++ big1 n := by
  obtain ⟨a, b, c⟩ := put_zero h; exact ⟨a, okN_spec b, c⟩
theorem word_zero {W : Wr} {n : Int} (h : (wordW W n).err = 0) : W.err = 0 ∧ (0 ≤ n ∧ n ≤ 65535) ∧ (wordW W n).bs = W.bs ++ big2 n := by
  obtain ⟨a, b, c⟩ := put_zero h; exact ⟨a, okN_spec b, c⟩
theorem textW_zero {W : Wr} {s : List UInt8} (h : (textW W s).err = 0) : W.err = 0 ∧ s.length ≤ 65535 ∧ (textW W s).bs = W.bs ++ (big2 s.length ++ s) := by
  obtain ⟨a, b, c⟩ := put_zero h; exact ⟨a, of_decide_eq_true b, c⟩
theorem wSigs_zero : ∀ (l : List Sg) (W : Wr), (wSigs W l).err = 0 → W.err = 0 ∧ (∀ s ∈ l, SgOk s) ∧ (wSigs W l).bs = W.bs ++ l.flatMap sigB
  | [], W, h => ⟨h, fun s hs => (List.not_mem_nil hs).elim, by simp [wSigs]⟩
  | s :: t, W, h => by
    obtain ⟨a, b, c⟩ := wSigs_zero t (wSig W s) h
    obtain ⟨d, e, f⟩ := textW_zero a
    obtain ⟨g, i, j⟩ := byte_zero d
    refine ⟨g, fun x hx => ?_, ?_⟩
    · rcases List.mem_cons.1 hx with rfl | hx
      · exact ⟨i, e⟩
      · exact b x hx
    · show (wSigs (wSig W s) t).bs = _
      rw [c, List.flatMap_cons, ← List.append_assoc]
      congr 1
      show (textW (byteW W s.by_) _).bs = _
      rw [f, j, sigB, List.append_assoc]
def certBy (x : Ct) : List UInt8 := big1 x.view ++ (big2 x.slot ++ ((big2 (reqL x.req).length ++ reqL x.req) ++ (big1 x.sigs.length ++ x.sigs.flatMap sigB)))
def CtIn (x : Ct) : Prop := (0 ≤ x.view ∧ x.view ≤ 255) ∧ (0 ≤ x.slot ∧ x.slot ≤ 65535) ∧ (reqL x.req).length ≤ 65535 ∧ x.sigs.length ≤ 255 ∧ ∀ s ∈ x.sigs, SgOk s
theorem wCert_zero {W : Wr} {x : Ct} (h : (wCert W x).err = 0) : W.err = 0 ∧ CtIn x ∧ (wCert W x).bs = W.bs ++ certBy x := by
  obtain ⟨a, b, c⟩ := wSigs_zero _ _ h
  obtain ⟨d, e, f⟩ := byte_zero a
  obtain ⟨g, i, j⟩ := textW_zero d
  obtain ⟨k, l, m⟩ := word_zero g
  obtain ⟨n, o, p⟩ := byte_zero k
  refine ⟨n, ⟨o, l, i, by omega, b⟩, ?_⟩
  show (wSigs _ _).bs = _
  rw [c, f, j, m, p]
  unfold certBy
  simp only [List.append_assoc]
theorem wCerts_zero : ∀ (l : List Ct) (W : Wr), (wCerts W l).err = 0 → W.err = 0 ∧ (∀ x ∈ l, CtIn x) ∧ (wCerts W l).bs = W.bs ++ l.flatMap certBy
  | [], W, h => ⟨h, fun s hs => (List.not_mem_nil hs).elim, by simp [wCerts]⟩
  | x :: t, W, h => by
    obtain ⟨a, b, c⟩ := wCerts_zero t (wCert W x) h
    obtain ⟨d, e, f⟩ := wCert_zero a
    refine ⟨d, fun y hy => ?_, ?_⟩
    · rcases List.mem_cons.1 hy with rfl | hy
      · exact e
      · exact b y hy
    · show (wCerts (wCert W x) t).bs = _
      rw [c, List.flatMap_cons, ← List.append_assoc, f]
def chBy (ep : Int) (c : Ch) : List UInt8 := big1 86 ++ (big2 ep ++ (big1 c.from_ ++ (big1 c.view ++ (big1 c.certs.length ++ c.certs.flatMap certBy))))
structure ChIn (ep : Int) (c : Ch) : Prop where
  ep : 0 ≤ ep ∧ ep ≤ 65535
  from_ : 0 ≤ c.from_ ∧ c.from_ ≤ 255
  view : 0 ≤ c.view ∧ c.view ≤ 255
  len : c.certs.length ≤ 255
  certs : ∀ x ∈ c.certs, CtIn x
theorem chW_zero {ep : Int} {c : Ch} (h : (chW ep c).err = 0) : ChIn ep c ∧ (chW ep c).bs = chBy ep c := by
  obtain ⟨a, b, c1⟩ := wCerts_zero _ _ h
  obtain ⟨d, e, f⟩ := byte_zero a
  obtain ⟨g, i, j⟩ := byte_zero d
  obtain ⟨k, l, m⟩ := byte_zero g
  obtain ⟨n, o, p⟩ := word_zero k
  obtain ⟨q, r, s⟩ := byte_zero n
  refine ⟨⟨o, l, i, by omega, b⟩, ?_⟩
  show (wCerts _ _).bs = _
  rw [c1]
  show (byteW _ _).bs ++ _ = _
  rw [f, j, m, p, s]
  unfold chBy
  simp only [newW, List.nil_append, List.append_assoc]
def sgEq (a b : Sg) : Bool := (a.by_ == b.by_) && (a.text.toList == b.text.toList)
def sigsEq : List Sg → List Sg → Bool
  | [], [] => true
  | x :: xs, y :: ys => sgEq x y && sigsEq xs ys
  | _, _ => false
theorem sgEq_iff (a b : Sg) : sgEq a b = true ↔ a = b := by
  unfold sgEq
  rw [toList_data, toList_data]
  obtain ⟨ab, ⟨ad⟩⟩ := a
  obtain ⟨bb, ⟨bd⟩⟩ := b
  simp [Array.toList_inj]
theorem sigsEq_iff : ∀ (l m : List Sg), sigsEq l m = true ↔ l = m
  | [], [] => by simp [sigsEq]
  | [], _ :: _ => by simp [sigsEq]
  | _ :: _, [] => by simp [sigsEq]
  | x :: l, y :: m => by simp only [sigsEq, Bool.and_eq_true, sgEq_iff, sigsEq_iff l m, List.cons.injEq]
def certEq (x y : Ct) : Bool := (x.view == y.view) && (x.slot == y.slot) && wholeB x.req y.req && sigsEq x.sigs y.sigs
def certsEq : List Ct → List Ct → Bool
  | [], [] => true
  | x :: xs, y :: ys => certEq x y && certsEq xs ys
  | _, _ => false
/-- What the text of a certificate's request wants, to be read back. -/
def Asks (x : Ct) : Prop := askedB x.req = true ∧ x.req.op.real < 18446744073709551616
theorem cert_inj {x y : Ct} {X Y : List UInt8} (hx : CtIn x) (hy : CtIn y) (ax : Asks x) (ay : Asks y) (h : certBy x ++ X = certBy y ++ Y) : certEq x y = true ∧ X = Y := by
  unfold certBy at h
  simp only [List.append_assoc] at h
  obtain ⟨e1, h⟩ := List.append_inj h rfl
  obtain ⟨e2, h⟩ := List.append_inj h rfl
  rw [← List.append_assoc (big2 _), ← List.append_assoc (big2 _)] at h
  obtain ⟨e3, h⟩ := text_inj hx.2.2.1 hy.2.2.1 h
  obtain ⟨e4, h⟩ := List.append_inj h rfl
  have hl := big1_inj (by have := hx.2.2.2.1; omega) (by have := hy.2.2.2.1; omega) e4
  obtain ⟨e5, e6⟩ := sigs_inj _ _ _ _ (by omega) hx.2.2.2.2 hy.2.2.2.2 h
  refine ⟨?_, e6⟩
  unfold certEq
  rw [big1_inj hx.1 hy.1 e1, big2_inj hx.2.1 hy.2.1 e2, reqL_inj ax.2 ay.2 ax.1 ay.1 e3, (sigsEq_iff _ _).2 e5]
  simp
theorem certs_inj : ∀ (l m : List Ct) (X Y : List UInt8), l.length = m.length → (∀ x ∈ l, CtIn x ∧ Asks x) → (∀ x ∈ m, CtIn x ∧ Asks x) → l.flatMap certBy ++ X = m.flatMap certBy ++ Y → certsEq l m = true ∧ X = Y
  | [], [], X, Y, _, _, _, h => ⟨rfl, by simpa using h⟩
  | [], _ :: _, _, _, hl, _, _, _ => by simp at hl
  | _ :: _, [], _, _, hl, _, _, _ => by simp at hl
  | x :: l, y :: m, X, Y, hl, h1, h2, h => by
    simp only [List.flatMap_cons, List.append_assoc] at h
    have hx := h1 x (List.mem_cons_self); have hy := h2 y (List.mem_cons_self)
    obtain ⟨e1, h⟩ := cert_inj hx.1 hy.1 hx.2 hy.2 h
    obtain ⟨e2, e3⟩ := certs_inj l m X Y (by simpa using hl) (fun s hs => h1 s (List.mem_cons_of_mem _ hs)) (fun s hs => h2 s (List.mem_cons_of_mem _ hs)) h
    refine ⟨?_, e3⟩
    unfold certsEq
    rw [e1, e2]; rfl
theorem cert_same {x y : Ct} (h : certEq x y = true) : certBy x = certBy y := by
  unfold certEq at h
  simp only [Bool.and_eq_true, beq_iff_eq] at h
  obtain ⟨⟨⟨h1, h2⟩, h3⟩, h4⟩ := h
  unfold certBy
  rw [h1, h2, reqL_whole h3, (sigsEq_iff _ _).1 h4]
theorem certs_same : ∀ (l m : List Ct), certsEq l m = true → l.flatMap certBy = m.flatMap certBy
  | [], [], _ => rfl
  | [], _ :: _, h => by simp [certsEq] at h
  | _ :: _, [], h => by simp [certsEq] at h
  | x :: l, y :: m, h => by
    simp only [certsEq, Bool.and_eq_true] at h
    rw [List.flatMap_cons, List.flatMap_cons, cert_same h.1, certs_same l m h.2]
/-- The same change, but for its signature; of the same epoch. -/
def chEq (e1 : Int) (a : Ch) (e2 : Int) (b : Ch) : Bool := (e1 == e2) && (a.from_ == b.from_) && (a.view == b.view) && decide (a.certs.length = b.certs.length) && certsEq a.certs b.certs
theorem chBy_iff {e1 e2 : Int} {a b : Ch} (ha : ChIn e1 a) (hb : ChIn e2 b) (qa : ∀ x ∈ a.certs, Asks x) (qb : ∀ x ∈ b.certs, Asks x) : (chBy e1 a = chBy e2 b) ↔ chEq e1 a e2 b = true := by
  constructor
  · intro h
    unfold chBy at h
    obtain ⟨_, h⟩ := List.append_inj h rfl
    obtain ⟨h1, h⟩ := List.append_inj h rfl
    obtain ⟨h2, h⟩ := List.append_inj h rfl
    obtain ⟨h3, h⟩ := List.append_inj h rfl
    obtain ⟨h4, h⟩ := List.append_inj h rfl
    have hl := big1_inj (by have := ha.len; omega) (by have := hb.len; omega) h4
    have hc := (certs_inj a.certs b.certs [] [] (by omega) (fun x hx => ⟨ha.certs x hx, qa x hx⟩) (fun x hx => ⟨hb.certs x hx, qb x hx⟩) (by rw [h])).1
    unfold chEq
    rw [big2_inj ha.ep hb.ep h1, big1_inj ha.from_ hb.from_ h2, big1_inj ha.view hb.view h3, hc, decide_eq_true (show a.certs.length = b.certs.length by omega)]
    simp
  · intro h
    unfold chEq at h
    simp only [Bool.and_eq_true, beq_iff_eq, decide_eq_true_eq] at h
    obtain ⟨⟨⟨⟨h1, h2⟩, h3⟩, h4⟩, h5⟩ := h
    unfold chBy
    rw [h1, h2, h3, h4, certs_same _ _ h5]
end Go.Proofs.Ytakbkpklfihfiaa
