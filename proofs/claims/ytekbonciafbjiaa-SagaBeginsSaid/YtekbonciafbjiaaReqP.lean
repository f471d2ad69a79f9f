/- Requests in plain words: same texts are whole requests. No program in sight. -/
import Derived.Test.YtekbonciafbjiaaDeedsP
namespace Go.Proofs.Ytekbonciafbjiaa
open F64
set_option linter.unusedVariables false
set_option linter.unusedSimpArgs false
/-- A request's fields are such as a machine holds. -/
structure ReqOk (r : Req) : Prop where
  c : I64 r.client
  s : I64 r.stamp
  k : I64 r.op.kind
  id : I64 r.op.id
  x : r.op.real < 18446744073709551616
  key : r.op.key.size ≤ 9223372036854775807
def Req.cells (r : Req) : List Value := [.int .i64 r.client, .int .i64 r.stamp, .int .i64 r.op.kind, .string r.op.key, .float .f64 r.op.real, .int .i64 r.op.id]
def nullR : Req := ⟨0, 0, ⟨0, ByteArray.empty, 0, 0⟩⟩
def askedB (r : Req) : Bool := rightB r || nullB r
def wholeB (a b : Req) : Bool := (a.client == b.client) && (a.stamp == b.stamp) && (a.op.kind == b.op.kind) && (a.op.key.toList == b.op.key.toList) && (a.op.id == b.op.id) && (canonN a.op.real == canonN b.op.real)
theorem wholeB_self (a : Req) : wholeB a a = true := by unfold wholeB; simp
theorem lowB_inj {a b : Int} (h : lowB a = lowB b) : a % 256 = b % 256 := by rw [← lowB_toNat, ← lowB_toNat, h]
theorem big1_inj {a b : Int} (ha : 0 ≤ a ∧ a ≤ 255) (hb : 0 ≤ b ∧ b ≤ 255) (h : big1 a = big1 b) : a = b := by
  unfold big1 at h
  simp at h
  have := lowB_inj h; omega
theorem big2_inj {a b : Int} (ha : 0 ≤ a ∧ a ≤ 65535) (hb : 0 ≤ b ∧ b ≤ 65535) (h : big2 a = big2 b) : a = b := by
  unfold big2 at h
  simp at h
  have h1 := lowB_inj h.1; have h2 := lowB_inj h.2; omega
theorem big4_inj {a b : Int} (ha : 0 ≤ a ∧ a ≤ 4294967295) (hb : 0 ≤ b ∧ b ≤ 4294967295) (h : big4 a = big4 b) : a = b := by
  unfold big4 at h
  simp at h
  have h1 := lowB_inj h.1; have h2 := lowB_inj h.2.1; have h3 := lowB_inj h.2.2.1; have h4 := lowB_inj h.2.2.2; omega
theorem big8_inj {a b : Int} (ha : 0 ≤ a ∧ a ≤ 18446744073709551615) (hb : 0 ≤ b ∧ b ≤ 18446744073709551615) (h : big8 a = big8 b) : a = b := by
  unfold big8 at h
  obtain ⟨h1, h2⟩ := List.append_inj h rfl
  unfold big4 at h1 h2
  simp at h1 h2
  have a1 := lowB_inj h1.1; have a2 := lowB_inj h1.2.1; have a3 := lowB_inj h1.2.2.1; have a4 := lowB_inj h1.2.2.2
  have b1 := lowB_inj h2.1; have b2 := lowB_inj h2.2.1; have b3 := lowB_inj h2.2.2.1; have b4 := lowB_inj h2.2.2.2
  omega
theorem text_inj {s t X Y : List UInt8} (hs : s.length ≤ 65535) (ht : t.length ≤ 65535) (h : (big2 s.length ++ s) ++ X = (big2 t.length ++ t) ++ Y) : s = t ∧ X = Y := by
  rw [List.append_assoc, List.append_assoc] at h
  obtain ⟨h1, h2⟩ := List.append_inj h rfl
  have hl := big2_inj (by omega) (by omega) h1
  exact List.append_inj h2 (by omega)
theorem whole_of {a b : Req} (h1 : a.client = b.client) (h2 : a.stamp = b.stamp) (h3 : a.op.kind = b.op.kind) (h4 : keyL a = keyL b) (h5 : a.op.id = b.op.id) (h6 : canonN a.op.real = canonN b.op.real) : wholeB a b = true := by
  unfold keyL at h4
  unfold wholeB
  rw [toList_data, toList_data]
  simp [h1, h2, h3, h4, h5, h6]
theorem whole_parts {a b : Req} (h : wholeB a b = true) : a.client = b.client ∧ a.stamp = b.stamp ∧ a.op.kind = b.op.kind ∧ keyL a = keyL b ∧ a.op.id = b.op.id ∧ canonN a.op.real = canonN b.op.real := by
  unfold wholeB at h
  rw [toList_data, toList_data] at h
  simp only [Bool.and_eq_true, beq_iff_eq] at h
  obtain ⟨⟨⟨⟨⟨h1, h2⟩, h3⟩, h4⟩, h5⟩, h6⟩ := h
  exact ⟨h1, h2, h3, h4, h5, h6⟩
theorem reqT_inj {a b : Req} (xa : a.op.real < 18446744073709551616) (xb : b.op.real < 18446744073709551616) (ha : rightB a = true) (hb : rightB b = true) (h : reqT a = reqT b) : wholeB a b = true := by
  unfold rightB withinB at ha hb
  simp only [Bool.and_eq_true, decide_eq_true_eq] at ha hb
  have ka := op_bounds ha.2; have kb := op_bounds hb.2
  have la : (keyL a).length ≤ 65535 := by have := size_data a.op.key; unfold keyL; omega
  have lb : (keyL b).length ≤ 65535 := by have := size_data b.op.key; unfold keyL; omega
  unfold reqT at h
  simp only [List.append_assoc] at h
  obtain ⟨_, h⟩ := List.append_inj h rfl
  obtain ⟨e1, h⟩ := List.append_inj h rfl
  obtain ⟨e2, h⟩ := List.append_inj h rfl
  obtain ⟨e3, h⟩ := List.append_inj h rfl
  rw [← List.append_assoc (big2 _), ← List.append_assoc (big2 _)] at h
  obtain ⟨e4, h⟩ := text_inj la lb h
  obtain ⟨e5, e6⟩ := List.append_inj h rfl
  have ca := canon_lt xa; have cb := canon_lt xb
  exact whole_of (big1_inj (by omega) (by omega) e1) (big4_inj (by omega) (by omega) e2) (big1_inj (by omega) (by omega) e3) e4 (big1_inj (by omega) (by omega) e6) (by have := big8_inj (by omega) (by omega) e5; omega)
theorem reqT_head (a : Req) : ∃ t, reqT a = 1 :: t := ⟨_, rfl⟩
theorem reqL_inj {a b : Req} (xa : a.op.real < 18446744073709551616) (xb : b.op.real < 18446744073709551616) (ha : askedB a = true) (hb : askedB b = true) (h : reqL a = reqL b) : wholeB a b = true := by
  unfold askedB at ha hb
  unfold reqL at h
  cases hna : nullB a with
  | true =>
    cases hnb : nullB b with
    | true =>
      unfold nullB noneB at hna hnb
      simp only [Bool.and_eq_true, decide_eq_true_eq] at hna hnb
      have k1 : keyL a = [] := List.eq_nil_of_length_eq_zero (by unfold keyL; rw [size_data]; omega)
      have k2 : keyL b = [] := List.eq_nil_of_length_eq_zero (by unfold keyL; rw [size_data]; omega)
      exact whole_of (by omega) (by omega) (by omega) (by rw [k1, k2]) (by omega) (by omega)
    | false =>
      rw [hnb] at hb; simp at hb
      obtain ⟨t, ht⟩ := reqT_head b
      rw [hna, hnb, hb, ht] at h; simp at h
  | false =>
    rw [hna] at ha; simp at ha
    obtain ⟨t, ht⟩ := reqT_head a
    cases hnb : nullB b with
    | true => rw [hna, hnb, ha, ht] at h; simp at h
    | false =>
      rw [hnb] at hb; simp at hb
      rw [hna, hnb, ha, hb] at h
      simp at h
      exact reqT_inj xa xb ha hb h
theorem reqL_whole {a b : Req} (h : wholeB a b = true) : reqL a = reqL b := by
  obtain ⟨h1, h2, h3, h4, h5, h6⟩ := whole_parts h
  have hk : a.op.key.size = b.op.key.size := by rw [← size_data, ← size_data]; exact congrArg List.length h4
  have hn : nullB a = nullB b := by unfold nullB noneB; rw [h1, h2, h3, h5, h6, hk]
  have hr : rightB a = rightB b := by unfold rightB opB keyB noneB; rw [h1, h2, h3, h5, h6, hk]
  have ht : reqT a = reqT b := by unfold reqT; rw [h1, h2, h3, h4, h5, h6]
  unfold reqL
  rw [hn, hr, ht]
def sameT (a b : Req) : Bool := (reqE a == 0) && (reqE b == 0) && ((reqS a).toList == (reqS b).toList)
theorem sameT_whole {a b : Req} (xa : a.op.real < 18446744073709551616) (xb : b.op.real < 18446744073709551616) (h : sameT a b = true) : wholeB a b = true := by
  unfold sameT at h
  simp only [Bool.and_eq_true, beq_iff_eq] at h
  obtain ⟨⟨h1, h2⟩, h3⟩ := h
  have ask : ∀ r : Req, reqE r = 0 → askedB r = true := fun r h => by
    unfold reqE at h; unfold askedB
    cases hn : nullB r <;> cases hr : rightB r <;> simp [hn, hr] at h ⊢
  have h4 : reqS a = reqS b := toList_inj h3
  have h5 : reqL a = reqL b := by
    unfold reqS at h4
    have := congrArg (fun x : ByteArray => x.data.toList) h4
    simpa using this
  exact reqL_inj xa xb (ask a h1) (ask b h2) h5
theorem sameT_self {a : Req} (h : askedB a = true) : sameT a a = true := by
  unfold sameT reqE
  unfold askedB at h
  cases hn : nullB a <;> cases hr : rightB a <;> simp [hn, hr] at h ⊢
end Go.Proofs.Ytekbonciafbjiaa
