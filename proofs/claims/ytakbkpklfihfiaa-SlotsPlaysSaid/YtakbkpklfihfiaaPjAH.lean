/- Joined texts: LedgP, DeedsP, ChangeP. What each proves stands at its head; no conditions beside those in its theorems. -/
import Derived.Test.YtakbkpklfihfiaaPjAA
import Derived.Test.YtakbkpklfihfiaaPjAC
/- Layer 12 (ledger), in plain words: what each call comes to. No program in sight. -/
namespace Go.Proofs.Ytakbkpklfihfiaa
open F64
set_option linter.unusedVariables false
set_option linter.unusedSimpArgs false

theorem rightB_facts {r : Req} (h : rightB r = true) : 1 ≤ r.client ∧ r.client ≤ 8 ∧ 1 ≤ r.stamp ∧ r.stamp ≤ 1048576 ∧ opB r.op = true := by
  unfold rightB withinB at h
  simp only [Bool.and_eq_true, decide_eq_true_eq] at h
  obtain ⟨⟨⟨a, b⟩, c, d⟩, e⟩ := h
  exact ⟨a, b, c, d, e⟩
theorem null_not_right {r : Req} (h : nullB r = true) : rightB r = false := by
  cases hr : rightB r
  · rfl
  · have := rightB_facts hr
    unfold nullB at h
    simp only [Bool.and_eq_true, decide_eq_true_eq] at h
    omega
end Go.Proofs.Ytakbkpklfihfiaa

/- Texts of layer 11, in plain words. No program in sight. -/
namespace Go.Proofs.Ytakbkpklfihfiaa
open F64
set_option linter.unusedVariables false
set_option linter.unusedSimpArgs false

def keyL (r : Req) : List UInt8 := r.op.key.data.toList
def reqT (r : Req) : List UInt8 := big1 1 ++ big1 r.client ++ big4 r.stamp ++ big1 r.op.kind ++ (big2 (keyL r).length ++ keyL r) ++ big8 (canonN r.op.real) ++ big1 r.op.id
def reqW (lim : Int) (r : Req) : Wr := byteW (bitsW (textW (byteW (longW (byteW (byteW (newW lim) 1) r.client) r.stamp) r.op.kind) (keyL r)) (canonN r.op.real)) r.op.id
/-- A request's text, and its error. -/
def reqL (r : Req) : List UInt8 := if nullB r = true then [0] else if rightB r = true then reqT r else []
def reqS (r : Req) : ByteArray := ⟨(reqL r).toArray⟩
def reqE (r : Req) : Int := if nullB r = true then 0 else if rightB r = true then 0 else 1
theorem put_good {W : Wr} (h : W.err = 0) {c : List UInt8} (hc : (c.length : Int) ≤ W.room) : putW W true c = ⟨W.bs ++ c, W.room - c.length, 0⟩ := by
  unfold putW addW
  rw [if_pos h, if_pos rfl, if_neg (by omega), h]
theorem op_bounds {o : Opn} (h : opB o = true) : 0 ≤ o.kind ∧ o.kind ≤ 255 ∧ 0 ≤ o.id ∧ o.id ≤ 255 ∧ o.key.size ≤ 16 := by
  have kk : keyB o = true → o.key.size ≤ 16 ∧ o.id = 0 := by
    intro hh; unfold keyB at hh; simp only [Bool.and_eq_true, decide_eq_true_eq] at hh; exact ⟨hh.1.2, hh.2⟩
  unfold opB at h
  split at h
  · simp only [Bool.and_eq_true] at h
    have := kk h.2; omega
  · split at h
    · have := kk h; omega
    · split at h
      · simp only [Bool.and_eq_true, decide_eq_true_eq] at h; omega
      · cases h
theorem okN_of {n hi : Int} (h0 : 0 ≤ n) (h1 : n ≤ hi) : okN n hi = true := by unfold okN; simp [h0, h1]
theorem reqT_length (r : Req) : ((reqT r).length : Int) = 18 + (keyL r).length := by
  unfold reqT
  simp [big1, big2, big4, big8]
  omega
theorem req_run {r : Req} (h : rightB r = true) {lim : Int} (hl : 35 ≤ lim) : reqW lim r = ⟨reqT r, lim - (reqT r).length, 0⟩ := by
  obtain ⟨h1, h2, h3, h4, h5⟩ := rightB_facts h
  obtain ⟨o1, o2, o3, o4, o5⟩ := op_bounds h5
  have hk : (keyL r).length ≤ 16 := by have : (keyL r).length = r.op.key.size := size_data _; omega
  have hn : newW lim = ⟨[], lim, 0⟩ := by unfold newW; rw [if_pos (by omega)]
  unfold reqW byteW longW textW bitsW
  rw [hn, okN_of (by decide) (by decide), okN_of (by omega) (by omega), okN_of (by omega) (by omega), okN_of o1 o2, okN_of o3 o4, decide_eq_true (by omega : (keyL r).length ≤ 65535)]
  have p1 := put_good (W := ⟨[], lim, 0⟩) rfl (c := big1 1) (by simp [big1]; omega)
  rw [p1]
  have p2 := put_good (W := ⟨[] ++ big1 1, lim - (big1 1).length, 0⟩) rfl (c := big1 r.client) (by simp [big1]; omega)
  rw [p2]
  have p3 := put_good (W := ⟨[] ++ big1 1 ++ big1 r.client, lim - (big1 1).length - (big1 r.client).length, 0⟩) rfl (c := big4 r.stamp) (by simp [big1, big4]; omega)
  rw [p3]
  have p4 := put_good (W := ⟨[] ++ big1 1 ++ big1 r.client ++ big4 r.stamp, lim - (big1 1).length - (big1 r.client).length - (big4 r.stamp).length, 0⟩) rfl (c := big1 r.op.kind) (by simp [big1, big4]; omega)
  rw [p4]
  have p5 := put_good (W := ⟨[] ++ big1 1 ++ big1 r.client ++ big4 r.stamp ++ big1 r.op.kind, lim - (big1 1).length - (big1 r.client).length - (big4 r.stamp).length - (big1 r.op.kind).length, 0⟩) rfl (c := big2 (keyL r).length ++ keyL r) (by simp [big1, big2, big4]; omega)
  rw [p5]
  have p6 := put_good (W := ⟨[] ++ big1 1 ++ big1 r.client ++ big4 r.stamp ++ big1 r.op.kind ++ (big2 (keyL r).length ++ keyL r), lim - (big1 1).length - (big1 r.client).length - (big4 r.stamp).length - (big1 r.op.kind).length - (big2 (keyL r).length ++ keyL r).length, 0⟩) rfl (c := big8 (canonN r.op.real)) (by simp [big1, big2, big4, big8]; omega)
  rw [p6]
  have p7 := put_good (W := ⟨[] ++ big1 1 ++ big1 r.client ++ big4 r.stamp ++ big1 r.op.kind ++ (big2 (keyL r).length ++ keyL r) ++ big8 (canonN r.op.real), lim - (big1 1).length - (big1 r.client).length - (big4 r.stamp).length - (big1 r.op.kind).length - (big2 (keyL r).length ++ keyL r).length - (big8 (canonN r.op.real)).length, 0⟩) rfl (c := big1 r.op.id) (by simp [big1, big2, big4, big8]; omega)
  rw [p7]
  unfold reqT
  congr 1
  simp [big1, big2, big4, big8]
  omega
theorem reqW_ok {r : Req} (h : rightB r = true) {lim : Int} (hl : 35 ≤ lim) : doneS (reqW lim r) = reqS r ∧ (reqW lim r).err = reqE r := by
  have hn : ¬ nullB r = true := fun e => by rw [null_not_right e] at h; cases h
  rw [req_run h hl]
  unfold doneS reqS reqL reqE
  rw [if_pos rfl, if_neg hn, if_pos h, if_neg hn, if_pos h]
  exact ⟨rfl, rfl⟩
/-! ### What is prepared -/
def headW (lim sg a b c : Int) : Wr := longW (longW (longW (byteW (newW lim) sg) a) b) c
def headL (sg a b c : Int) : List UInt8 := big1 sg ++ big4 a ++ big4 b ++ big4 c
def ok32 (a b c : Int) : Bool := okN a 4294967295 && okN b 4294967295 && okN c 4294967295
def prepB (e v s : Int) (r : Req) : Bool := decide (reqE r = 0) && ok32 e v s
def prepL (e v s : Int) (r : Req) : List UInt8 := if prepB e v s r = true then headL 80 e v s ++ reqL r else []
def prepS (e v s : Int) (r : Req) : ByteArray := ⟨(prepL e v s r).toArray⟩
def prepE (e v s : Int) (r : Req) : Int := if prepB e v s r = true then 0 else 1
theorem err_stays {W : Wr} (h : W.err ≠ 0) (ok : Bool) (c : List UInt8) : (putW W ok c).err = W.err := by unfold putW; rw [if_neg h]
theorem head_run {lim sg a b c : Int} (hl : 13 ≤ lim) (hs : 0 ≤ sg ∧ sg ≤ 255) : (ok32 a b c = true → headW lim sg a b c = ⟨headL sg a b c, lim - 13, 0⟩) ∧ (ok32 a b c = false → (headW lim sg a b c).err ≠ 0) := by
  have hn : newW lim = ⟨[], lim, 0⟩ := by unfold newW; rw [if_pos (by omega)]
  have p1 : byteW (newW lim) sg = ⟨big1 sg, lim - 1, 0⟩ := by
    unfold byteW
    rw [hn, okN_of hs.1 hs.2, put_good rfl (by simp [big1]; omega)]
    simp [big1]
  unfold headW ok32
  rw [p1]
  cases h1 : okN a 4294967295
  · refine ⟨fun h => by simp at h, fun _ => ?_⟩
    have e1 : (longW ⟨big1 sg, lim - 1, 0⟩ a).err = 4 := by unfold longW putW; rw [h1]; rfl
    unfold longW at e1 ⊢
    rw [err_stays (by rw [err_stays (by rw [e1]; decide), e1]; decide), err_stays (by rw [e1]; decide), e1]; decide
  · have p2 : longW ⟨big1 sg, lim - 1, 0⟩ a = ⟨big1 sg ++ big4 a, lim - 5, 0⟩ := by
      unfold longW
      rw [h1, put_good rfl (by simp [big4]; omega)]
      simp [big4]; omega
    rw [p2]
    cases h2 : okN b 4294967295
    · refine ⟨fun h => by simp at h, fun _ => ?_⟩
      have e1 : (longW ⟨big1 sg ++ big4 a, lim - 5, 0⟩ b).err = 4 := by unfold longW putW; rw [h2]; rfl
      unfold longW at e1 ⊢
      rw [err_stays (by rw [e1]; decide), e1]; decide
    · have p3 : longW ⟨big1 sg ++ big4 a, lim - 5, 0⟩ b = ⟨big1 sg ++ big4 a ++ big4 b, lim - 9, 0⟩ := by
        unfold longW
        rw [h2, put_good rfl (by simp [big4]; omega)]
        simp [big4]; omega
      rw [p3]
      cases h3 : okN c 4294967295
      · refine ⟨fun h => by simp at h, fun _ => ?_⟩
        have e1 : (longW ⟨big1 sg ++ big4 a ++ big4 b, lim - 9, 0⟩ c).err = 4 := by unfold longW putW; rw [h3]; rfl
        rw [e1]; decide
      · refine ⟨fun _ => ?_, fun h => by simp at h⟩
        unfold longW
        rw [h3, put_good rfl (by simp [big4]; omega)]
        unfold headL
        simp [big4]; omega
end Go.Proofs.Ytakbkpklfihfiaa

/- Layer 16 (change), in plain words. No program in sight. -/
namespace Go.Proofs.Ytakbkpklfihfiaa
open F64
set_option linter.unusedVariables false
set_option linter.unusedSimpArgs false

structure Ct where
  view : Int
  slot : Int
  req : Req
  sigs : List Sg
structure Ch where
  from_ : Int
  view : Int
  certs : List Ct
  by_ : Int
  text : ByteArray
instance : Inhabited Ct := ⟨⟨0, 0, ⟨0, 0, ⟨0, ByteArray.empty, 0, 0⟩⟩, []⟩⟩
def ctAt (l : List Ct) (j : Nat) : Ct := l.getD j default
theorem ctAt_get {l : List Ct} {j : Nat} (h : j < l.length) : ctAt l j = l[j] := by unfold ctAt; rw [List.getD_eq_getElem?_getD, List.getElem?_eq_getElem h]; rfl
/-- Signers are nodes. -/
def nodesB : List Sg → Bool
  | [] => true
  | s :: t => decide (0 ≤ s.by_) && decide (s.by_ < 200) && nodesB t
def askedB (r : Req) : Bool := rightB r || nullB r
def slotB (epoch slot : Int) : Bool := decide (epoch * 4 + 1 ≤ slot) && decide (slot < epoch * 4 + 5)
def wSig (W : Wr) (s : Sg) : Wr := textW (byteW W s.by_) s.text.data.toList
def wSigs (W : Wr) (l : List Sg) : Wr := l.foldl wSig W
def wCert (W : Wr) (x : Ct) : Wr := wSigs (byteW (textW (wordW (byteW W x.view) x.slot) (reqL x.req)) x.sigs.length) x.sigs
def wCerts (W : Wr) (l : List Ct) : Wr := l.foldl wCert W
end Go.Proofs.Ytakbkpklfihfiaa
