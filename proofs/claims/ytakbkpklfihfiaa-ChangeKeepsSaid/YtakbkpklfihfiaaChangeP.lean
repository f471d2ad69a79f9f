/- Layer 16 (change), in plain words. No program in sight. -/
import Derived.Test.YtakbkpklfihfiaaDeedsP
import Derived.Test.YtakbkpklfihfiaaTermsP
namespace Go.Proofs.Ytakbkpklfihfiaa
open F64
set_option linter.unusedVariables false
set_option linter.unusedSimpArgs false

structure Ct where
  view : Int
  slot : Int
  req : Req
  sigs : List Sg
structure Ch where
  from_ : Int
  view : Int
  certs : List Ct
  by_ : Int
  text : ByteArray
instance : Inhabited Ct := ⟨⟨0, 0, ⟨0, 0, ⟨0, ByteArray.empty, 0, 0⟩⟩, []⟩⟩
def ctAt (l : List Ct) (j : Nat) : Ct := l.getD j default
theorem ctAt_get {l : List Ct} {j : Nat} (h : j < l.length) : ctAt l j = l[j] := by unfold ctAt; rw [List.getD_eq_getElem?_getD, List.getElem?_eq_getElem h]; rfl
/-- Signers are nodes. -/
def nodesB : List Sg → Bool
  | [] => true
  | s :: t => decide (0 ≤ s.by_) && decide (s.by_ < 200) && nodesB t
theorem nodes_drop (l : List Sg) (i : Nat) (h : i < l.length) : nodesB (l.drop i) = (decide (0 ≤ (sgAt l i).by_) && decide ((sgAt l i).by_ < 200) && nodesB (l.drop (i + 1))) := by
  rw [List.drop_eq_getElem_cons h, sgAt_get h]; rfl
def askedB (r : Req) : Bool := rightB r || nullB r
def slotB (epoch slot : Int) : Bool := decide (epoch * 4 + 1 ≤ slot) && decide (slot < epoch * 4 + 5)
def headB (epoch behind : Int) (x : Ct) : Bool := decide (behind < x.slot) && slotB epoch x.slot && decide (0 ≤ x.view) && decide (x.view ≤ 15) && decide (x.sigs.length ≤ 16)
def fitsB (epoch behind : Int) (x : Ct) : Bool := headB epoch behind x && nodesB x.sigs && askedB x.req
def certsB (epoch : Int) : Int → List Ct → Bool
  | _, [] => true
  | last, x :: t => fitsB epoch last x && certsB epoch x.slot t
theorem certs_drop (epoch : Int) (l : List Ct) (last : Int) (i : Nat) (h : i < l.length) : certsB epoch last (l.drop i) = (fitsB epoch last (ctAt l i) && certsB epoch (ctAt l i).slot (l.drop (i + 1))) := by
  rw [List.drop_eq_getElem_cons h, ctAt_get h]; rfl
def topB (epoch : Int) (c : Ch) : Bool := decide (0 ≤ epoch) && decide (epoch ≤ 60) && decide (0 ≤ c.from_) && decide (c.from_ < 16) && decide (1 ≤ c.view) && decide (c.view ≤ 15) && decide (c.certs.length ≤ 4)
def mayB (epoch : Int) (c : Ch) : Bool := topB epoch c && certsB epoch 0 c.certs

def wSig (W : Wr) (s : Sg) : Wr := textW (byteW W s.by_) s.text.data.toList
def wSigs (W : Wr) (l : List Sg) : Wr := l.foldl wSig W
def wCert (W : Wr) (x : Ct) : Wr := wSigs (byteW (textW (wordW (byteW W x.view) x.slot) (reqL x.req)) x.sigs.length) x.sigs
def wCerts (W : Wr) (l : List Ct) : Wr := l.foldl wCert W
def wTop (epoch : Int) (c : Ch) : Wr := byteW (byteW (byteW (wordW (byteW (newW 65535) 86) epoch) c.from_) c.view) c.certs.length
def chW (epoch : Int) (c : Ch) : Wr := wCerts (wTop epoch c) c.certs
def chS (epoch : Int) (c : Ch) : ByteArray := if mayB epoch c = true then doneS (chW epoch c) else ⟨#[]⟩
def chE (epoch : Int) (c : Ch) : Int := if mayB epoch c = true then (if (chW epoch c).err = 0 then 0 else 3) else 1
theorem wSigs_take (W : Wr) (l : List Sg) (i : Nat) (h : i < l.length) : wSigs W (l.take (i + 1)) = wSig (wSigs W (l.take i)) (sgAt l i) := by
  unfold wSigs
  rw [List.take_succ_eq_append_getElem h, List.foldl_append, sgAt_get h]; rfl
theorem wCerts_take (W : Wr) (l : List Ct) (i : Nat) (h : i < l.length) : wCerts W (l.take (i + 1)) = wCert (wCerts W (l.take i)) (ctAt l i) := by
  unfold wCerts
  rw [List.take_succ_eq_append_getElem h, List.foldl_append, ctAt_get h]; rfl
end Go.Proofs.Ytakbkpklfihfiaa
