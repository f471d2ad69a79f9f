/- Joined texts: PickP. What each proves stands at its head; no conditions beside those in its theorems. -/
import Derived.Test.YtflpkoafebjfdaaGreatPjAN
/- Layer 16 in plain words: lists of changes, their first error, what is picked. No program in sight. -/
namespace Go.Proofs.YtflpkoafebjfdaaGreat
open F64 Go.Lib
set_option linter.unusedVariables false
set_option linter.unusedSimpArgs false

instance : Inhabited Ch := ⟨⟨0, 0, [], 0, ByteArray.empty⟩⟩
def chAt (l : List Ch) (j : Nat) : Ch := l.getD j default
theorem chAt_get {l : List Ch} {j : Nat} (h : j < l.length) : chAt l j = l[j] := by unfold chAt; rw [List.getD_eq_getElem?_getD, List.getElem?_eq_getElem h]; rfl
def Ch.cells (c : Ch) (a : Option Addr) (cap : Nat) : List Value := [.int .i64 c.from_, .int .i64 c.view, .slice a c.certs.length cap, .int .i64 c.by_, .string c.text]
/-- A row of changes that can be read behind an address. -/
structure Chs (w : World) (a : Option Addr) (cap : Nat) (l : List Ch) : Prop where
  le : l.length ≤ cap
  small : cap ≤ 9223372036854775807
  at_ : ∀ j (h : j < l.length), ∃ b o ca ccap, a = some ⟨b, o, none⟩ ∧ b < w.heap.size ∧ (∀ i v, ((chAt l j).cells ca ccap)[i]? = some v → w.cell? ⟨b, o + j * 5 + i, none⟩ = some v) ∧ Certs w ca ccap (chAt l j).certs ∧ I64 (chAt l j).from_ ∧ I64 (chAt l j).view ∧ I64 (chAt l j).by_ ∧ (chAt l j).text.size ≤ 9223372036854775807
theorem Chs.extN {w w' : World} {a : Option Addr} {cap : Nat} {l : List Ch} (h : Chs w a cap l) (x : Ext Non w w') : Chs w' a cap l :=
  ⟨h.le, h.small, fun j hj => by
    obtain ⟨b, o, ca, ccap, e, hb, c, s, r⟩ := h.at_ j hj
    exact ⟨b, o, ca, ccap, e, Nat.lt_of_lt_of_le hb x.size, fun i v hv => (x.cell (p := ⟨b, o + j * 5 + i, none⟩) hb (fun f => f)).trans (c i v hv), s.extN x, r⟩⟩

def sameViews (view : Int) : List Ch → Bool
  | [] => true
  | x :: t => decide (x.view = view) && sameViews view t
def viewB (view : Int) : Bool := decide (1 ≤ view) && decide (view ≤ 15)
def viewsB (view : Int) (l : List Ch) : Bool := viewB view && sameViews view l
def rightsE (ep : Int) (xs : List Int) : List Ch → Int
  | [] => 0
  | x :: t => if rightE ep xs x = 0 then rightsE ep xs t else rightE ep xs x
def riseB : Int → List Ch → Bool
  | _, [] => true
  | last, x :: t => decide (last < x.from_) && riseB x.from_ t
/-- The first error of a list of changes. -/
def checkE (ep : Int) (xs : List Int) (view : Int) (l : List Ch) : Int :=
  if confB ep xs = true then (if viewsB view l = true then (if rightsE ep xs l = 0 then (if riseB (-1) l = true then (if (l.length : Int) < quorumI xs.length then 15 else 0) else 17) else rightsE ep xs l) else 13) else 1

/-- The better one of two certificates of a slot. -/
def stepB (slot : Int) (o : Option Ct) (x : Ct) : Option Ct :=
  if x.slot = slot then (match o with | none => some x | some y => if y.view < x.view then some x else some y) else o
def bestC (slot : Int) (cs : List Ct) : Option Ct := cs.foldl (stepB slot) none
def nullR : Req := ⟨0, 0, ⟨0, ByteArray.empty, 0, 0⟩⟩
def reqOf : Option Ct → Req
  | none => nullR
  | some x => x.req
def slotN (ep : Int) (n : Nat) : Int := 4 * ep + 1 + n
/-- Up to which slot of an epoch there is a certificate. -/
def lastC (ep : Int) (P : List Ct) : Nat := if (bestC (slotN ep 3) P).isSome then 4 else if (bestC (slotN ep 2) P).isSome then 3 else if (bestC (slotN ep 1) P).isSome then 2 else if (bestC (slotN ep 0) P).isSome then 1 else 0
def pickR (ep : Int) (l : List Ch) : List Req := (List.range (lastC ep (l.flatMap (·.certs)))).map fun (n : Nat) => reqOf (bestC (slotN ep n) (l.flatMap (·.certs)))
end Go.Proofs.YtflpkoafebjfdaaGreat
