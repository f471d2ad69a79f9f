/- Joined texts: Ref07, Proves, Change, Change2, Ref13, Of13, PickP. What each proves stands at its head; no conditions beside those in its theorems. -/
import Derived.Test.YtakbkpklfihfiaaPjAN
/- Contracts of the reference of layer 7: which configurations are right. -/
namespace Go.Proofs.Ytakbkpklfihfiaa
open Go.RowKit Go.Lib F64
set_option linter.unusedSimpArgs false
set_option linter.unusedVariables false

theorem ref_Right07 (ep : Int) (a : Option Addr) (cap : Nat) (xs : List Int) (w : World) (h : Ints w a cap xs) : Calls Try.prog 71 #[.agg #[.int .i64 ep, .slice a xs.length cap]] w fun e w' => e = .returned (.bool (confB ep xs)) ∧ Ext Non w w' := by
  have HE : Hid (confB ep xs = (decide (0 ≤ ep) && decide (ep ≤ 60) && membersB xs)) := Go.Lib.hid rfl
  have HH : Hid (Ints (w.alloc (.cells #[.int .i64 ep, .slice a xs.length cap] 34)) a cap xs) := Go.Lib.hid (h.extN ((Ext.refl _ _).alloc _))
  clear h
  by_cases h0 : 0 ≤ ep
  · by_cases h1 : ep ≤ 60
    · go_enter Try.func71, Try.ntmps71
      go_wp2_with fail
      refine (ref_Members _ _ _ _ HH.out).mono ?_
      rintro e w1 ⟨rfl, y⟩
      go_wp2
      go_ret
      exact ⟨ret_bool (by rw [HE.out, decide_eq_true h0, decide_eq_true h1]; rfl), ((Ext.refl _ _).alloc _).trans y⟩
    · go_enter Try.func71, Try.ntmps71
      go_wp2
      go_ret
      exact ⟨ret_bool (by rw [HE.out, decide_eq_false (by omega : ¬ ep ≤ 60)]; simp), (Ext.refl _ _).alloc _⟩
  · go_enter Try.func71, Try.ntmps71
    go_wp2
    go_ret
    exact ⟨ret_bool (by rw [HE.out, decide_eq_false (by omega : ¬ 0 ≤ ep)]; simp), (Ext.refl _ _).alloc _⟩
end Go.Proofs.Ytakbkpklfihfiaa

/- Contracts of layer 9 (terms): proofs; the reference's. -/
namespace Go.Proofs.Ytakbkpklfihfiaa
open Go.RowKit Go.Lib F64
set_option linter.unusedSimpArgs false
set_option linter.unusedVariables false

/-- A row of signatures that can be read behind an address. -/
structure Sigs (w : World) (a : Option Addr) (cap : Nat) (l : List Sg) : Prop where
  le : l.length ≤ cap
  small : cap ≤ 9223372036854775807
  at_ : ∀ j (h : j < l.length), ∃ b o, a = some ⟨b, o, none⟩ ∧ b < w.heap.size ∧ w.cell? ⟨b, o + j * 2, none⟩ = some (.int .i64 (sgAt l j).by_) ∧ w.cell? ⟨b, o + j * 2 + 1, none⟩ = some (.string (sgAt l j).text) ∧ I64 (sgAt l j).by_ ∧ (sgAt l j).text.size ≤ 9223372036854775807
theorem Sigs.extN {w w' : World} {a : Option Addr} {cap : Nat} {l : List Sg} (h : Sigs w a cap l) (x : Ext Non w w') : Sigs w' a cap l :=
  ⟨h.le, h.small, fun j hj => by
    obtain ⟨b, o, e, hb, c0, c1, i, t⟩ := h.at_ j hj
    exact ⟨b, o, e, Nat.lt_of_lt_of_le hb x.size, (x.cell (p := ⟨b, o + j * 2, none⟩) hb (fun f => f)).trans c0, (x.cell (p := ⟨b, o + j * 2 + 1, none⟩) hb (fun f => f)).trans c1, i, t⟩⟩
end Go.Proofs.Ytakbkpklfihfiaa

/- Contracts of layer 16 (change): what fits, and its text. -/
namespace Go.Proofs.Ytakbkpklfihfiaa
open Go.RowKit Go.Lib F64
set_option linter.unusedSimpArgs false
set_option linter.unusedVariables false

/-- A request's fields are such as a machine holds. -/
structure ReqOk (r : Req) : Prop where
  c : I64 r.client
  s : I64 r.stamp
  k : I64 r.op.kind
  id : I64 r.op.id
  x : r.op.real < 18446744073709551616
  key : r.op.key.size ≤ 9223372036854775807
def Req.cells (r : Req) : List Value := [.int .i64 r.client, .int .i64 r.stamp, .int .i64 r.op.kind, .string r.op.key, .float .f64 r.op.real, .int .i64 r.op.id]
def Ct.cells (x : Ct) (a : Option Addr) (cap : Nat) : List Value := [.int .i64 x.view, .int .i64 x.slot, .int .i64 x.req.client, .int .i64 x.req.stamp, .int .i64 x.req.op.kind, .string x.req.op.key, .float .f64 x.req.op.real, .int .i64 x.req.op.id, .slice a x.sigs.length cap]
end Go.Proofs.Ytakbkpklfihfiaa

/- Contracts of layer 16 (change): the text that a change signs. -/
namespace Go.Proofs.Ytakbkpklfihfiaa
open Go.RowKit Go.Lib F64
set_option linter.unusedSimpArgs false
set_option linter.unusedVariables false

attribute [local go_sem] run_store_float
theorem Bx.keep {w w' : World} {n0 b k : Nat} {vs : List Value} {t : TypeId} (a : Bx w k vs t) (x : Ext (WB n0 b w) w w') (hb : k ≠ b) (ht : t ≠ 5) : Bx w' k vs t := a.ext x (WB.other a.h hb ht)
/-- A row of certificates that can be read behind an address. -/
structure Certs (w : World) (a : Option Addr) (cap : Nat) (l : List Ct) : Prop where
  le : l.length ≤ cap
  small : cap ≤ 9223372036854775807
  at_ : ∀ j (h : j < l.length), ∃ b o sa scap, a = some ⟨b, o, none⟩ ∧ b < w.heap.size ∧ (∀ i v, ((ctAt l j).cells sa scap)[i]? = some v → w.cell? ⟨b, o + j * 9 + i, none⟩ = some v) ∧ Sigs w sa scap (ctAt l j).sigs ∧ ReqOk (ctAt l j).req ∧ I64 (ctAt l j).view ∧ I64 (ctAt l j).slot
theorem Certs.extN {w w' : World} {a : Option Addr} {cap : Nat} {l : List Ct} (h : Certs w a cap l) (x : Ext Non w w') : Certs w' a cap l :=
  ⟨h.le, h.small, fun j hj => by
    obtain ⟨b, o, sa, scap, e, hb, c, s, r⟩ := h.at_ j hj
    exact ⟨b, o, sa, scap, e, Nat.lt_of_lt_of_le hb x.size, fun i v hv => (x.cell (p := ⟨b, o + j * 9 + i, none⟩) hb (fun f => f)).trans (c i v hv), s.extN x, r⟩⟩
end Go.Proofs.Ytakbkpklfihfiaa

/- Contracts of the reference of layer 13: which changes fit (its parts). -/
namespace Go.Proofs.Ytakbkpklfihfiaa
open Go.RowKit Go.Lib F64
set_option linter.unusedSimpArgs false
set_option linter.unusedVariables false

theorem ref13_Of (epoch slot : Int) (he : 0 ≤ epoch ∧ epoch ≤ 60) (w : World) : Calls Try.prog 110 #[.int .i64 epoch, .int .i64 slot] w fun e w' => e = .returned (.bool (slotB epoch slot)) ∧ w = w' := by
  have HF : Hid (slotB epoch slot = (decide (epoch * 4 + 1 ≤ slot) && decide (slot < epoch * 4 + 5))) := Go.Lib.hid rfl
  have hw1 : IntKind.i64.wrap (4 * epoch) = 4 * epoch := IntWalk.i64_in _ (by omega)
  have hw2 : IntKind.i64.wrap (epoch + 1) = epoch + 1 := IntWalk.i64_in _ (by omega)
  have hw3 : IntKind.i64.wrap (4 * (epoch + 1)) = 4 * (epoch + 1) := IntWalk.i64_in _ (by omega)
  by_cases h1 : 4 * epoch < slot
  · have H1 := Go.Lib.hid h1; have HE := Go.Lib.hid he
    clear he
    go_enter Try.func110, Try.ntmps110
    go_wp2
    all_goals
      go_ret
      exact ⟨ret_bool (by rw [HF.out, Bool.eq_iff_iff]; have := H1.out; simp; omega), rfl⟩
  · have H1 := Go.Lib.hid h1
    clear he
    go_enter Try.func110, Try.ntmps110
    go_wp2
    go_ret
    exact ⟨ret_bool (by rw [HF.out, Bool.eq_iff_iff]; have := H1.out; simp; omega), rfl⟩
theorem ref13_Asked (c s k : Int) (key : ByteArray) (x : Nat) (id : Int) (w : World) : Calls Try.prog 111 #[.agg #[.int .i64 c, .int .i64 s, .int .i64 k, .string key, .float .f64 x, .int .i64 id]] w fun e w' => e = .returned (.bool (askedB ⟨c, s, ⟨k, key, x, id⟩⟩)) ∧ Ext Non w w' := by
  have HE : Hid (askedB ⟨c, s, ⟨k, key, x, id⟩⟩ = (rightB ⟨c, s, ⟨k, key, x, id⟩⟩ || nullB ⟨c, s, ⟨k, key, x, id⟩⟩)) := Go.Lib.hid rfl
  have B0 := Go.Lib.hid (Bx.new w [.int .i64 c, .int .i64 s, .int .i64 k, .string key, .float .f64 x, .int .i64 id] 49)
  have X0 := Go.Lib.hid ((Ext.refl Non w).alloc (.cells #[.int .i64 c, .int .i64 s, .int .i64 k, .string key, .float .f64 x, .int .i64 id] 49))
  go_enter Try.func111, Try.ntmps111
  go_wp2_with fail
  refine (ref_Right _ _ _ _ _ _ _).mono ?_
  rintro e w1 ⟨rfl, y⟩
  have X1 := Go.Lib.hid (X0.out.trans y)
  have B1 := Go.Lib.hid (B0.out.extN y)
  obtain ⟨q0, q1, q2, q3, q4, q5⟩ := B1.out.six
  clear y
  cases hr : rightB ⟨c, s, ⟨k, key, x, id⟩⟩
  · have HR := Go.Lib.hid hr; clear hr
    go_wp2_with fail
    refine (ref_Null _ _ _ _ _ _ _).mono ?_
    rintro e w2 ⟨rfl, y2⟩
    go_wp2
    go_ret
    exact ⟨ret_bool (by rw [HE.out, HR.out]; rfl), X1.out.trans y2⟩
  · have HR := Go.Lib.hid hr; clear hr
    go_wp2
    go_ret
    exact ⟨ret_bool (by rw [HE.out, HR.out]; rfl), X1.out⟩
end Go.Proofs.Ytakbkpklfihfiaa

/- Contracts of the reference of layer 13: which changes fit. -/
namespace Go.Proofs.Ytakbkpklfihfiaa
open Go.RowKit Go.Lib F64
set_option linter.unusedSimpArgs false
set_option linter.unusedVariables false
attribute [local go_sem] run_store_float
attribute [local go_sem low] EW.cellN EW.frozN alloc_cell_or alloc_froz_or
def sigsB (l : List Sg) : Bool := nodesB l && decide (l.length ≤ 16)
end Go.Proofs.Ytakbkpklfihfiaa

/- Layer 16 in plain words: lists of changes, their first error, what is picked. No program in sight. -/
namespace Go.Proofs.Ytakbkpklfihfiaa
open F64 Go.Lib
set_option linter.unusedVariables false
set_option linter.unusedSimpArgs false

instance : Inhabited Ch := ⟨⟨0, 0, [], 0, ByteArray.empty⟩⟩
def chAt (l : List Ch) (j : Nat) : Ch := l.getD j default
def Ch.cells (c : Ch) (a : Option Addr) (cap : Nat) : List Value := [.int .i64 c.from_, .int .i64 c.view, .slice a c.certs.length cap, .int .i64 c.by_, .string c.text]
/-- A row of changes that can be read behind an address. -/
structure Chs (w : World) (a : Option Addr) (cap : Nat) (l : List Ch) : Prop where
  le : l.length ≤ cap
  small : cap ≤ 9223372036854775807
  at_ : ∀ j (h : j < l.length), ∃ b o ca ccap, a = some ⟨b, o, none⟩ ∧ b < w.heap.size ∧ (∀ i v, ((chAt l j).cells ca ccap)[i]? = some v → w.cell? ⟨b, o + j * 5 + i, none⟩ = some v) ∧ Certs w ca ccap (chAt l j).certs ∧ I64 (chAt l j).from_ ∧ I64 (chAt l j).view ∧ I64 (chAt l j).by_ ∧ (chAt l j).text.size ≤ 9223372036854775807
theorem Chs.extN {w w' : World} {a : Option Addr} {cap : Nat} {l : List Ch} (h : Chs w a cap l) (x : Ext Non w w') : Chs w' a cap l :=
  ⟨h.le, h.small, fun j hj => by
    obtain ⟨b, o, ca, ccap, e, hb, c, s, r⟩ := h.at_ j hj
    exact ⟨b, o, ca, ccap, e, Nat.lt_of_lt_of_le hb x.size, fun i v hv => (x.cell (p := ⟨b, o + j * 5 + i, none⟩) hb (fun f => f)).trans (c i v hv), s.extN x, r⟩⟩

/-- The better one of two certificates of a slot. -/
def stepB (slot : Int) (o : Option Ct) (x : Ct) : Option Ct :=
  if x.slot = slot then (match o with | none => some x | some y => if y.view < x.view then some x else some y) else o
def bestC (slot : Int) (cs : List Ct) : Option Ct := cs.foldl (stepB slot) none
def nullR : Req := ⟨0, 0, ⟨0, ByteArray.empty, 0, 0⟩⟩
def slotN (ep : Int) (n : Nat) : Int := 4 * ep + 1 + n
end Go.Proofs.Ytakbkpklfihfiaa
