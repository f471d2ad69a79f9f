/- Joined texts: Ask22. What each proves stands at its head; no conditions beside those in its theorems. -/
import Derived.Test.YtfefeepljbfcdaaGreatPjAE
import Derived.Test.YtfefeepljbfcdaaGreatPjAO
import Derived.Test.YtfefeepljbfcdaaGreatPjAQ
/- Contracts of the law of layer 11: a request of an Ask. -/
namespace Go.Proofs.YtfefeepljbfcdaaGreat
open Go.RowKit Go.Lib F64
set_option linter.unusedSimpArgs false
set_option linter.unusedVariables false
attribute [local go_sem] run_store_float
attribute [local go_sem low] EW.cellN EW.frozN alloc_cell_or alloc_froz_or EW.cellF EW.frozF EW.cell1 EW.froz1
attribute [local go_sem] relAt relUpon
section
open Go.ChangeShapes Go.WideShapes
variable {H : Type} {enc : TypeId × Value → H} {W : World} {base n : Nat} {spare : Nat → Bool} {held : Bool}
structure Ak where
 c : Int
 s : Int
 k : Int
 key : ByteArray
 b : Int
 id : Int
def Ak.cells (o : Ak) : List Value := [.int .i64 o.c, .int .i64 o.s, .int .i64 o.k, .string o.key, .int .u64 o.b, .int .i64 o.id]
def Ak.req (o : Ak) : Req := ⟨o.c, o.s, ⟨o.k, o.key, o.b.toNat, o.id⟩⟩
instance : Inhabited Ak := ⟨⟨0, 0, 0, ByteArray.empty, 0, 0⟩⟩
structure Aks (w : World) (a : Option Addr) (cap : Nat) (l : List Ak) : Prop where
 le : l.length ≤ cap
 small : cap ≤ 9223372036854775807
 at_ : ∀ j (h : j < l.length), ∃ b o, a = some ⟨b, o, none⟩ ∧ b < w.heap.size ∧ (∀ i v, (l[j].cells)[i]? = some v → w.cell? ⟨b, o + j * 6 + i, none⟩ = some v) ∧ ReqOk l[j].req
theorem Aks.extN {w w' : World} {a : Option Addr} {cap : Nat} {l : List Ak} (h : Aks w a cap l) (x : Ext Non w w') : Aks w' a cap l :=
 ⟨h.le, h.small, fun j hj => by
  obtain ⟨b, o, e, hb, c, r⟩ := h.at_ j hj
  exact ⟨b, o, e, Nat.lt_of_lt_of_le hb x.size, fun i v hv => (x.cell (p := ⟨b, o + j * 6 + i, none⟩) hb (fun f => f)).trans (c i v hv), r⟩⟩
end
structure Reqs (w : World) (a : Option Addr) (cap : Nat) (l : List Req) : Prop where
 le : l.length ≤ cap
 small : cap ≤ 9223372036854775807
 at_ : ∀ j (h : j < l.length), ∃ b o, a = some ⟨b, o, none⟩ ∧ b < w.heap.size ∧ (∀ i v, (l[j].cells)[i]? = some v → w.cell? ⟨b, o + j * 6 + i, none⟩ = some v)
theorem Reqs.ext {S : Nat → Prop} {w w' : World} {a : Option Addr} {cap : Nat} {l : List Req} (h : Reqs w a cap l) (x : Ext S w w') (hs : ∀ b o, a = some ⟨b, o, none⟩ → ¬ S b) : Reqs w' a cap l :=
 ⟨h.le, h.small, fun j hj => by
  obtain ⟨b, o, e, hb, c⟩ := h.at_ j hj
  exact ⟨b, o, e, Nat.lt_of_lt_of_le hb x.size, fun i v hv => (x.cell (p := ⟨b, o + j * 6 + i, none⟩) hb (hs b o e)).trans (c i v hv)⟩⟩
theorem Reqs.extN {w w' : World} {a : Option Addr} {cap : Nat} {l : List Req} (h : Reqs w a cap l) (x : Ext Non w w') : Reqs w' a cap l := h.ext x fun _ _ _ f => f
theorem flatA_get {α : Type} (f : α → List Value) (k : Nat) (hk : ∀ a, (f a).length = k) : ∀ (l : List α) (j i : Nat) (h : j < l.length), i < k → (l.flatMap f)[j * k + i]? = (f l[j])[i]?
 | a :: t, 0, i, _, hi => by
  rw [List.flatMap_cons, List.getElem?_append_left (by rw [hk]; omega), Nat.zero_mul, Nat.zero_add]; rfl
 | a :: t, j + 1, i, h, hi => by
  have e : (j + 1) * k + i = k + (j * k + i) := by rw [Nat.add_mul]; omega
  rw [List.flatMap_cons, List.getElem?_append_right (by rw [hk]; omega), hk, show (j + 1) * k + i - k = j * k + i by omega]
  exact flatA_get f k hk t j i (by simpa using h) hi
theorem ownA_rows {α : Type} {w : World} {base : Nat} {e : TypeId} {k : Nat} {v : Value} (l : List α) (f : α → List Value) (hk : ∀ a, (f a).length = k) (h : w.ownsRow base e k v l.length (l.flatMap f)) :
  ∃ a cap, v = .slice a l.length cap ∧ l.length ≤ cap ∧ cap ≤ 9223372036854775807 ∧ ∀ j (hj : j < l.length), ∃ g, a = some ⟨g, 0, none⟩ ∧ g < w.heap.size ∧ ∀ i u, (f l[j])[i]? = some u → w.cell? ⟨g, 0 + j * k + i, none⟩ = some u := by
 rcases h.2 with ⟨rfl, hn⟩ | ⟨g, cap, cur, rfl, hb, hg, hc, hm, hs, ht⟩
 ·exact ⟨none, 0, by rw [hn], by omega, by omega, fun j hj => by omega⟩
 ·refine ⟨_, cap, rfl, hc, by unfold maxLen at hm; omega, fun j hj => ⟨g, rfl, (Array.getElem?_eq_some_iff.1 hg).1, fun i u hu => ?_⟩⟩
  have hi : i < k := by have := (List.getElem?_eq_some_iff.1 hu).1; rw [hk] at this; exact this
  have q := flatA_get f k hk l j i hj hi
  have hlt : j * k + i < l.length * k := by
   have : (j + 1) * k ≤ l.length * k := Nat.mul_le_mul_right _ hj
   rw [Nat.add_mul] at this; omega
  rw [hu, ← ht, List.getElem?_take, if_pos (by omega), Array.getElem?_toList] at q
  have hgc : w.cell? ⟨g, j * k + i, none⟩ = cur[j * k + i]? := by simp [World.cell?, hg]
  rw [Nat.zero_add, hgc]; exact q
end Go.Proofs.YtfefeepljbfcdaaGreat
