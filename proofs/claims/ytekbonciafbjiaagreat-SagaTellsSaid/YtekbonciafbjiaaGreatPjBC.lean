/- Joined texts: SagaM. What each proves stands at its head; no conditions beside those in its theorems. -/
import Derived.Test.YtekbonciafbjiaaGreatPjAA
import Derived.Test.YtekbonciafbjiaaGreatPjAC
import Derived.Test.YtekbonciafbjiaaGreatPjAD
import Derived.Test.YtekbonciafbjiaaGreatPjAG
import Derived.Test.YtekbonciafbjiaaGreatPjAH
import Derived.Test.YtekbonciafbjiaaGreatPjAI
import Derived.Test.YtekbonciafbjiaaGreatPjAN
import Derived.Test.YtekbonciafbjiaaGreatPjAJ
import Derived.Test.YtekbonciafbjiaaGreatPjAS
import Derived.Test.YtekbonciafbjiaaGreatPjAT
import Derived.Test.YtekbonciafbjiaaGreatPjAU
import Derived.Test.YtekbonciafbjiaaGreatPjAV
import Derived.Test.YtekbonciafbjiaaGreatPjAY
import Derived.Test.YtekbonciafbjiaaGreatPjAL
import Derived.Test.YtekbonciafbjiaaGreatPjAM
import Derived.Test.YtekbonciafbjiaaGreatPjAO
import Derived.Test.YtekbonciafbjiaaGreatPjAR
import Derived.Test.YtekbonciafbjiaaGreatPjAW
/- Layer 22: what a saga is in memory. -/
namespace Go.Proofs.YtekbonciafbjiaaGreat
open Go.RowKit Go.Lib F64
set_option linter.unusedSimpArgs false
set_option linter.unusedVariables false
theorem Ext.own {S : Nat → Prop} {a w w' : World} (h : Ext Non a w) (x : Ext S w w') (hS : ∀ k, S k → a.heap.size ≤ k) : Ext Non a w' := h.step x (fun i hi e => by have := hS i e; omega)
def Sp.cells (x : Sp) : List Value := x.req.cells ++ [.int .i64 x.code, .float .f64 x.real, .bool x.took]
def ptB (p : Nat × Nat) : List Value := [.pointer (some ⟨p.1, 0, none⟩)]
theorem LD.row {w w' : World} {b m : Nat} {g : Lg} (h : LD w b m g) {base : Nat} {e : TypeId} {k : Nat} {v : Value} {n : Nat} {xs : List Value} (hr : w.ownsRow base e k v n xs) (h1 : e ≠ 101) (h2 : e ≠ 3) (x : Ext (Row v) w w') : LD w' b m g := by
  have key : ∀ j, Row v j → ∃ cur fr, w.heap[j]? = some (.cells cur e fr) := fun j hj => by
    rcases hr.2 with ⟨rfl, _⟩ | ⟨q, cap, cur, rfl, _, hg, _⟩
    · cases hj
    · have : q = j := by unfold Row at hj; simpa [Value.ownBlock] using hj
      subst this; exact ⟨_, _, hg⟩
  obtain ⟨a1, c1, a2, c2, hh, _⟩ := h.ex
  obtain ⟨es, c, hm, _⟩ := h.mp.ex
  refine h.ext x (fun q => ?_) (fun q => ?_) (fun j hj vs fr q => ?_)
  · obtain ⟨cur, fr, e1⟩ := key _ q
    rw [hh] at e1; injection e1 with e1; injection e1 with _ e1 _; exact h1 e1.symm
  · obtain ⟨cur, fr, e1⟩ := key _ q
    rw [hm] at e1; injection e1 with e1; cases e1
  · obtain ⟨cur, fr, e1⟩ := key _ hj
    rw [q] at e1; injection e1 with e1; injection e1 with _ e1 _; exact h2 e1.symm
theorem LD.box {w w' : World} {b m : Nat} {g : Lg} (h : LD w b m g) {k : Nat} {vs : List Value} {t : TypeId} (hb : Bx w k vs t) (h1 : t ≠ 101) (h2 : t ≠ 3) (x : Ext (One k) w w') : LD w' b m g := by
  obtain ⟨a1, c1, a2, c2, hh, _⟩ := h.ex
  obtain ⟨es, c, hm, _⟩ := h.mp.ex
  have hk := hb.h
  refine h.ext x (fun q => ?_) (fun q => ?_) (fun j hj us fr q => ?_)
  · have q : b = k := q
    subst q
    rw [hh] at hk; injection hk with e1; injection e1 with _ e1 _; exact h1 e1.symm
  · have q : m = k := q
    subst q
    rw [hm] at hk; injection hk with e1; cases e1
  · have hj : j = k := hj
    subst hj
    rw [q] at hk; injection hk with e1; injection e1 with _ e1 _; exact h2 e1.symm
/-- A saga: its box, its rows of books and of steps, each book's ledger. -/
structure SgW (base : Nat) (w : World) (s : Nat) (v1 v2 : Value) (xs : List Int) (l : List Req) (bs : List (Nat × Nat)) : Prop where
  box : Bx w s [v1, v2] 70
  sb : base ≤ s
  r1 : w.ownsRow base 62 1 v1 bs.length (bs.flatMap ptB)
  r2 : w.ownsRow base 84 9 v2 (stepsL (newL xs) l).length ((stepsL (newL xs) l).flatMap Sp.cells)
  nb : bs.length = l.length + 1
  ld : ∀ i (h : i < bs.length), LD w bs[i].1 bs[i].2 (gAt xs l i)
theorem SgW.extN {base : Nat} {w w' : World} {s : Nat} {v1 v2 : Value} {xs : List Int} {l : List Req} {bs : List (Nat × Nat)} (h : SgW base w s v1 v2 xs l bs) (x : Ext Non w w') : SgW base w' s v1 v2 xs l bs :=
  ⟨h.box.extN x, h.sb, ownR_extN h.r1 x, ownR_extN h.r2 x, h.nb, fun i hi => (h.ld i hi).extN x⟩
theorem gAt_inv' {xs : List Int} {l : List Req} (hm : membersB xs = true) (hq : ∀ q ∈ l, q.op.real < 18446744073709551616) (i : Nat) : Inv (gAt xs l i) := inv_run _ (inv_new hm) (fun q hq' => hq q (List.mem_of_mem_take hq'))
theorem gAt_snoc (xs : List Int) (l : List Req) (q : Req) {i : Nat} (h : i ≤ l.length) : gAt xs (l ++ [q]) i = gAt xs l i := by
  unfold gAt
  rw [List.take_append_of_le_length h]
theorem gAt_all (xs : List Int) (l : List Req) : gAt xs l l.length = runL (newL xs) l := by unfold gAt; rw [List.take_length]
end Go.Proofs.YtekbonciafbjiaaGreat
