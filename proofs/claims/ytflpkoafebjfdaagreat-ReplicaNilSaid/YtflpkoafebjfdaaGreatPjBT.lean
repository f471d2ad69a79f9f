/- Joined texts: Vot4. What each proves stands at its head; no conditions beside those in its theorems. -/
import Derived.Laws.CopyOwn
import Derived.Deep.OwnRows
import Derived.Deep.RegionLaw
import Derived.Test.YtflpkoafebjfdaaGreatProg
import Derived.Shelf.SlIter.Nil
import Derived.Shelf.SortM.Plain
import Derived.Shelf.SortM.SortNone
import Derived.Ground.GgzProg
import Derived.Ground.SlgmProg
import Derived.Test.YtflpkoafebjfdaaGreatPjBQ
import Derived.Test.YtflpkoafebjfdaaGreatPjBS
/- Contracts of layer 15 (votes): Settled. -/
namespace Go.Proofs.YtflpkoafebjfdaaGreat
open Go.RowKit Go.Lib F64
set_option linter.unusedSimpArgs false
set_option linter.unusedVariables false
attribute [local go_sem] run_store_float
attribute [local go_sem low] EW.cellN EW.frozN alloc_cell_or alloc_froz_or
attribute [local go_sem] relAt relUpon relAtT relUponT
attribute [local go_sem low] EW.cellO EW.frozO
/-- What Settled gathers, in memory. -/
structure SetW (n0 : Nat) (w : World) (ko : Nat) (o : St) (s1 s2 : Value) (ma : Option Addr) (mc : Nat) : Prop where
  h : Bx w ko [.string o.text, s1, .int .i64 o.lk.ep, .slice ma o.lk.mem.length mc, s2] 106
  r1 : w.ownsRow n0 48 2 s1 o.sigs.length (sigCells o.sigs)
  r2 : w.ownsRow n0 48 2 s2 o.lk.sigs.length (sigCells o.lk.sigs)
  ne : ∀ k, Row s1 k → ¬ Row s2 k
  im : Ints w ma mc o.lk.mem
  fm : fresh n0 w ma
  ok1 : ∀ s ∈ o.sigs, I64 s.by_ ∧ s.text.size ≤ 9223372036854775807
  ok2 : ∀ s ∈ o.lk.sigs, I64 s.by_ ∧ s.text.size ≤ 9223372036854775807
  ko : n0 ≤ ko
theorem SetW.extN {n0 : Nat} {w w' : World} {ko : Nat} {o : St} {s1 s2 : Value} {ma : Option Addr} {mc : Nat} (h : SetW n0 w ko o s1 s2 ma mc) (x : Ext Non w w') : SetW n0 w' ko o s1 s2 ma mc :=
  ⟨h.h.extN x, ownR_extN h.r1 x, ownR_extN h.r2 x, h.ne, h.im.extN x, h.fm.extN x, h.ok1, h.ok2, h.ko⟩
theorem Bx.frozen {w : World} {k : Nat} {vs : List Value} {t : TypeId} (h : Bx w k vs t) (j : Nat) : w.frozen? ⟨k, j, none⟩ = false := froz_of_heap h.h
section
variable {w : World} {col : Nat → Nat} {b : Nat} {t : Tl} {a : Option Addr} {c m1 m2 : Nat} {vs : List (Int × (Vo × (Option Addr × Nat)))}
end
end Go.Proofs.YtflpkoafebjfdaaGreat
