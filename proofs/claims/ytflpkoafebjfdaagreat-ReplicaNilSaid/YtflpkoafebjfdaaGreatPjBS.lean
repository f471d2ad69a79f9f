/- Joined texts: Vot2. What each proves stands at its head; no conditions beside those in its theorems. -/
import Derived.Laws.CopyOwn
import Derived.Deep.OwnRows
import Derived.Deep.RegionLaw
import Derived.Test.YtflpkoafebjfdaaGreatProg
import Derived.Shelf.SlIter.Nil
import Derived.Shelf.SortM.Plain
import Derived.Shelf.SortM.SortNone
import Derived.Ground.GgzProg
import Derived.Ground.SlgmProg
import Derived.Test.YtflpkoafebjfdaaGreatPjBJ
import Derived.Test.YtflpkoafebjfdaaGreatPjBN
/- Contracts of layer 15 (votes): Add. -/
namespace Go.Proofs.YtflpkoafebjfdaaGreat
open Go.RowKit Go.Lib F64
set_option linter.unusedSimpArgs false
set_option linter.unusedVariables false
attribute [local go_sem] run_store_float
attribute [local go_sem low] EW.cellN EW.frozN alloc_cell_or alloc_froz_or
attribute [local go_sem] relAt relUpon relAtT relUponT
attribute [local go_sem low] EW.cellO EW.frozO
def zeroVo : Vo × (Option Addr × Nat) := (⟨⟨#[]⟩, ⟨#[]⟩, ⟨#[]⟩, []⟩, (none, 0))
theorem zero_vo (w : World) : (zeroValue 318).run Tryz.prog w = .ok (voV zeroVo) w := by kernel_rfl
section
variable {w : World} {col : Nat → Nat} {b : Nat} {t : Tl} {a : Option Addr} {c m1 m2 : Nat} {vs : List (Int × (Vo × (Option Addr × Nat)))}
theorem TlP.upN {w w' : World} (h : TlP w col b t a c m1 m2 vs) (x : Ext Non w w') : TlP w' col b t a c m1 m2 vs := h.ext x (fun _ _ q => q.elim) (ColX.refl _ _)
end
end Go.Proofs.YtflpkoafebjfdaaGreat
