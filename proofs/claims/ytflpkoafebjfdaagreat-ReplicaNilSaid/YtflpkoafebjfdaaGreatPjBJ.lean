/- Joined texts: MapE. What each proves stands at its head; no conditions beside those in its theorems. -/
import Derived.WideKeyEntry
import Derived.Laws.CopyOwn
import Derived.Deep.OwnRows
import Derived.Deep.RegionLaw
import Derived.Test.YtflpkoafebjfdaaGreatProg
import Derived.Shelf.SlIter.Nil
import Derived.Shelf.SortM.Plain
import Derived.Shelf.SortM.SortNone
import Derived.Ground.GgzProg
import Derived.Ground.SlgmProg
import Derived.Test.YtflpkoafebjfdaaGreatPjAG
import Derived.Test.YtflpkoafebjfdaaGreatPjBI
/- A map whose keys are two texts: an entry is laid and then written (`m[k]++`). -/
namespace Go.Proofs.YtflpkoafebjfdaaGreat
open Go.RowKit Go.Lib Go.MapKept F64
set_option linter.unusedSimpArgs false
set_option linter.unusedVariables false
section
variable {w : World} {mty et : TypeId} {m : Nat} {ks : List ((ByteArray × ByteArray) × Int)}
theorem MapC.same {w' : World} (h : MapC w m ks) (e : w'.heap[m]? = w.heap[m]?) : MapC w' m ks := by
  have hok := h.ok
  obtain ⟨es, c, hb, r⟩ := h.ex
  exact ⟨⟨es, c, e.trans hb, r⟩, hok⟩
end
/-- An entry for k is laid (its stamp is st): whatever is stored there comes to this; a look-up of k answers cn. -/
def LkC (m : Nat) (k : ByteArray × ByteArray) (cn : Int) (w : World) : Prop := ∃ ks', MapC w m ks' ∧ cntG ks' k = cn
def EntS (mty : TypeId) (m : Nat) (ks : List ((ByteArray × ByteArray) × Int)) (k : ByteArray × ByteArray) (cn : Int) (st : Nat) (w : World) : Prop :=
  LkC m k cn w ∧ ∃ o, w.heap[m]? = some o ∧ ∀ (W : World) (x : Int), W.heap[m]? = some o → ∃ w2, (Instr.entryStore mty (.map (some m)) (goInt st) (.int .i64 x)).run Tryz.prog W = .ok () w2 ∧ MapC w2 m (setG ks k x) ∧ Ext (One m) W w2
theorem LkC.up {m : Nat} {k : ByteArray × ByteArray} {cn : Int} {w w' : World} (h : LkC m k cn w) (x : Ext Non w w') : LkC m k cn w' := by
  obtain ⟨ks', h, e⟩ := h
  exact ⟨ks', h.ext x (fun q => q), e⟩
theorem EntS.up {mty : TypeId} {m : Nat} {ks : List ((ByteArray × ByteArray) × Int)} {k : ByteArray × ByteArray} {cn : Int} {st : Nat} {w w' : World} (h : EntS mty m ks k cn st w) (x : Ext Non w w') : EntS mty m ks k cn st w' := by
  obtain ⟨h1, o, ho, h2⟩ := h
  exact ⟨h1.up x, o, (x.block m (Array.getElem?_eq_some_iff.1 ho).1 (fun q => q)).trans ho, h2⟩
end Go.Proofs.YtflpkoafebjfdaaGreat
