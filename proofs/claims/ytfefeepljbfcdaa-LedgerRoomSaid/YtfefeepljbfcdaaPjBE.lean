/- Joined texts: R12b, R12c. What each proves stands at its head; no conditions beside those in its theorems. -/
import Derived.Test.YtfefeepljbfcdaaPjAA
import Derived.Test.YtfefeepljbfcdaaPjAB
import Derived.Test.YtfefeepljbfcdaaPjAE
import Derived.Test.YtfefeepljbfcdaaPjAI
import Derived.Test.YtfefeepljbfcdaaPjAM
import Derived.Test.YtfefeepljbfcdaaPjAF
import Derived.Test.YtfefeepljbfcdaaPjAJ
import Derived.Test.YtfefeepljbfcdaaPjAK
import Derived.Test.YtfefeepljbfcdaaPjAN
import Derived.Test.YtfefeepljbfcdaaPjAR
import Derived.Test.YtfefeepljbfcdaaPjAS
import Derived.Test.YtfefeepljbfcdaaPjAO
import Derived.Test.YtfefeepljbfcdaaPjAL
import Derived.Test.YtfefeepljbfcdaaPjAG
import Derived.Test.YtfefeepljbfcdaaPjBD
import Derived.Test.YtfefeepljbfcdaaPjAQ
import Derived.Test.YtfefeepljbfcdaaPjBC
/- The reference of layer 12 in memory: Full, Turn; where a key stands; what is told of one. -/
namespace Go.Proofs.Ytfefeepljbfcdaa
open Go.RowKit Go.Lib F64
set_option linter.unusedSimpArgs false
set_option linter.unusedVariables false
attribute [local go_sem] run_store_float
attribute [local go_sem low] EW.cellN EW.frozN alloc_cell_or alloc_froz_or EW.cellF EW.frozF EW.cell1 EW.froz1
attribute [local go_sem] relAt relUpon
theorem bx_apart {w : World} {a b : Nat} {us vs : List Value} {t u : TypeId} (h : Bx w a us t) (k : Bx w b vs u) (hne : t ≠ u) : a ≠ b := fun e => by
  subst e
  have h1 := h.h
  rw [k.h] at h1
  injection h1 with h1; injection h1 with _ h1 _
  exact hne h1.symm
theorem RL.ne {w : World} {b sb rb : Nat} {g : Lg} (h : RL w b sb rb g) : b ≠ sb ∧ b ≠ rb ∧ sb ≠ rb := by
  obtain ⟨a1, c1, a2, c2, v, h1, -⟩ := h.ex
  exact ⟨bx_apart h1 h.st (by decide), bx_apart h1 h.rs (by decide), bx_apart h.st h.rs (by decide)⟩
theorem avT.ext {n : Nat} {S : Nat → Prop} {w w' : World} {a : Option Addr} (h : avT n w a) (x : Ext S w w') (hs : ∀ k o, a = some ⟨k, o, none⟩ → ¬ S k) : avT n w' a := fun k o e => by
  obtain ⟨h1, vs, fr, h2⟩ := h k o e
  exact ⟨h1, vs, fr, (x.block k (Array.getElem?_eq_some_iff.1 h2).1 (hs k o e)).trans h2⟩
theorem fresh.low {n m : Nat} {w : World} {a : Option Addr} (h : fresh n w a) (hm : m ≤ n) : fresh m w a := fun k o e => ⟨by have := (h k o e).1; omega, (h k o e).2⟩
end Go.Proofs.Ytfefeepljbfcdaa

/- The reference of layer 12 in memory: where a key stands; what is told of it; a key put, a key cut. -/
namespace Go.Proofs.Ytfefeepljbfcdaa
open Go.RowKit Go.Lib F64
set_option linter.unusedSimpArgs false
set_option linter.unusedVariables false
attribute [local go_sem] run_store_float
attribute [local go_sem low] EW.cellN EW.frozN alloc_cell_or alloc_froz_or EW.cellF EW.frozF EW.cell1 EW.froz1
attribute [local go_sem] relAt relUpon
theorem RL.row {w : World} {b sb rb : Nat} {g : Lg} (h : RL w b sb rb g) : ∃ ia ic, w.cell? ⟨b, 4, none⟩ = some (.slice ia (sortK g.keys).length ic) ∧ (sortK g.keys).length ≤ ic ∧ ic ≤ 9223372036854775807 ∧ ∀ j (hj : j < (sortK g.keys).length), ∃ gi, ia = some ⟨gi, 0, none⟩ ∧ gi < w.heap.size ∧ w.cell? ⟨gi, j * 2, none⟩ = some (.string (sortK g.keys)[j].1) ∧ w.cell? ⟨gi, j * 2 + 1, none⟩ = some (.int .u64 (sortK g.keys)[j].2) := by
  obtain ⟨a1, c1, a2, c2, v, hb, -, -, -, -, hv⟩ := h.ex
  rw [← sortK_len] at hv
  obtain ⟨ia, ic, rfl, h1, h2, hc⟩ := ownA_rows (sortK g.keys) itC (fun _ => rfl) hv
  refine ⟨ia, ic, hb.cell rfl, h1, h2, fun j hj => ?_⟩
  obtain ⟨gi, e, hg, hcc⟩ := hc j hj
  exact ⟨gi, e, hg, by have := hcc 0 _ rfl; simpa using this, by have := hcc 1 _ rfl; simpa using this⟩
end Go.Proofs.Ytfefeepljbfcdaa
