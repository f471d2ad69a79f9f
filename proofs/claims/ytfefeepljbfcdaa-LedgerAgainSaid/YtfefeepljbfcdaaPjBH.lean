/- Joined texts: AgainQ. What each proves stands at its head; no conditions beside those in its theorems. -/
import Derived.Test.YtfefeepljbfcdaaPjAA
import Derived.Test.YtfefeepljbfcdaaPjAB
import Derived.Test.YtfefeepljbfcdaaPjAE
import Derived.Test.YtfefeepljbfcdaaPjAI
import Derived.Test.YtfefeepljbfcdaaPjAM
import Derived.Test.YtfefeepljbfcdaaPjAF
import Derived.Test.YtfefeepljbfcdaaPjAJ
import Derived.Test.YtfefeepljbfcdaaPjAK
import Derived.Test.YtfefeepljbfcdaaPjAN
import Derived.Test.YtfefeepljbfcdaaPjAR
import Derived.Test.YtfefeepljbfcdaaPjAS
import Derived.Test.YtfefeepljbfcdaaPjAL
import Derived.Test.YtfefeepljbfcdaaPjAO
import Derived.Test.YtfefeepljbfcdaaPjAD
import Derived.Test.YtfefeepljbfcdaaPjAP
import Derived.Test.YtfefeepljbfcdaaPjAT
import Derived.Test.YtfefeepljbfcdaaPjAU
import Derived.Test.YtfefeepljbfcdaaPjAV
import Derived.Test.YtfefeepljbfcdaaPjAW
import Derived.Test.YtfefeepljbfcdaaPjAX
import Derived.Test.YtfefeepljbfcdaaPjAY
import Derived.Test.YtfefeepljbfcdaaPjAZ
import Derived.Test.YtfefeepljbfcdaaPjBA
import Derived.Test.YtfefeepljbfcdaaPjBF
import Derived.Test.YtfefeepljbfcdaaPjBG
/- Layer 12: what a ledger does hangs on no order of its keys, in plain words. No program in sight. -/
namespace Go.Proofs.Ytfefeepljbfcdaa
open F64
set_option linter.unusedVariables false
set_option linter.unusedSimpArgs false
/-- The same ledger, but for the order of its keys (and clients that there are none). -/
structure Sm (g h : Lg) : Prop where
  ep : h.epoch = g.epoch
  mem : h.mem = g.mem
  next : h.next = g.next
  dn : h.done = g.done
  keys : h.keys.Perm g.keys
  nd : NdK g.keys
  cl : ∀ i, i < 8 → h.cl i = g.cl i
theorem Sm.srt {g : Lg} (nd : NdK g.keys) : Sm g (srtL g) := ⟨rfl, rfl, rfl, rfl, sortK_perm _, nd, fun i hi => by simp [srtL, hi]⟩
theorem Sm.refl {g : Lg} (nd : NdK g.keys) : Sm g g := ⟨rfl, rfl, rfl, rfl, List.Perm.refl _, nd, fun _ _ => rfl⟩
theorem hasK_prm {a b : Ks} (h : a.Perm b) (nd : NdK b) (k : ByteArray) : hasK a k = hasK b k := by unfold hasK; rw [getK_perm h nd]
theorem valK_prm {a b : Ks} (h : a.Perm b) (nd : NdK b) (k : ByteArray) : valK a k = valK b k := by unfold valK; rw [getK_perm h nd]
theorem setK_prm {a b : Ks} (h : a.Perm b) (nd : NdK b) (k : ByteArray) (x : Nat) : (setK a k x).Perm (setK b k x) := by
  unfold setK
  rw [hasK_prm h nd]
  split
  · exact h.map _
  · exact h.append_right _
theorem delK_prm {a b : Ks} (h : a.Perm b) (k : ByteArray) : (delK a k).Perm (delK b k) := h.filter _
theorem Sm.full {g h : Lg} (s : Sm g h) : fullB h = fullB g := by unfold fullB; rw [s.dn, s.ep]
theorem Sm.doE {g h : Lg} (s : Sm g h) (r : Req) : doE h r = Go.Proofs.Ytfefeepljbfcdaa.doE g r := by unfold Go.Proofs.Ytfefeepljbfcdaa.doE; rw [s.full]
theorem Sm.turnE {g h : Lg} (s : Sm g h) : turnE h = Go.Proofs.Ytfefeepljbfcdaa.turnE g := by unfold Go.Proofs.Ytfefeepljbfcdaa.turnE; rw [s.full, s.ep]
theorem Sm.turn {g h : Lg} (s : Sm g h) : Sm (turnL g) (turnL h) := by
  unfold turnL
  rw [s.turnE]
  split
  · exact ⟨by rw [s.ep], s.next, s.next, s.dn, s.keys, s.nd, s.cl⟩
  · exact s
theorem Sm.tick {g h : Lg} (s : Sm g h) : Sm (tick g) (tick h) := ⟨s.ep, s.mem, s.next, by show h.done + 1 = g.done + 1; rw [s.dn], s.keys, s.nd, s.cl⟩
theorem Sm.hasK {g h : Lg} (s : Sm g h) (k : ByteArray) : hasK h.keys k = Go.Proofs.Ytfefeepljbfcdaa.hasK g.keys k := hasK_prm s.keys s.nd k
theorem Sm.valK {g h : Lg} (s : Sm g h) (k : ByteArray) : valK h.keys k = Go.Proofs.Ytfefeepljbfcdaa.valK g.keys k := valK_prm s.keys s.nd k
theorem Sm.applyR {g h : Lg} (s : Sm g h) (o : Opn) : applyR h o = Go.Proofs.Ytfefeepljbfcdaa.applyR g o := by
  unfold Go.Proofs.Ytfefeepljbfcdaa.applyR
  rw [s.hasK, s.valK, s.next, s.keys.length_eq]
theorem Sm.keysTo {g h : Lg} (s : Sm g h) {a b : Ks} (p : b.Perm a) (nd : NdK a) : Sm (setKeys g a) (setKeys h b) := ⟨s.ep, s.mem, s.next, s.dn, p, nd, s.cl⟩
theorem Sm.move {g h : Lg} (s : Sm g h) (n : List Int) (e : Int) : Sm (moveL g n e) (moveL h n e) := by
  unfold moveL
  split
  · exact ⟨s.ep, s.mem, rfl, s.dn, s.keys, s.nd, s.cl⟩
  · exact s
theorem Sm.apply {g h : Lg} (s : Sm g h) (o : Opn) : Sm (applyL g o) (applyL h o) := by
  unfold applyL
  rw [s.hasK, s.valK, s.next, s.keys.length_eq]
  (repeat' split) <;> first | exact s.move _ _ | exact s.keysTo (setK_prm s.keys s.nd _ _) (nd_setK s.nd _ _) | exact s.keysTo (delK_prm s.keys _) (nd_delK s.nd _) | exact s
theorem Sm.put {g h : Lg} (s : Sm g h) (i : Nat) (c : Cl) : Sm (setCl g i c) (setCl h i c) := ⟨s.ep, s.mem, s.next, s.dn, s.keys, s.nd, fun j hj => by
  show (if j = i then c else h.cl j) = (if j = i then c else g.cl j)
  rw [s.cl j hj]⟩
theorem idx_lt {g : Lg} {r : Req} (h0 : ¬ doE g r ≠ 0) (hn : ¬ nullB r = true) : idxR r < 8 := by
  have hr : rightB r = true := by
    cases h : rightB r
    · exfalso
      apply h0
      unfold doE
      rw [if_pos ⟨h, by cases hh : nullB r; rfl; exact absurd hh hn⟩]
      decide
    · rfl
  have := rightB_facts hr
  unfold idxR
  omega
theorem Sm.doL {g h : Lg} (s : Sm g h) (r : Req) : Sm (doL g r) (doL h r) := by
  unfold Go.Proofs.Ytfefeepljbfcdaa.doL
  rw [s.doE]
  by_cases h0 : Go.Proofs.Ytfefeepljbfcdaa.doE g r ≠ 0
  · rw [if_pos h0, if_pos h0]; exact s
  · rw [if_neg h0, if_neg h0]
    by_cases hn : nullB r = true
    · rw [if_pos hn, if_pos hn]; exact s.tick
    · rw [if_neg hn, if_neg hn, s.cl _ (idx_lt h0 hn), s.tick.applyR]
      (repeat' split) <;> first | exact s.tick | exact (s.tick.apply _).put _ _
theorem Sm.doR {g h : Lg} (s : Sm g h) (r : Req) : doR h r = Go.Proofs.Ytfefeepljbfcdaa.doR g r := by
  unfold Go.Proofs.Ytfefeepljbfcdaa.doR
  rw [s.doE]
  by_cases h0 : Go.Proofs.Ytfefeepljbfcdaa.doE g r ≠ 0
  · rw [if_pos h0, if_pos h0]
  · rw [if_neg h0, if_neg h0]
    by_cases hn : nullB r = true
    · rw [if_pos hn, if_pos hn]
    · rw [if_neg hn, if_neg hn, s.cl _ (idx_lt h0 hn), s.tick.applyR]
theorem Sm.text {g h : Lg} (s : Sm g h) : ledgT h = ledgT g := by
  have h1 : sortK h.keys = sortK g.keys := sortK_of (sortK_rise s.nd) ((sortK_perm _).trans s.keys.symm)
  have h2 : h.keys.length = g.keys.length := s.keys.length_eq
  have h3 : (List.range 8).flatMap (fun i => cliT (h.cl i)) = (List.range 8).flatMap (fun i => cliT (g.cl i)) := by
    simp only [List.range, List.range.loop, List.flatMap_cons, List.flatMap_nil]
    rw [s.cl 0 (by decide), s.cl 1 (by decide), s.cl 2 (by decide), s.cl 3 (by decide), s.cl 4 (by decide), s.cl 5 (by decide), s.cl 6 (by decide), s.cl 7 (by decide)]
  unfold ledgT
  rw [h1, h2, h3, s.ep, s.mem, s.next, s.dn]
end Go.Proofs.Ytfefeepljbfcdaa
