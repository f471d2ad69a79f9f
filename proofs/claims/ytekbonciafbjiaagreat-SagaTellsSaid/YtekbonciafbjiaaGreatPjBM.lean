/- Joined texts: SagaNew22. What each proves stands at its head; no conditions beside those in its theorems. -/
import Derived.SizedLaws
import Derived.Test.YtekbonciafbjiaaGreatPjAA
import Derived.Test.YtekbonciafbjiaaGreatPjAC
import Derived.Test.YtekbonciafbjiaaGreatPjAD
import Derived.Test.YtekbonciafbjiaaGreatPjAG
import Derived.Test.YtekbonciafbjiaaGreatPjAH
import Derived.Test.YtekbonciafbjiaaGreatPjAI
import Derived.Test.YtekbonciafbjiaaGreatPjAN
import Derived.Test.YtekbonciafbjiaaGreatPjAJ
import Derived.Test.YtekbonciafbjiaaGreatPjAS
import Derived.Test.YtekbonciafbjiaaGreatPjAT
import Derived.Test.YtekbonciafbjiaaGreatPjAU
import Derived.Test.YtekbonciafbjiaaGreatPjAV
import Derived.Test.YtekbonciafbjiaaGreatPjAY
import Derived.Test.YtekbonciafbjiaaGreatPjAL
import Derived.Test.YtekbonciafbjiaaGreatPjAM
import Derived.Test.YtekbonciafbjiaaGreatPjAO
import Derived.Test.YtekbonciafbjiaaGreatPjAR
import Derived.Test.YtekbonciafbjiaaGreatPjAW
import Derived.Test.YtekbonciafbjiaaGreatPjBC
import Derived.Test.YtekbonciafbjiaaGreatPjAE
import Derived.Test.YtekbonciafbjiaaGreatPjAP
import Derived.Test.YtekbonciafbjiaaGreatPjBA
import Derived.Test.YtekbonciafbjiaaGreatPjBI
import Derived.Test.YtekbonciafbjiaaGreatPjBJ
import Derived.Test.YtekbonciafbjiaaGreatPjBK
import Derived.Test.YtekbonciafbjiaaGreatPjAX
/- Layer 22: what a law says first: a saga of a log of asks (the parts that the walks share). -/
namespace Go.Proofs.YtekbonciafbjiaaGreat
open Go.RowKit Go.Lib F64
set_option linter.unusedSimpArgs false
set_option linter.unusedVariables false
/-- The same under a name without the world's letter (for the marks R). -/
abbrev Sag (base : Nat) (w : World) (s : Nat) (v1 v2 : Value) (xs : List Int) (l : List Req) (bs : List (Nat × Nat)) : Prop := SgW base w s v1 v2 xs l bs
theorem SgW.low {base base' : Nat} {w : World} {s : Nat} {v1 v2 : Value} {xs : List Int} {l : List Req} {bs : List (Nat × Nat)} (h : SgW base w s v1 v2 xs l bs) (hb : base' ≤ base) : SgW base' w s v1 v2 xs l bs :=
  ⟨h.box, Nat.le_trans hb h.sb, ownR_base h.r1 hb, ownR_base h.r2 hb, h.nb, h.ld⟩
def moLog (l : List Req) : Mo := ⟨fun v w => ∃ ra rc, v = .slice ra l.length rc ∧ Reqs w ra rc l, fun _ _ _ x ⟨g, c, e, h⟩ => ⟨g, c, e, h.extN x⟩⟩
def moNew (base : Nat) (xs : List Int) (l : List Req) : Mo := ⟨fun v w => ∃ s v1 v2 bs, v = .tuple #[.pointer (some ⟨s, 0, none⟩), .int .i64 0] ∧ SgW base w s v1 v2 xs l bs, fun _ _ _ x ⟨s, v1, v2, bs, e, h⟩ => ⟨s, v1, v2, bs, e, h.extN x⟩⟩
def moSag (base : Nat) (xs : List Int) (l : List Req) : Mo := ⟨fun v w => ∃ s v1 v2 bs, v = .pointer (some ⟨s, 0, none⟩) ∧ SgW base w s v1 v2 xs l bs, fun _ _ _ x ⟨s, v1, v2, bs, e, h⟩ => ⟨s, v1, v2, bs, e, h.extN x⟩⟩
theorem log_reqs (l : List Ak) (hlim : l.length * 56 ≤ 140737488351232) (lr : List Req) (hlr : lr = l.map Ak.req) (a : Option Addr) (cap : Nat) (w : World) (h : Aks w a cap l) : Calls Tryz.prog 6 #[.slice a l.length cap] w fun e w' =>
    ∃ ra rc, e = .returned (.slice ra lr.length rc) ∧ Reqs w' ra rc lr ∧ Ext Non w w' := by
  refine (law22_log a cap l hlim w h).mono fun e w' ⟨ra, rc, he, hR, hx⟩ => ?_
  subst hlr
  exact ⟨ra, rc, by rw [he, List.length_map], hR, hx⟩
theorem aks_ok {w : World} {a : Option Addr} {cap : Nat} {l : List Ak} (h : Aks w a cap l) {lr : List Req} (hlr : lr = l.map Ak.req) : ∀ r ∈ lr, ReqOk r := fun r hr => by
  subst hlr
  obtain ⟨q, hq, rfl⟩ := List.mem_map.1 hr
  obtain ⟨j, hj, rfl⟩ := List.getElem_of_mem hq
  obtain ⟨_, _, _, _, _, ho⟩ := h.at_ j hj
  exact ho
theorem newE_zero {ep : Int} {xs : List Int} {l : List Req} (h : newE ep xs l = 0) : membersB xs = true ∧ ep = 0 ∧ (∀ r ∈ l, askedB r = true) ∧ l.length ≤ 244 := by
  unfold newE at h
  split at h
  · rename_i hc
    split at h
    · rename_i ha
      split at h
      · cases h
      · rename_i hl
        have hm : membersB xs = true := by have := hc.1; unfold confB at this; simp only [Bool.and_eq_true] at this; exact this.2
        exact ⟨hm, hc.2, by unfold allAsked at ha; rw [List.all_eq_true] at ha; exact ha, by omega⟩
    · cases h
  · cases h
theorem askOk_of {l : List Req} (h1 : ∀ r ∈ l, askedB r = true) (h2 : ∀ r ∈ l, ReqOk r) : ∀ q ∈ l, AskOk q := fun q hq => ⟨by have := h1 q hq; unfold askedB at this; simpa using this, (h2 q hq).x⟩
section
open Go.ChangeShapes Go.WideShapes
variable {H : Type} {enc : TypeId × Value → H} {W : World} {base n : Nat} {spare : Nat → Bool} {held : Bool}
theorem bytes_ask : (Tryz.prog).bytesOf 28 = 56 := by kernel_rfl
set_option maxRecDepth 100000 in
theorem arg_asks {v : Value} {d : DataW H} {p : List MemPlace} {b0 : Nat} {r : Reach} (ok : Value.okWide Tryz.prog W r b0 25 v) (h : DataW.Trod enc Tryz.prog W base spare held 25 v d p) :
    ∃ (a : Option Addr) (cap : Nat) (l : List Ak), v = .slice a l.length cap ∧ Aks W a cap l ∧ (l.length = 0 ∨ ∃ elems sp, d = .slice elems sp ∧ elems.length = l.length) := by
  obtain ⟨a, len, cap, rfl⟩ := okWide_slice Tryz.underlying25 ok
  obtain ⟨m, hm⟩ := h
  have hm' : DataW.trod enc Tryz.prog W base spare held m 25 [.slice a len cap] = some (d, p) := hm
  obtain ⟨a', cap', l, e, hc⟩ := read_asks hm'
  injection e with e
  injection e with e1 e2 e3
  subst e1; subst e3; subst e2
  refine ⟨a, cap, l, rfl, hc, ?_⟩
  rcases Go.Deep.open_slice Tryz.underlying25 hm' with ⟨e, _⟩ | ⟨a2, len2, cap2, m2, k2, D, Pl, e, _, _, _, _, ex, _⟩
  · injection e with e; injection e with _ e _
    exact .inl e
  · injection e with e; injection e with _ e _
    injection ex with ex _
    exact .inr ⟨_, _, ex, by rw [List.length_map, List.length_range]; exact e.symm⟩
theorem asks_lim {ts : List TypeId} {ds : List (DataW H)} {j : Nat} {d : DataW H} {len : Nat} (hz : (DataW.weightsEach Tryz.prog ts ds).all (· ≤ reachBytes) = true) (ht : ts[j]? = some 25) (hd : ds[j]? = some d) (h : len = 0 ∨ ∃ elems sp, d = .slice elems sp ∧ elems.length = len) : len * 56 ≤ 140737488351232 := by
  rcases h with rfl | ⟨elems, sp, rfl, he⟩
  · omega
  · have q := sized_slice hz ht hd Tryz.underlying25
    rw [bytes_ask] at q
    have : reachBytes = 140737488351232 := rfl
    rw [this] at q
    have h2 : len * 56 ≤ (elems.length + sp.length) * 56 := Nat.mul_le_mul_right _ (by omega)
    omega
end
end Go.Proofs.YtekbonciafbjiaaGreat
