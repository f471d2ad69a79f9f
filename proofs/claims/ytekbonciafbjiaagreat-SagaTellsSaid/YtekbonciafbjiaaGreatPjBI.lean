/- Joined texts: Saga1, Saga4. What each proves stands at its head; no conditions beside those in its theorems. -/
import Derived.Test.YtekbonciafbjiaaGreatPjAA
import Derived.Test.YtekbonciafbjiaaGreatPjAC
import Derived.Test.YtekbonciafbjiaaGreatPjAD
import Derived.Test.YtekbonciafbjiaaGreatPjAG
import Derived.Test.YtekbonciafbjiaaGreatPjAH
import Derived.Test.YtekbonciafbjiaaGreatPjAI
import Derived.Test.YtekbonciafbjiaaGreatPjAN
import Derived.Test.YtekbonciafbjiaaGreatPjAJ
import Derived.Test.YtekbonciafbjiaaGreatPjAS
import Derived.Test.YtekbonciafbjiaaGreatPjAT
import Derived.Test.YtekbonciafbjiaaGreatPjAU
import Derived.Test.YtekbonciafbjiaaGreatPjAV
import Derived.Test.YtekbonciafbjiaaGreatPjAY
import Derived.Test.YtekbonciafbjiaaGreatPjAL
import Derived.Test.YtekbonciafbjiaaGreatPjAM
import Derived.Test.YtekbonciafbjiaaGreatPjAO
import Derived.Test.YtekbonciafbjiaaGreatPjAR
import Derived.Test.YtekbonciafbjiaaGreatPjAW
import Derived.Test.YtekbonciafbjiaaGreatPjBC
import Derived.Test.YtekbonciafbjiaaGreatPjAE
import Derived.Test.YtekbonciafbjiaaGreatPjAP
import Derived.Test.YtekbonciafbjiaaGreatPjBA
/- Contracts of layer 22: asked, a log of asks. -/
namespace Go.Proofs.YtekbonciafbjiaaGreat
open Go.RowKit Go.Lib F64
set_option linter.unusedSimpArgs false
set_option linter.unusedVariables false
attribute [local go_sem] run_store_float
attribute [local go_sem low] EW.cellN EW.frozN alloc_cell_or alloc_froz_or EW.cellF EW.frozF EW.cell1 EW.froz1
attribute [local go_sem] relAt relUpon
theorem saga_asked (c s k : Int) (key : ByteArray) (x : Nat) (id : Int) (h : ReqOk ⟨c, s, ⟨k, key, x, id⟩⟩) (w : World) :
    Calls Tryz.prog 23 #[.agg #[.int .i64 c, .int .i64 s, .int .i64 k, .string key, .float .f64 x, .int .i64 id]] w fun e w' => e = .returned (.bool (askedB ⟨c, s, ⟨k, key, x, id⟩⟩)) ∧ Ext Non w w' := by
  have HR := Go.Lib.hid h
  have DA : Hid (askedB ⟨c, s, ⟨k, key, x, id⟩⟩ = (rightB ⟨c, s, ⟨k, key, x, id⟩⟩ || nullB ⟨c, s, ⟨k, key, x, id⟩⟩)) := Go.Lib.hid rfl
  clear h
  go_enter Tryz.func23, Tryz.ntmps23
  go_wp2_with fail
  refine Calls.ew (deeds_Right c s k key x id _) ?_
  rintro e x1 rfl
  cases hr : rightB ⟨c, s, ⟨k, key, x, id⟩⟩
  · have HH := Go.Lib.hid hr; clear hr
    go_wp2_with fail
    refine Calls.ew (deeds_Null c s k key x id HR.out.c HR.out.s HR.out.k HR.out.id _) ?_
    rintro e x2 rfl
    go_wp2
    go_ret
    exact ⟨by rw [DA.out, HH.out]; rfl, by (repeat (first | with_reducible (first | exact Ext.refl _ _ | assumption | refine Ext.upN ?_ | refine Ext.alloc ?_ _ | refine Ext.drew ?_ | refine Ext.drewN ?_ _ | refine Ext.up1N (by first | omega | simp) ?_) | refine Ext.alloc ?_ _ | refine Ext.setCell ?_ (.inr (by first | omega | simp)) _))⟩
  · have HH := Go.Lib.hid hr; clear hr
    go_wp2
    go_ret
    exact ⟨by rw [DA.out, HH.out]; rfl, by (repeat (first | with_reducible (first | exact Ext.refl _ _ | assumption | refine Ext.upN ?_ | refine Ext.alloc ?_ _ | refine Ext.drew ?_ | refine Ext.drewN ?_ _ | refine Ext.up1N (by first | omega | simp) ?_) | refine Ext.alloc ?_ _ | refine Ext.setCell ?_ (.inr (by first | omega | simp)) _))⟩
theorem saga_New1 (c s k : Int) (key : ByteArray) (x : Nat) (id : Int) (h : ReqOk ⟨c, s, ⟨k, key, x, id⟩⟩) (w : World) :
    Calls Tryz.prog 22 #[.agg #[.int .i64 c, .int .i64 s, .int .i64 k, .string key, .float .f64 x, .int .i64 id]] w fun e w' => e = .returned (.bool (!askedB ⟨c, s, ⟨k, key, x, id⟩⟩)) ∧ Ext Non w w' := by
  have HR := Go.Lib.hid h
  clear h
  go_enter Tryz.func22, Tryz.ntmps22
  go_wp2_with fail
  refine Calls.ew (saga_asked c s k key x id HR.out _) ?_
  rintro e x1 rfl
  go_wp2
  go_ret
  exact ⟨rfl, by (repeat (first | with_reducible (first | exact Ext.refl _ _ | assumption | refine Ext.upN ?_ | refine Ext.alloc ?_ _ | refine Ext.drew ?_ | refine Ext.drewN ?_ _ | refine Ext.up1N (by first | omega | simp) ?_) | refine Ext.alloc ?_ _ | refine Ext.setCell ?_ (.inr (by first | omega | simp)) _))⟩
theorem info_req9 : (Tryz.prog.info? 53).map (fun i => (i.zero, i.size, i.bytes)) = some (some (.agg #[.int .i64 0, .int .i64 0, .int .i64 0, .string ByteArray.empty, .float .f64 0, .int .i64 0]), 6, 56) := by kernel_rfl
set_option maxHeartbeats 1000000 in
set_option maxRecDepth 100000 in
theorem law22_log (a : Option Addr) (cap : Nat) (l : List Ak) (hlim : l.length * 56 ≤ 140737488351232) (w : World) (h : Aks w a cap l) : Calls Tryz.prog 6 #[.slice a l.length cap] w fun e w' =>
    ∃ ra rc, e = .returned (.slice ra l.length rc) ∧ Reqs w' ra rc (l.map Ak.req) ∧ Ext Non w w' := by
  have HA := Go.Lib.hid h
  have s1 := h.small; have s2 := h.le
  clear h
  have ROW0 : Hid (w.ownsRow w.heap.size 53 6 (.slice none 0 0) 0 []) := Go.Lib.hid (World.ownsRow_nil _ _ _ _)
  go_enter Tryz.func6, Tryz.ntmps6
  go_wp2_with fail
  go_loopg [3, 4] l.length (fun n ov iv wr => ∃ (v : Value) (i : Nat) (z : EW Non w), v = ov ∧ i ≤ l.length ∧ n = l.length - i ∧ iv = .int .i64 i ∧ wr = z.on ∧ Hid (wr.ownsRow w.heap.size 53 6 v i (((l.take i).map Ak.req).flatMap Req.cells)))
  case atStart => exact ⟨_, 0, ⟨_, by (repeat (first | with_reducible (first | exact Ext.refl _ _ | assumption | refine Ext.upN ?_ | refine Ext.alloc ?_ _ | refine Ext.drew ?_ | refine Ext.drewN ?_ _ | refine Ext.up1N (by first | omega | simp) ?_) | refine Ext.alloc ?_ _ | refine Ext.setCell ?_ (.inr (by first | omega | simp)) _))⟩, rfl, Nat.zero_le _, rfl, rfl, rfl, ROW0⟩
  case round =>
    clear ROW0
    obtain ⟨v, i, z, rfl, hi, hn, rfl, rfl, HO⟩ := hrel
    have HN := Go.Lib.hid hn; clear hn
    by_cases hlt : i < l.length
    · obtain ⟨ab, ao, rfl, hab, hc, hro⟩ := HA.out.at_ i hlt
      have HT : Hid (((l.take (i + 1)).map Ak.req).flatMap Req.cells = ((l.take i).map Ak.req).flatMap Req.cells ++ (l[i]).req.cells) := Go.Lib.hid (by rw [List.take_succ_eq_append_getElem hlt, List.map_append, List.flatMap_append]; simp only [List.map_cons, List.map_nil, List.flatMap_cons, List.flatMap_nil, List.append_nil])
      generalize l[i] = o at *
      obtain ⟨c, s, k, key, b, id⟩ := o
      have q0 : w.cell? ⟨ab, ao + i * 6, none⟩ = some (.int .i64 c) := hc 0 _ rfl
      have q1 : w.cell? ⟨ab, ao + i * 6 + 1, none⟩ = some (.int .i64 s) := hc 1 _ rfl
      have q2 : w.cell? ⟨ab, ao + i * 6 + 2, none⟩ = some (.int .i64 k) := hc 2 _ rfl
      have q3 : w.cell? ⟨ab, ao + i * 6 + 3, none⟩ = some (.string key) := hc 3 _ rfl
      have q4 : w.cell? ⟨ab, ao + i * 6 + 4, none⟩ = some (.int .u64 b) := hc 4 _ rfl
      have q5 : w.cell? ⟨ab, ao + i * 6 + 5, none⟩ = some (.int .i64 id) := hc 5 _ rfl
      clear hc hro
      go_wp2_with fail
      refine Calls.ew (law11_Request c s k key b id _) ?_
      rintro e x1 rfl
      have HO1 := Go.Lib.hid (ownR_extN HO.out ((Ext.refl Non z.on).trans (by (repeat (first | with_reducible (first | exact Ext.refl _ _ | assumption | refine Ext.upN ?_ | refine Ext.alloc ?_ _ | refine Ext.drew ?_ | refine Ext.drewN ?_ _ | refine Ext.up1N (by first | omega | simp) ?_) | refine Ext.alloc ?_ _ | refine Ext.setCell ?_ (.inr (by first | omega | simp)) _)) : Ext Non z.on x1.on)))
      have hsz : w.heap.size ≤ x1.on.heap.size := by have h1 := x1.ext.size; have h2 := z.ext.size; omega
      go_wp2_with (at_builtin; refine wpList_append_rowB rfl _ _ 36 rfl w.heap.size 53 6 56 _ Tryz.underlying36 info_req9 (by rfl) (by omega) v i _ rfl (ownR_extN HO1.out (by (repeat (first | with_reducible (first | exact Ext.refl _ _ | assumption | refine Ext.upN ?_ | refine Ext.alloc ?_ _ | refine Ext.drew ?_ | refine Ext.drewN ?_ _ | refine Ext.up1N (by first | omega | simp) ?_) | refine Ext.alloc ?_ _ | refine Ext.setCell ?_ (.inr (by first | omega | simp)) _)))) x1.on.heap.size [.int .i64 c, .int .i64 s, .int .i64 k, .string key, .float .f64 b.toNat, .int .i64 id] 53 rfl (Bx.newAt _ _ _ _ rfl) rfl (by simp [Value.oneCell']) (by omega) (by omega) (by simp; omega) (fun v' W2 hO hrow => ?_); have HO2 := Go.Lib.hid hO; clear hO hrow)
      have XA : Ext Non w (x1.on.alloc (.cells [.int .i64 c, .int .i64 s, .int .i64 k, .string key, .float .f64 b.toNat, .int .i64 id].toArray 53)) := by (repeat (first | with_reducible (first | exact Ext.refl _ _ | assumption | refine Ext.upN ?_ | refine Ext.alloc ?_ _ | refine Ext.drew ?_ | refine Ext.drewN ?_ _ | refine Ext.up1N (by first | omega | simp) ?_) | refine Ext.alloc ?_ _ | refine Ext.setCell ?_ (.inr (by first | omega | simp)) _))
      have XF := XA.step W2.ext (fun j hj h => by have := (own_row HO1.out j h).1; omega)
      go_roundg (l.length - (i + 1))
      case measure => have := HN.out; omega
      case rel => exact ⟨_, i + 1, ⟨_, XF⟩, rfl, hlt, rfl, by go_num, rfl, Go.Lib.hid (by rw [HT.out]; exact HO2.out)⟩
    · obtain rfl : i = l.length := by omega
      have hO := HO.out
      rw [List.take_length] at hO
      have hO' : z.on.ownsRow w.heap.size 53 6 v (l.map Ak.req).length ((l.map Ak.req).flatMap Req.cells) := by rw [List.length_map]; exact hO
      obtain ⟨ra, rc, e, hR⟩ := reqs_of_own (l.map Ak.req) hO'
      rw [List.length_map] at e
      subst e
      have HRe := Go.Lib.hid hR
      clear hO hO' hR
      go_wp2
      go_ret
      exact ⟨ra, rc, rfl, HRe.out.extN (by (repeat (first | with_reducible (first | exact Ext.refl _ _ | assumption | refine Ext.upN ?_ | refine Ext.alloc ?_ _ | refine Ext.drew ?_ | refine Ext.drewN ?_ _ | refine Ext.up1N (by first | omega | simp) ?_) | refine Ext.alloc ?_ _ | refine Ext.setCell ?_ (.inr (by first | omega | simp)) _))), by (repeat (first | with_reducible (first | exact Ext.refl _ _ | assumption | refine Ext.upN ?_ | refine Ext.alloc ?_ _ | refine Ext.drew ?_ | refine Ext.drewN ?_ _ | refine Ext.up1N (by first | omega | simp) ?_) | refine Ext.alloc ?_ _ | refine Ext.setCell ?_ (.inr (by first | omega | simp)) _))⟩
end Go.Proofs.YtekbonciafbjiaaGreat

/- Contracts of layer 22: what a saga tells: Len, Conf, Outcome. -/
namespace Go.Proofs.YtekbonciafbjiaaGreat
open Go.RowKit Go.Lib F64
set_option linter.unusedSimpArgs false
set_option linter.unusedVariables false
attribute [local go_sem] run_store_float
attribute [local go_sem low] EW.cellN EW.frozN alloc_cell_or alloc_froz_or EW.cellF EW.frozF EW.cell1 EW.froz1
attribute [local go_sem] relAt relUpon
theorem own_shape {w : World} {base : Nat} {e : TypeId} {k : Nat} {v : Value} {n : Nat} {xs : List Value} (h : w.ownsRow base e k v n xs) : ∃ a cap, v = .slice a n cap ∧ n ≤ cap ∧ cap ≤ 9223372036854775807 := by
  rcases h.2 with ⟨rfl, rfl⟩ | ⟨g, cap, cur, rfl, hb, hg, hc, hm, hs, ht⟩
  · exact ⟨none, 0, rfl, by omega, by omega⟩
  · exact ⟨_, cap, rfl, hc, by unfold maxLen at hm; omega⟩
theorem bsr_get (bs : List (Nat × Nat)) (i : Nat) (h : i < bs.length) : (bs.flatMap ptB)[i]? = some (.pointer (some ⟨bs[i].1, 0, none⟩)) := by
  have := flatA_get ptB 1 (fun _ => rfl) bs i 0 h (by omega)
  simpa [ptB] using this
theorem book_cell {base : Nat} {w : World} {s : Nat} {v1 v2 : Value} {xs : List Int} {l : List Req} {bs : List (Nat × Nat)} (h : SgW base w s v1 v2 xs l bs) : ∃ g cap, v1 = .slice (some ⟨g, 0, none⟩) (l.length + 1) cap ∧ l.length + 1 ≤ cap ∧ cap ≤ 9223372036854775807 ∧ ∀ i (hi : i < bs.length), w.cell? ⟨g, i, none⟩ = some (.pointer (some ⟨bs[i].1, 0, none⟩)) := by
  have hn := h.nb
  rcases h.r1.2 with ⟨_, hz⟩ | ⟨g, cap, cur, e, hb, hg, hc, hm, hs, ht⟩
  · omega
  · refine ⟨g, cap, by rw [e, hn], by omega, by unfold maxLen at hm; omega, fun i hi => ?_⟩
    have q := bsr_get bs i hi
    rw [← ht, List.getElem?_take, if_pos (by omega), Array.getElem?_toList] at q
    simp [World.cell?, hg, q]
theorem saga_Len (base s : Nat) (v1 v2 : Value) (xs : List Int) (l : List Req) (bs : List (Nat × Nat)) (w : World) (h : SgW base w s v1 v2 xs l bs) : Calls Tryz.prog 15 #[.pointer (some ⟨s, 0, none⟩)] w fun e w' => e = .returned (.int .i64 l.length) ∧ Ext Non w w' := by
  obtain ⟨a2, c2, rfl, h2, h3⟩ := own_shape h.r2
  have q1 : w.cell? ⟨s, 1, none⟩ = some (.slice a2 l.length c2) := by rw [← stepsL_len l (newL xs)]; exact h.box.cell rfl
  clear h
  go_enter Tryz.func15, Tryz.ntmps15
  go_wp2
  go_ret
  exact ⟨rfl, by (repeat (first | with_reducible (first | exact Ext.refl _ _ | assumption | refine Ext.upN ?_ | refine Ext.alloc ?_ _ | refine Ext.drew ?_ | refine Ext.drewN ?_ _ | refine Ext.up1N (by first | omega | simp) ?_) | refine Ext.alloc ?_ _ | refine Ext.setCell ?_ (.inr (by first | omega | simp)) _))⟩
set_option maxHeartbeats 1000000 in
set_option maxRecDepth 100000 in
theorem saga_Conf_yes (base s : Nat) (v1 v2 : Value) (xs : List Int) (l : List Req) (bs : List (Nat × Nat)) (hm : membersB xs = true) (hl : l.length ≤ 244) (hq : ∀ q ∈ l, AskOk q) (n : Nat) (h60 : n ≤ 60) (h4 : 4 * n ≤ l.length) (w : World) (h : SgW base w s v1 v2 xs l bs) :
    Calls Tryz.prog 10 #[.pointer (some ⟨s, 0, none⟩), .int .i64 n] w fun e w' => ∃ a cap, e = .returned (.tuple #[.agg #[.int .i64 n, .slice a (memN xs l n).length cap], .bool true]) ∧ Ints w' a cap (memN xs l n) ∧ Ext Non w w' := by
  obtain ⟨g1, cap1, rfl, hc1, hcs1, hcell⟩ := book_cell h
  obtain ⟨a2, c2, rfl, h2, h3⟩ := own_shape h.r2
  have nb := h.nb
  have hlt : 4 * n < bs.length := by omega
  obtain ⟨b, m, hbm⟩ : ∃ b m, bs[4 * n] = (b, m) := ⟨_, _, rfl⟩
  have q0 : w.cell? ⟨s, 0, none⟩ = some (.slice (some ⟨g1, 0, none⟩) (l.length + 1) cap1) := h.box.cell rfl
  have q1 : w.cell? ⟨s, 1, none⟩ = some (.slice a2 l.length c2) := by rw [← stepsL_len l (newL xs)]; exact h.box.cell rfl
  have q2 : w.cell? ⟨g1, 4 * n, none⟩ = some (.pointer (some ⟨b, 0, none⟩)) := by have := hcell _ hlt; rw [hbm] at this; exact this
  have HLD : Hid (LD w b m (gAt xs l (4 * n))) := Go.Lib.hid (by have := h.ld _ hlt; rw [hbm] at this; exact this)
  have I := Go.Lib.hid (gAt_inv hm hq (4 * n) : Inv (gAt xs l (4 * n)))
  have CA : Hid (0 < n → (turnL (gAt xs l (4 * n))).epoch = n ∧ (turnL (gAt xs l (4 * n))).mem = memN xs l n) := Go.Lib.hid (fun hp => ⟨(conf_at xs l hm hl hq hp h60 h4).2.1, (conf_at xs l hm hl hq hp h60 h4).2.2.1⟩)
  have Z : Hid (n = 0 → (gAt xs l (4 * n)).epoch = n ∧ (gAt xs l (4 * n)).mem = memN xs l n) := Go.Lib.hid (fun e => by subst e; exact ⟨rfl, rfl⟩)
  have hw4 : IntKind.i64.wrap ((n : Int) * 4) = (n : Int) * 4 := IntWalk.i64_in _ (by omega)
  have hsp := h.box.lt
  clear h hcell hbm h2 h3
  generalize gAt xs l (4 * n) = g at *
  have d1 : decide ((n : Int) < 0) = false := decide_eq_false (by omega)
  have d2 : decide ((60 : Int) < (n : Int)) = false := decide_eq_false (by omega)
  have d3 : decide ((l.length : Int) < (n : Int) * 4) = false := decide_eq_false (by omega)
  have e4 : ((n : Int) * 4).toNat = 4 * n := by omega
  have e5 : (0 : Int) ≤ (n : Int) * 4 ∧ (n : Int) * 4 < (l.length : Int) + 1 := by omega
  obtain ⟨e5a, e5b⟩ := e5
  go_enter Tryz.func10, Tryz.ntmps10
  go_wp2_with fail
  refine (ledger_Copy b m g I.out _ (HLD.out.extN (by (repeat (first | with_reducible (first | exact Ext.refl _ _ | assumption | refine Ext.upN ?_ | refine Ext.alloc ?_ _ | refine Ext.drew ?_ | refine Ext.drewN ?_ _ | refine Ext.up1N (by first | omega | simp) ?_) | refine Ext.alloc ?_ _ | refine Ext.setCell ?_ (.inr (by first | omega | simp)) _))))).mono ?_
  rintro e _ ⟨b2, m2, rfl, hx, hL2, hb2, hm2⟩
  obtain ⟨x2, rfl⟩ := hx.ew
  have HL2 := Go.Lib.hid hL2
  clear hx hL2
  by_cases hn0 : n = 0
  · subst hn0
    obtain ⟨z1, z2⟩ := Z.out rfl
    have HZ1 := Go.Lib.hid z1; have HZ2 := Go.Lib.hid z2
    clear z1 z2
    go_wp2_with fail
    refine (ledger_Conf b2 m2 g I.out _ (HL2.out.extN (by (repeat (first | with_reducible (first | exact Ext.refl _ _ | assumption | refine Ext.upN ?_ | refine Ext.alloc ?_ _ | refine Ext.drew ?_ | refine Ext.drewN ?_ _ | refine Ext.up1N (by first | omega | simp) ?_) | refine Ext.alloc ?_ _ | refine Ext.setCell ?_ (.inr (by first | omega | simp)) _))))).mono ?_
    rintro e _ ⟨ca, cc, rfl, hx, hI, hF⟩
    obtain ⟨x3, rfl⟩ := hx.ew
    rw [HZ1.out, HZ2.out]
    rw [HZ2.out] at hI
    have HI := Go.Lib.hid hI; have HFr := Go.Lib.hid hF
    clear hx hI hF
    go_wp2
    go_returns
    exact ⟨ca, cc, rfl, HI.out.ext ((Ext.refl (One w.heap.size) _).set1 (o := 0) _ |>.trans ((Ext.refl (One w.heap.size) _).set1 (o := 1) _)) (fun b' o e h => by
      have h1 := (HFr.out b' o e).1; have h2 := x2.ext.size; simp at h2; have h : b' = w.heap.size := h; omega), by (repeat (first | with_reducible (first | exact Ext.refl _ _ | assumption | refine Ext.upN ?_ | refine Ext.alloc ?_ _ | refine Ext.drew ?_ | refine Ext.drewN ?_ _ | refine Ext.up1N (by first | omega | simp) ?_) | refine Ext.alloc ?_ _ | refine Ext.setCell ?_ (.inr (by first | omega | simp)) _))⟩
  · have hp : decide (0 < (n : Int)) = true := decide_eq_true (by omega)
    have HC := Go.Lib.hid (CA.out (by omega))
    go_wp2_with fail
    refine (ledger_Turn b2 m2 g I.out _ HL2.out).mono ?_
    rintro e w5 ⟨rfl, hT, hLT⟩
    have HLT := Go.Lib.hid hLT
    have IT := Go.Lib.hid (inv_turn I.out)
    obtain ⟨x5, hx5⟩ := (x2.ext.own hT (fun j e => by have : j = b2 := e; omega)).ew
    subst hx5
    clear hT hLT
    go_wp2_with fail
    refine (ledger_Conf b2 m2 _ IT.out _ (HLT.out.extN (by (repeat (first | with_reducible (first | exact Ext.refl _ _ | assumption | refine Ext.upN ?_ | refine Ext.alloc ?_ _ | refine Ext.drew ?_ | refine Ext.drewN ?_ _ | refine Ext.up1N (by first | omega | simp) ?_) | refine Ext.alloc ?_ _ | refine Ext.setCell ?_ (.inr (by first | omega | simp)) _))))).mono ?_
    rintro e _ ⟨ca, cc, rfl, hx, hI, hF⟩
    obtain ⟨x3, rfl⟩ := hx.ew
    rw [HC.out.1, HC.out.2]
    rw [HC.out.2] at hI
    have HI := Go.Lib.hid hI; have HFr := Go.Lib.hid hF
    clear hx hI hF
    go_wp2
    go_returns
    exact ⟨ca, cc, rfl, HI.out.ext ((Ext.refl (One w.heap.size) _).set1 (o := 0) _ |>.trans ((Ext.refl (One w.heap.size) _).set1 (o := 1) _)) (fun b' o e h => by
      have h1 := (HFr.out b' o e).1; have h2 := x5.ext.size; simp at h2; have h : b' = w.heap.size := h; omega), by (repeat (first | with_reducible (first | exact Ext.refl _ _ | assumption | refine Ext.upN ?_ | refine Ext.alloc ?_ _ | refine Ext.drew ?_ | refine Ext.drewN ?_ _ | refine Ext.up1N (by first | omega | simp) ?_) | refine Ext.alloc ?_ _ | refine Ext.setCell ?_ (.inr (by first | omega | simp)) _))⟩
set_option maxHeartbeats 1000000 in
set_option maxRecDepth 100000 in
theorem saga_Conf_no (base s : Nat) (v1 v2 : Value) (xs : List Int) (l : List Req) (bs : List (Nat × Nat)) (n : Int) (hn : I64 n) (hno : n < 0 ∨ 60 < n ∨ (l.length : Int) < 4 * n) (w : World) (h : SgW base w s v1 v2 xs l bs) :
    Calls Tryz.prog 10 #[.pointer (some ⟨s, 0, none⟩), .int .i64 n] w fun e w' => e = .returned (.tuple #[.agg #[.int .i64 0, .slice none 0 0], .bool false]) ∧ Ext Non w w' := by
  obtain ⟨a2, c2, rfl, h2, h3⟩ := own_shape h.r2
  have q1 : w.cell? ⟨s, 1, none⟩ = some (.slice a2 l.length c2) := by rw [← stepsL_len l (newL xs)]; exact h.box.cell rfl
  clear h h2 h3
  by_cases h1 : n < 0
  · go_enter Tryz.func10, Tryz.ntmps10
    go_wp2
    go_returns
    exact ⟨rfl, by (repeat (first | with_reducible (first | exact Ext.refl _ _ | assumption | refine Ext.upN ?_ | refine Ext.alloc ?_ _ | refine Ext.drew ?_ | refine Ext.drewN ?_ _ | refine Ext.up1N (by first | omega | simp) ?_) | refine Ext.alloc ?_ _ | refine Ext.setCell ?_ (.inr (by first | omega | simp)) _))⟩
  · have d1 : decide (n < 0) = false := decide_eq_false h1
    by_cases h2 : 60 < n
    · go_enter Tryz.func10, Tryz.ntmps10
      go_wp2
      go_returns
      exact ⟨rfl, by (repeat (first | with_reducible (first | exact Ext.refl _ _ | assumption | refine Ext.upN ?_ | refine Ext.alloc ?_ _ | refine Ext.drew ?_ | refine Ext.drewN ?_ _ | refine Ext.up1N (by first | omega | simp) ?_) | refine Ext.alloc ?_ _ | refine Ext.setCell ?_ (.inr (by first | omega | simp)) _))⟩
    · have d2 : decide (60 < n) = false := decide_eq_false h2
      have hw4 : IntKind.i64.wrap (n * 4) = n * 4 := IntWalk.i64_in _ (by omega)
      have d3 : decide ((l.length : Int) < n * 4) = true := decide_eq_true (by omega)
      go_enter Tryz.func10, Tryz.ntmps10
      go_wp2
      go_returns
      exact ⟨rfl, by (repeat (first | with_reducible (first | exact Ext.refl _ _ | assumption | refine Ext.upN ?_ | refine Ext.alloc ?_ _ | refine Ext.drew ?_ | refine Ext.drewN ?_ _ | refine Ext.up1N (by first | omega | simp) ?_) | refine Ext.alloc ?_ _ | refine Ext.setCell ?_ (.inr (by first | omega | simp)) _))⟩
def zeroSp : Sp := ⟨⟨0, 0, ⟨0, ByteArray.empty, 0, 0⟩⟩, 0, 0, false⟩
def outV (sp : List Sp) (o : Option Nat) : Value := match o with
  | none => .tuple #[.int .i64 0, .agg #[.int .i64 0, .float .f64 0], .bool false]
  | some i => .tuple #[.int .i64 ((i : Int) + 1), .agg #[.int .i64 (sp.getD i zeroSp).code, .float .f64 (sp.getD i zeroSp).real], .bool true]
theorem info_step1 : (Tryz.prog.info? 84).map (·.size) = some 9 := by kernel_rfl
theorem info_res2 : (Tryz.prog.info? 47).map (·.size) = some 2 := by kernel_rfl
set_option maxHeartbeats 2000000 in
set_option maxRecDepth 100000 in
theorem saga_Outcome (base s : Nat) (v1 v2 : Value) (xs : List Int) (l : List Req) (bs : List (Nat × Nat)) (hl : l.length ≤ 1000) (hok : ∀ r ∈ l, ReqOk r) (c st k : Int) (key : ByteArray) (x : Nat) (id : Int) (hr : ReqOk ⟨c, st, ⟨k, key, x, id⟩⟩) (w : World) (h : SgW base w s v1 v2 xs l bs) :
    Calls Tryz.prog 12 #[.pointer (some ⟨s, 0, none⟩), .agg #[.int .i64 c, .int .i64 st, .int .i64 k, .string key, .float .f64 x, .int .i64 id]] w fun e w' => e = .returned (outV (stepsL (newL xs) l) (outI ⟨c, st, ⟨k, key, x, id⟩⟩ (stepsL (newL xs) l))) ∧ Ext Non w w' := by
  have HR := Go.Lib.hid hr
  have hsl := stepsL_len l (newL xs)
  have hspr : ∀ i (hi : i < l.length), (stepsL (newL xs) l)[i]'(by rw [hsl]; exact hi) = spOf (gAt xs l i) l[i] := fun i hi => step_at i hi
  have hst : ∀ i (hi : i < (stepsL (newL xs) l).length), ReqOk ((stepsL (newL xs) l)[i]).req := fun i hi => by
    rw [hspr i (by omega)]
    exact hok _ (List.getElem_mem _)
  have HST := Go.Lib.hid hst
  obtain ⟨a2, c2, hv2, h2, h3, hcell⟩ := ownA_rows (stepsL (newL xs) l) Sp.cells (fun _ => rfl) h.r2
  subst hv2
  have q1 : w.cell? ⟨s, 1, none⟩ = some (.slice a2 (stepsL (newL xs) l).length c2) := h.box.cell rfl
  have hsl2 : (stepsL (newL xs) l).length ≤ 1000 := by omega
  generalize stepsL (newL xs) l = sp at *
  have HC := Go.Lib.hid hcell
  have hsb := h.box.lt
  clear h hcell hst hspr hr
  go_enter Tryz.func12, Tryz.ntmps12
  go_wp2_with fail
  go_loopg [7, 8, 17] sp.length (fun n i7 i8 iv wr => ∃ (i : Nat) (z : EW Non w), i ≤ sp.length ∧ n = sp.length - i ∧ iv = .int .i64 i ∧ wr = z.on ∧ Hid (outI ⟨c, st, ⟨k, key, x, id⟩⟩ sp = (outI ⟨c, st, ⟨k, key, x, id⟩⟩ (sp.drop i)).map (· + i)) ∧ Hid (Bx wr w.heap.size [.int .i64 c, .int .i64 st, .int .i64 k, .string key, .float .f64 x, .int .i64 id] 53) ∧ Hid (Bx wr (w.heap.size + 1) [.int .i64 0, .float .f64 0] 47))
  case atStart => exact ⟨0, ⟨_, by (repeat (first | with_reducible (first | exact Ext.refl _ _ | assumption | refine Ext.upN ?_ | refine Ext.alloc ?_ _ | refine Ext.drew ?_ | refine Ext.drewN ?_ _ | refine Ext.up1N (by first | omega | simp) ?_) | refine Ext.alloc ?_ _ | refine Ext.setCell ?_ (.inr (by first | omega | simp)) _))⟩, Nat.zero_le _, rfl, rfl, rfl, Go.Lib.hid (by rw [List.drop_zero]; cases outI ⟨c, st, ⟨k, key, x, id⟩⟩ sp <;> rfl), Go.Lib.hid ((Bx.newAt _ _ _ _ rfl).alloc _), Go.Lib.hid (Bx.newAt _ _ _ _ (by simp))⟩
  case round =>
    obtain ⟨i, z, hi, hn, rfl, rfl, HD, BQ, BR⟩ := hrel
    have HN := Go.Lib.hid hn; clear hn
    by_cases hlt : i < sp.length
    · obtain ⟨g, rfl, hg, hcc⟩ := HC.out i hlt
      have HO := Go.Lib.hid (HST.out i hlt)
      have HS := Go.Lib.hid (outI_drop ⟨c, st, ⟨k, key, x, id⟩⟩ sp i hlt)
      have HG : Hid (sp.getD i zeroSp = sp[i]) := Go.Lib.hid (by rw [List.getD_eq_getElem?_getD, List.getElem?_eq_getElem hlt]; rfl)
      generalize sp[i] = o at *
      obtain ⟨⟨oc, os, ⟨ok, okey, ox, oid⟩⟩, ocd, orl, otk⟩ := o
      have c0 : w.cell? ⟨g, i * 9, none⟩ = some (.int .i64 oc) := by have := hcc 0 _ rfl; simpa using this
      have c1 : w.cell? ⟨g, i * 9 + 1, none⟩ = some (.int .i64 os) := by have := hcc 1 _ rfl; simpa using this
      have c2 : w.cell? ⟨g, i * 9 + 2, none⟩ = some (.int .i64 ok) := by have := hcc 2 _ rfl; simpa using this
      have c3 : w.cell? ⟨g, i * 9 + 3, none⟩ = some (.string okey) := by have := hcc 3 _ rfl; simpa using this
      have c4 : w.cell? ⟨g, i * 9 + 4, none⟩ = some (.float .f64 ox) := by have := hcc 4 _ rfl; simpa using this
      have c5 : w.cell? ⟨g, i * 9 + 5, none⟩ = some (.int .i64 oid) := by have := hcc 5 _ rfl; simpa using this
      have c6 : w.cell? ⟨g, i * 9 + 6, none⟩ = some (.int .i64 ocd) := by have := hcc 6 _ rfl; simpa using this
      have c7 : w.cell? ⟨g, i * 9 + 7, none⟩ = some (.float .f64 orl) := by have := hcc 7 _ rfl; simpa using this
      have c8 : w.cell? ⟨g, i * 9 + 8, none⟩ = some (.bool otk) := by have := hcc 8 _ rfl; simpa using this
      clear hcc
      go_upto_region 6 with (refine wpList_store_box rfl 84 _ _ rfl z.on.heap.size _ [.int .i64 oc, .int .i64 os, .int .i64 ok, .string okey, .float .f64 ox, .int .i64 oid, .int .i64 ocd, .float .f64 orl, .bool otk] _ rfl rfl (Bx.newAt _ _ _ _ rfl) rfl info_step1 (by simp [Value.oneCell']) (fun W hB => ?_); have BX := Go.Lib.hid hB; clear hB)
      have XW : Ext Non z.on W.on := by (repeat (first | with_reducible (first | exact Ext.refl _ _ | assumption | refine Ext.upN ?_ | refine Ext.alloc ?_ _ | refine Ext.drew ?_ | refine Ext.drewN ?_ _ | refine Ext.up1N (by first | omega | simp) ?_) | refine Ext.alloc ?_ _ | refine Ext.setCell ?_ (.inr (by first | omega | simp)) _))
      have BQ1 := Go.Lib.hid (BQ.out.extN XW)
      have BR1 := Go.Lib.hid (BR.out.extN XW)
      have hkz : w.heap.size + 1 < z.on.heap.size := BR.out.lt
      obtain ⟨x5, hx5⟩ := (z.ext.trans XW).ew
      rw [hx5] at BX BQ1 BR1 ⊢
      clear hx5 XW W BQ BR c0 c1 c2 c3 c4 c5 c6 c7 c8
      generalize z.on.heap.size = kx at *
      try simp only [Act.put]
      have y0 : x5.on.cell? ⟨kx, 0, none⟩ = some (.int .i64 oc) := BX.out.cell rfl
      have y1 : x5.on.cell? ⟨kx, 1, none⟩ = some (.int .i64 os) := BX.out.cell rfl
      have y2 : x5.on.cell? ⟨kx, 2, none⟩ = some (.int .i64 ok) := BX.out.cell rfl
      have y3 : x5.on.cell? ⟨kx, 3, none⟩ = some (.string okey) := BX.out.cell rfl
      have y4 : x5.on.cell? ⟨kx, 4, none⟩ = some (.float .f64 ox) := BX.out.cell rfl
      have y5 : x5.on.cell? ⟨kx, 5, none⟩ = some (.int .i64 oid) := BX.out.cell rfl
      have y6 : x5.on.cell? ⟨kx, 6, none⟩ = some (.int .i64 ocd) := BX.out.cell rfl
      have y7 : x5.on.cell? ⟨kx, 7, none⟩ = some (.float .f64 orl) := BX.out.cell rfl
      have y8 : x5.on.cell? ⟨kx, 8, none⟩ = some (.bool otk) := BX.out.cell rfl
      have z0 : x5.on.cell? ⟨w.heap.size, 0, none⟩ = some (.int .i64 c) := BQ1.out.cell rfl
      have z1 : x5.on.cell? ⟨w.heap.size, 1, none⟩ = some (.int .i64 st) := BQ1.out.cell rfl
      have z2 : x5.on.cell? ⟨w.heap.size, 2, none⟩ = some (.int .i64 k) := BQ1.out.cell rfl
      have z3 : x5.on.cell? ⟨w.heap.size, 3, none⟩ = some (.string key) := BQ1.out.cell rfl
      have z4 : x5.on.cell? ⟨w.heap.size, 4, none⟩ = some (.float .f64 x) := BQ1.out.cell rfl
      have z5 : x5.on.cell? ⟨w.heap.size, 5, none⟩ = some (.int .i64 id) := BQ1.out.cell rfl
      cases otk
      · have HF : Hid (outI ⟨c, st, ⟨k, key, x, id⟩⟩ sp = (outI ⟨c, st, ⟨k, key, x, id⟩⟩ (sp.drop (i + 1))).map (· + (i + 1))) := Go.Lib.hid (by
          rw [HD.out, HS.out, if_neg (by unfold hitB; simp)]
          cases outI ⟨c, st, ⟨k, key, x, id⟩⟩ (sp.drop (i + 1)) <;> simp; omega)
        go_wp2_with fail
        go_roundg (sp.length - (i + 1))
        case measure => have := HN.out; omega
        case rel => exact ⟨i + 1, ⟨_, by (repeat (first | with_reducible (first | exact Ext.refl _ _ | assumption | refine Ext.upN ?_ | refine Ext.alloc ?_ _ | refine Ext.drew ?_ | refine Ext.drewN ?_ _ | refine Ext.up1N (by first | omega | simp) ?_) | refine Ext.alloc ?_ _ | refine Ext.setCell ?_ (.inr (by first | omega | simp)) _))⟩, hlt, rfl, by go_num, rfl, HF, BQ1, BR1⟩
      · go_wp2_with fail
        refine Calls.ew (deeds_Same oc os ok okey ox oid c st k key x id HO.out HR.out _) ?_
        rintro e x6 rfl
        cases hsm : sameT ⟨oc, os, ⟨ok, okey, ox, oid⟩⟩ ⟨c, st, ⟨k, key, x, id⟩⟩
        · have HF : Hid (outI ⟨c, st, ⟨k, key, x, id⟩⟩ sp = (outI ⟨c, st, ⟨k, key, x, id⟩⟩ (sp.drop (i + 1))).map (· + (i + 1))) := Go.Lib.hid (by
            rw [HD.out, HS.out, if_neg (by unfold hitB; rw [hsm]; simp)]
            cases outI ⟨c, st, ⟨k, key, x, id⟩⟩ (sp.drop (i + 1)) <;> simp; omega)
          have BQ2 := Go.Lib.hid (BQ1.out.extN x6.ext); have BR2 := Go.Lib.hid (BR1.out.extN x6.ext)
          clear hsm
          go_wp2_with fail
          go_roundg (sp.length - (i + 1))
          case measure => have := HN.out; omega
          case rel => exact ⟨i + 1, ⟨_, by (repeat (first | with_reducible (first | exact Ext.refl _ _ | assumption | refine Ext.upN ?_ | refine Ext.alloc ?_ _ | refine Ext.drew ?_ | refine Ext.drewN ?_ _ | refine Ext.up1N (by first | omega | simp) ?_) | refine Ext.alloc ?_ _ | refine Ext.setCell ?_ (.inr (by first | omega | simp)) _))⟩, hlt, rfl, by go_num, rfl, HF, BQ2, BR2⟩
        · have HF : Hid (outI ⟨c, st, ⟨k, key, x, id⟩⟩ sp = some i) := Go.Lib.hid (by
            rw [HD.out, HS.out, if_pos (by unfold hitB; rw [hsm]; rfl)]; simp)
          have b0 : x5.on.cell? ⟨w.heap.size + 1, 0, none⟩ = some (.int .i64 0) := BR1.out.cell rfl
          have b1 : x5.on.cell? ⟨w.heap.size + 1, 1, none⟩ = some (.float .f64 0) := BR1.out.cell rfl
          have f0 : x5.on.frozen? ⟨w.heap.size + 1, 0, none⟩ = false := froz_of_heap BR1.out.h
          have f1 : x5.on.frozen? ⟨w.heap.size + 1, 1, none⟩ = false := froz_of_heap BR1.out.h
          have hi63 : IntKind.i64.wrap ((i : Int) + 1) = (i : Int) + 1 := IntWalk.i64_in _ (by omega)
          have f6 := BX.out
          clear hsm
          have BX6 := Go.Lib.hid (BX.out.extN x6.ext); have BR6 := Go.Lib.hid (BR1.out.extN x6.ext)
          go_upto_region 7 with fail
          have XZ : Ext Non w x6.on := by (repeat (first | with_reducible (first | exact Ext.refl _ _ | assumption | refine Ext.upN ?_ | refine Ext.alloc ?_ _ | refine Ext.drew ?_ | refine Ext.drewN ?_ _ | refine Ext.up1N (by first | omega | simp) ?_) | refine Ext.alloc ?_ _ | refine Ext.setCell ?_ (.inr (by first | omega | simp)) _))
          clear y0 y1 y2 y3 y4 y5 y6 y7 y8 z0 z1 z2 z3 z4 z5 b0 b1 f0 f1 f6 BX BR1 BQ1
          generalize x6.on = w5 at *
          have y6 : w5.cell? ⟨kx, 6, none⟩ = some (.int .i64 ocd) := BX6.out.cell rfl
          have y7 : w5.cell? ⟨kx, 7, none⟩ = some (.float .f64 orl) := BX6.out.cell rfl
          have b0 : w5.cell? ⟨w.heap.size + 1, 0, none⟩ = some (.int .i64 0) := BR6.out.cell rfl
          have b1 : w5.cell? ⟨w.heap.size + 1, 1, none⟩ = some (.float .f64 0) := BR6.out.cell rfl
          have f0 : w5.frozen? ⟨w.heap.size + 1, 0, none⟩ = false := froz_of_heap BR6.out.h
          have f1 : w5.frozen? ⟨w.heap.size + 1, 1, none⟩ = false := froz_of_heap BR6.out.h
          go_region
          all_goals
            go_wp2
            have B2 := ((BR6.out.set (j := 0) (.int .i64 ocd)).set (j := 1) (.float .f64 orl)).drew
            have r0 : (((w5.setCell ⟨w.heap.size + 1, 0, none⟩ (.int .i64 ocd)).setCell ⟨w.heap.size + 1, 1, none⟩ (.float .f64 orl)).drew).cell? ⟨w.heap.size + 1, 0, none⟩ = some (.int .i64 ocd) := B2.cell rfl
            have r1 : (((w5.setCell ⟨w.heap.size + 1, 0, none⟩ (.int .i64 ocd)).setCell ⟨w.heap.size + 1, 1, none⟩ (.float .f64 orl)).drew).cell? ⟨w.heap.size + 1, 1, none⟩ = some (.float .f64 orl) := B2.cell rfl
            have XF : Ext Non w ((w5.setCell ⟨w.heap.size + 1, 0, none⟩ (.int .i64 ocd)).setCell ⟨w.heap.size + 1, 1, none⟩ (.float .f64 orl)).drew := by (repeat (first | with_reducible (first | exact Ext.refl _ _ | assumption | refine Ext.upN ?_ | refine Ext.alloc ?_ _ | refine Ext.drew ?_ | refine Ext.drewN ?_ _ | refine Ext.up1N (by first | omega | simp) ?_) | refine Ext.alloc ?_ _ | refine Ext.setCell ?_ (.inr (by first | omega | simp)) _))
            generalize ((w5.setCell ⟨w.heap.size + 1, 0, none⟩ (.int .i64 ocd)).setCell ⟨w.heap.size + 1, 1, none⟩ (.float .f64 orl)).drew = w6 at *
            refine bodyPost_ret (v := .tuple #[.int .i64 ((i : Int) + 1), .agg #[.int .i64 ocd, .float .f64 orl], .bool true]) (by simp [results, Tryz.results12, go_sem, r0, r1]) rfl ?_
            exact ⟨by rw [HF.out]; show _ = Ending.returned (Value.tuple #[.int .i64 ((i : Int) + 1), .agg #[.int .i64 (sp.getD i zeroSp).code, .float .f64 (sp.getD i zeroSp).real], .bool true]); rw [HG.out], XF⟩
    · have HF : Hid (outI ⟨c, st, ⟨k, key, x, id⟩⟩ sp = none) := Go.Lib.hid (by rw [HD.out, List.drop_eq_nil_of_le (by omega)]; rfl)
      have XZ : Ext Non w z.on := z.ext
      generalize z.on = w5 at *
      have b0 : w5.cell? ⟨w.heap.size + 1, 0, none⟩ = some (.int .i64 0) := BR.out.cell rfl
      have b1 : w5.cell? ⟨w.heap.size + 1, 1, none⟩ = some (.float .f64 0) := BR.out.cell rfl
      have f0 : w5.frozen? ⟨w.heap.size + 1, 0, none⟩ = false := froz_of_heap BR.out.h
      have f1 : w5.frozen? ⟨w.heap.size + 1, 1, none⟩ = false := froz_of_heap BR.out.h
      go_wp2
      have B2 := (BR.out.set (j := 0) (.int .i64 0)).set (j := 1) (.float .f64 0)
      have r0 : ((w5.setCell ⟨w.heap.size + 1, 0, none⟩ (.int .i64 0)).setCell ⟨w.heap.size + 1, 1, none⟩ (.float .f64 0)).cell? ⟨w.heap.size + 1, 0, none⟩ = some (.int .i64 0) := B2.cell rfl
      have r1 : ((w5.setCell ⟨w.heap.size + 1, 0, none⟩ (.int .i64 0)).setCell ⟨w.heap.size + 1, 1, none⟩ (.float .f64 0)).cell? ⟨w.heap.size + 1, 1, none⟩ = some (.float .f64 0) := B2.cell rfl
      have XF : Ext Non w ((w5.setCell ⟨w.heap.size + 1, 0, none⟩ (.int .i64 0)).setCell ⟨w.heap.size + 1, 1, none⟩ (.float .f64 0)) := by (repeat (first | with_reducible (first | exact Ext.refl _ _ | assumption | refine Ext.upN ?_ | refine Ext.alloc ?_ _ | refine Ext.drew ?_ | refine Ext.drewN ?_ _ | refine Ext.up1N (by first | omega | simp) ?_) | refine Ext.alloc ?_ _ | refine Ext.setCell ?_ (.inr (by first | omega | simp)) _))
      generalize (w5.setCell ⟨w.heap.size + 1, 0, none⟩ (.int .i64 0)).setCell ⟨w.heap.size + 1, 1, none⟩ (.float .f64 0) = w6 at *
      refine bodyPost_ret (v := .tuple #[.int .i64 0, .agg #[.int .i64 0, .float .f64 0], .bool false]) (by simp [results, Tryz.results12, go_sem, r0, r1]) rfl ?_
      exact ⟨by rw [HF.out]; rfl, XF⟩
end Go.Proofs.YtekbonciafbjiaaGreat
