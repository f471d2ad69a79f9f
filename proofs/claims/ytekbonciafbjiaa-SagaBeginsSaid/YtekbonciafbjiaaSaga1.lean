/- Contracts of layer 22: asked, a log of asks. -/
import Derived.Test.YtekbonciafbjiaaSagaM
import Derived.Test.YtekbonciafbjiaaSame22
import Derived.Test.YtekbonciafbjiaaAsk22
namespace Go.Proofs.Ytekbonciafbjiaa
open Go.RowKit Go.Lib F64
set_option linter.unusedSimpArgs false
set_option linter.unusedVariables false
attribute [local go_sem] run_store_float
attribute [local go_sem low] EW.cellN EW.frozN alloc_cell_or alloc_froz_or EW.cellF EW.frozF EW.cell1 EW.froz1
attribute [local go_sem] relAt relUpon
theorem saga_asked (c s k : Int) (key : ByteArray) (x : Nat) (id : Int) (h : ReqOk ⟨c, s, ⟨k, key, x, id⟩⟩) (w : World) :
    Calls Try.prog 31 #[.agg #[.int .i64 c, .int .i64 s, .int .i64 k, .string key, .float .f64 x, .int .i64 id]] w fun e w' => e = .returned (.bool (askedB ⟨c, s, ⟨k, key, x, id⟩⟩)) ∧ Ext Non w w' := by
  have HR := Go.Lib.hid h
  have DA : Hid (askedB ⟨c, s, ⟨k, key, x, id⟩⟩ = (rightB ⟨c, s, ⟨k, key, x, id⟩⟩ || nullB ⟨c, s, ⟨k, key, x, id⟩⟩)) := Go.Lib.hid rfl
  clear h
  go_enter Try.func31, Try.ntmps31
  go_wp2_with fail
  refine Calls.ew (deeds_Right c s k key x id _) ?_
  rintro e x1 rfl
  cases hr : rightB ⟨c, s, ⟨k, key, x, id⟩⟩
  · have HH := Go.Lib.hid hr; clear hr
    go_wp2_with fail
    refine Calls.ew (deeds_Null c s k key x id HR.out.c HR.out.s HR.out.k HR.out.id _) ?_
    rintro e x2 rfl
    go_wp2
    go_ret
    exact ⟨by rw [DA.out, HH.out]; rfl, by (repeat (first | with_reducible exact Ext.refl _ _ | assumption | with_reducible refine Ext.upN ?_ | with_reducible refine Ext.alloc ?_ _ | with_reducible refine Ext.upA (by assumption) ?_ | with_reducible refine Ext.upW ?_ | with_reducible refine Ext.drew ?_ | with_reducible refine Ext.drewN ?_ _ | with_reducible refine Ext.upF ?_ | with_reducible refine Ext.upFF (by first | omega | simp) ?_ | with_reducible refine Ext.setCellsF _ _ _ (by first | omega | simp) ?_ | with_reducible refine Ext.setCellF _ _ _ (by first | omega | simp) ?_ | with_reducible refine Ext.upFN (by first | omega | simp) ?_ | with_reducible refine Ext.up1F (by first | omega | simp) ?_ | with_reducible refine Ext.up1N (by first | omega | simp) ?_ | with_reducible refine Ext.setCell ?_ (.inr (by first | omega | simp)) _ | refine Ext.alloc ?_ _ | refine Ext.setCellF _ _ _ (by first | omega | simp) ?_ | refine Ext.setCell ?_ (.inr (by first | omega | simp)) _))⟩
  · have HH := Go.Lib.hid hr; clear hr
    go_wp2
    go_ret
    exact ⟨by rw [DA.out, HH.out]; rfl, by (repeat (first | with_reducible exact Ext.refl _ _ | assumption | with_reducible refine Ext.upN ?_ | with_reducible refine Ext.alloc ?_ _ | with_reducible refine Ext.upA (by assumption) ?_ | with_reducible refine Ext.upW ?_ | with_reducible refine Ext.drew ?_ | with_reducible refine Ext.drewN ?_ _ | with_reducible refine Ext.upF ?_ | with_reducible refine Ext.upFF (by first | omega | simp) ?_ | with_reducible refine Ext.setCellsF _ _ _ (by first | omega | simp) ?_ | with_reducible refine Ext.setCellF _ _ _ (by first | omega | simp) ?_ | with_reducible refine Ext.upFN (by first | omega | simp) ?_ | with_reducible refine Ext.up1F (by first | omega | simp) ?_ | with_reducible refine Ext.up1N (by first | omega | simp) ?_ | with_reducible refine Ext.setCell ?_ (.inr (by first | omega | simp)) _ | refine Ext.alloc ?_ _ | refine Ext.setCellF _ _ _ (by first | omega | simp) ?_ | refine Ext.setCell ?_ (.inr (by first | omega | simp)) _))⟩
theorem saga_New1 (c s k : Int) (key : ByteArray) (x : Nat) (id : Int) (h : ReqOk ⟨c, s, ⟨k, key, x, id⟩⟩) (w : World) :
    Calls Try.prog 30 #[.agg #[.int .i64 c, .int .i64 s, .int .i64 k, .string key, .float .f64 x, .int .i64 id]] w fun e w' => e = .returned (.bool (!askedB ⟨c, s, ⟨k, key, x, id⟩⟩)) ∧ Ext Non w w' := by
  have HR := Go.Lib.hid h
  clear h
  go_enter Try.func30, Try.ntmps30
  go_wp2_with fail
  refine Calls.ew (saga_asked c s k key x id HR.out _) ?_
  rintro e x1 rfl
  go_wp2
  go_ret
  exact ⟨rfl, by (repeat (first | with_reducible exact Ext.refl _ _ | assumption | with_reducible refine Ext.upN ?_ | with_reducible refine Ext.alloc ?_ _ | with_reducible refine Ext.upA (by assumption) ?_ | with_reducible refine Ext.upW ?_ | with_reducible refine Ext.drew ?_ | with_reducible refine Ext.drewN ?_ _ | with_reducible refine Ext.upF ?_ | with_reducible refine Ext.upFF (by first | omega | simp) ?_ | with_reducible refine Ext.setCellsF _ _ _ (by first | omega | simp) ?_ | with_reducible refine Ext.setCellF _ _ _ (by first | omega | simp) ?_ | with_reducible refine Ext.upFN (by first | omega | simp) ?_ | with_reducible refine Ext.up1F (by first | omega | simp) ?_ | with_reducible refine Ext.up1N (by first | omega | simp) ?_ | with_reducible refine Ext.setCell ?_ (.inr (by first | omega | simp)) _ | refine Ext.alloc ?_ _ | refine Ext.setCellF _ _ _ (by first | omega | simp) ?_ | refine Ext.setCell ?_ (.inr (by first | omega | simp)) _))⟩
theorem info_req9 : (Try.prog.info? 37).map (fun i => (i.zero, i.size, i.bytes)) = some (some (.agg #[.int .i64 0, .int .i64 0, .int .i64 0, .string ByteArray.empty, .float .f64 0, .int .i64 0]), 6, 56) := by kernel_rfl
set_option maxHeartbeats 1000000 in
set_option maxRecDepth 100000 in
theorem law22_log (a : Option Addr) (cap : Nat) (l : List Ak) (hlim : l.length * 56 ≤ 140737488351232) (w : World) (h : Aks w a cap l) : Calls Try.prog 11 #[.slice a l.length cap] w fun e w' =>
    ∃ ra rc, e = .returned (.slice ra l.length rc) ∧ Reqs w' ra rc (l.map Ak.req) ∧ Ext Non w w' := by
  have HA := Go.Lib.hid h
  have s1 := h.small; have s2 := h.le
  clear h
  have ROW0 : Hid (w.ownsRow w.heap.size 37 6 (.slice none 0 0) 0 []) := Go.Lib.hid (World.ownsRow_nil _ _ _ _)
  go_enter Try.func11, Try.ntmps11
  go_wp2_with fail
  go_loopg [3, 4] l.length (fun n ov iv wr => ∃ (v : Value) (i : Nat) (z : EW Non w), v = ov ∧ i ≤ l.length ∧ n = l.length - i ∧ iv = .int .i64 i ∧ wr = z.on ∧ Hid (wr.ownsRow w.heap.size 37 6 v i (((l.take i).map Ak.req).flatMap Req.cells)))
  case atStart => exact ⟨_, 0, ⟨_, by (repeat (first | with_reducible exact Ext.refl _ _ | assumption | with_reducible refine Ext.upN ?_ | with_reducible refine Ext.alloc ?_ _ | with_reducible refine Ext.upA (by assumption) ?_ | with_reducible refine Ext.upW ?_ | with_reducible refine Ext.drew ?_ | with_reducible refine Ext.drewN ?_ _ | with_reducible refine Ext.upF ?_ | with_reducible refine Ext.upFF (by first | omega | simp) ?_ | with_reducible refine Ext.setCellsF _ _ _ (by first | omega | simp) ?_ | with_reducible refine Ext.setCellF _ _ _ (by first | omega | simp) ?_ | with_reducible refine Ext.upFN (by first | omega | simp) ?_ | with_reducible refine Ext.up1F (by first | omega | simp) ?_ | with_reducible refine Ext.up1N (by first | omega | simp) ?_ | with_reducible refine Ext.setCell ?_ (.inr (by first | omega | simp)) _ | refine Ext.alloc ?_ _ | refine Ext.setCellF _ _ _ (by first | omega | simp) ?_ | refine Ext.setCell ?_ (.inr (by first | omega | simp)) _))⟩, rfl, Nat.zero_le _, rfl, rfl, rfl, ROW0⟩
  case round =>
    clear ROW0
    obtain ⟨v, i, z, rfl, hi, hn, rfl, rfl, HO⟩ := hrel
    have HN := Go.Lib.hid hn; clear hn
    by_cases hlt : i < l.length
    · obtain ⟨ab, ao, rfl, hab, hc, hro⟩ := HA.out.at_ i hlt
      have HT : Hid (((l.take (i + 1)).map Ak.req).flatMap Req.cells = ((l.take i).map Ak.req).flatMap Req.cells ++ (l[i]).req.cells) := Go.Lib.hid (by rw [List.take_succ_eq_append_getElem hlt, List.map_append, List.flatMap_append]; simp only [List.map_cons, List.map_nil, List.flatMap_cons, List.flatMap_nil, List.append_nil])
      generalize l[i] = o at *
      obtain ⟨c, s, k, key, b, id⟩ := o
      have q0 : w.cell? ⟨ab, ao + i * 6, none⟩ = some (.int .i64 c) := hc 0 _ rfl
      have q1 : w.cell? ⟨ab, ao + i * 6 + 1, none⟩ = some (.int .i64 s) := hc 1 _ rfl
      have q2 : w.cell? ⟨ab, ao + i * 6 + 2, none⟩ = some (.int .i64 k) := hc 2 _ rfl
      have q3 : w.cell? ⟨ab, ao + i * 6 + 3, none⟩ = some (.string key) := hc 3 _ rfl
      have q4 : w.cell? ⟨ab, ao + i * 6 + 4, none⟩ = some (.int .u64 b) := hc 4 _ rfl
      have q5 : w.cell? ⟨ab, ao + i * 6 + 5, none⟩ = some (.int .i64 id) := hc 5 _ rfl
      clear hc hro
      go_wp2_with fail
      refine Calls.ew (law11_Request c s k key b id _) ?_
      rintro e x1 rfl
      have HO1 := Go.Lib.hid (ownR_extN HO.out ((Ext.refl Non z.on).trans (by (repeat (first | with_reducible exact Ext.refl _ _ | assumption | with_reducible refine Ext.upN ?_ | with_reducible refine Ext.alloc ?_ _ | with_reducible refine Ext.upA (by assumption) ?_ | with_reducible refine Ext.upW ?_ | with_reducible refine Ext.drew ?_ | with_reducible refine Ext.drewN ?_ _ | with_reducible refine Ext.upF ?_ | with_reducible refine Ext.upFF (by first | omega | simp) ?_ | with_reducible refine Ext.setCellsF _ _ _ (by first | omega | simp) ?_ | with_reducible refine Ext.setCellF _ _ _ (by first | omega | simp) ?_ | with_reducible refine Ext.upFN (by first | omega | simp) ?_ | with_reducible refine Ext.up1F (by first | omega | simp) ?_ | with_reducible refine Ext.up1N (by first | omega | simp) ?_ | with_reducible refine Ext.setCell ?_ (.inr (by first | omega | simp)) _ | refine Ext.alloc ?_ _ | refine Ext.setCellF _ _ _ (by first | omega | simp) ?_ | refine Ext.setCell ?_ (.inr (by first | omega | simp)) _)) : Ext Non z.on x1.on)))
      have hsz : w.heap.size ≤ x1.on.heap.size := by have h1 := x1.ext.size; have h2 := z.ext.size; omega
      go_wp2_with (at_builtin; refine wpList_append_rowB rfl _ _ 31 rfl w.heap.size 37 6 56 _ Try.underlying31 info_req9 (by rfl) (by omega) v i _ rfl (ownR_extN HO1.out (by (repeat (first | with_reducible exact Ext.refl _ _ | assumption | with_reducible refine Ext.upN ?_ | with_reducible refine Ext.alloc ?_ _ | with_reducible refine Ext.upA (by assumption) ?_ | with_reducible refine Ext.upW ?_ | with_reducible refine Ext.drew ?_ | with_reducible refine Ext.drewN ?_ _ | with_reducible refine Ext.upF ?_ | with_reducible refine Ext.upFF (by first | omega | simp) ?_ | with_reducible refine Ext.setCellsF _ _ _ (by first | omega | simp) ?_ | with_reducible refine Ext.setCellF _ _ _ (by first | omega | simp) ?_ | with_reducible refine Ext.upFN (by first | omega | simp) ?_ | with_reducible refine Ext.up1F (by first | omega | simp) ?_ | with_reducible refine Ext.up1N (by first | omega | simp) ?_ | with_reducible refine Ext.setCell ?_ (.inr (by first | omega | simp)) _ | refine Ext.alloc ?_ _ | refine Ext.setCellF _ _ _ (by first | omega | simp) ?_ | refine Ext.setCell ?_ (.inr (by first | omega | simp)) _)))) x1.on.heap.size [.int .i64 c, .int .i64 s, .int .i64 k, .string key, .float .f64 b.toNat, .int .i64 id] 37 rfl (Bx.newAt _ _ _ _ rfl) rfl (by simp [Value.oneCell']) (by omega) (by omega) (by simp; omega) (fun v' W2 hO hrow => ?_); have HO2 := Go.Lib.hid hO; clear hO hrow)
      have XA : Ext Non w (x1.on.alloc (.cells [.int .i64 c, .int .i64 s, .int .i64 k, .string key, .float .f64 b.toNat, .int .i64 id].toArray 37)) := by (repeat (first | with_reducible exact Ext.refl _ _ | assumption | with_reducible refine Ext.upN ?_ | with_reducible refine Ext.alloc ?_ _ | with_reducible refine Ext.upA (by assumption) ?_ | with_reducible refine Ext.upW ?_ | with_reducible refine Ext.drew ?_ | with_reducible refine Ext.drewN ?_ _ | with_reducible refine Ext.upF ?_ | with_reducible refine Ext.upFF (by first | omega | simp) ?_ | with_reducible refine Ext.setCellsF _ _ _ (by first | omega | simp) ?_ | with_reducible refine Ext.setCellF _ _ _ (by first | omega | simp) ?_ | with_reducible refine Ext.upFN (by first | omega | simp) ?_ | with_reducible refine Ext.up1F (by first | omega | simp) ?_ | with_reducible refine Ext.up1N (by first | omega | simp) ?_ | with_reducible refine Ext.setCell ?_ (.inr (by first | omega | simp)) _ | refine Ext.alloc ?_ _ | refine Ext.setCellF _ _ _ (by first | omega | simp) ?_ | refine Ext.setCell ?_ (.inr (by first | omega | simp)) _))
      have XF := XA.step W2.ext (fun j hj h => by have := (own_row HO1.out j h).1; omega)
      go_roundg (l.length - (i + 1))
      case measure => have := HN.out; omega
      case rel => exact ⟨_, i + 1, ⟨_, XF⟩, rfl, hlt, rfl, by go_num, rfl, Go.Lib.hid (by rw [HT.out]; exact HO2.out)⟩
    · obtain rfl : i = l.length := by omega
      have hO := HO.out
      rw [List.take_length] at hO
      have hO' : z.on.ownsRow w.heap.size 37 6 v (l.map Ak.req).length ((l.map Ak.req).flatMap Req.cells) := by rw [List.length_map]; exact hO
      obtain ⟨ra, rc, e, hR⟩ := reqs_of_own (l.map Ak.req) hO'
      rw [List.length_map] at e
      subst e
      have HRe := Go.Lib.hid hR
      clear hO hO' hR
      go_wp2
      go_ret
      exact ⟨ra, rc, rfl, HRe.out.extN (by (repeat (first | with_reducible exact Ext.refl _ _ | assumption | with_reducible refine Ext.upN ?_ | with_reducible refine Ext.alloc ?_ _ | with_reducible refine Ext.upA (by assumption) ?_ | with_reducible refine Ext.upW ?_ | with_reducible refine Ext.drew ?_ | with_reducible refine Ext.drewN ?_ _ | with_reducible refine Ext.upF ?_ | with_reducible refine Ext.upFF (by first | omega | simp) ?_ | with_reducible refine Ext.setCellsF _ _ _ (by first | omega | simp) ?_ | with_reducible refine Ext.setCellF _ _ _ (by first | omega | simp) ?_ | with_reducible refine Ext.upFN (by first | omega | simp) ?_ | with_reducible refine Ext.up1F (by first | omega | simp) ?_ | with_reducible refine Ext.up1N (by first | omega | simp) ?_ | with_reducible refine Ext.setCell ?_ (.inr (by first | omega | simp)) _ | refine Ext.alloc ?_ _ | refine Ext.setCellF _ _ _ (by first | omega | simp) ?_ | refine Ext.setCell ?_ (.inr (by first | omega | simp)) _))), by (repeat (first | with_reducible exact Ext.refl _ _ | assumption | with_reducible refine Ext.upN ?_ | with_reducible refine Ext.alloc ?_ _ | with_reducible refine Ext.upA (by assumption) ?_ | with_reducible refine Ext.upW ?_ | with_reducible refine Ext.drew ?_ | with_reducible refine Ext.drewN ?_ _ | with_reducible refine Ext.upF ?_ | with_reducible refine Ext.upFF (by first | omega | simp) ?_ | with_reducible refine Ext.setCellsF _ _ _ (by first | omega | simp) ?_ | with_reducible refine Ext.setCellF _ _ _ (by first | omega | simp) ?_ | with_reducible refine Ext.upFN (by first | omega | simp) ?_ | with_reducible refine Ext.up1F (by first | omega | simp) ?_ | with_reducible refine Ext.up1N (by first | omega | simp) ?_ | with_reducible refine Ext.setCell ?_ (.inr (by first | omega | simp)) _ | refine Ext.alloc ?_ _ | refine Ext.setCellF _ _ _ (by first | omega | simp) ?_ | refine Ext.setCell ?_ (.inr (by first | omega | simp)) _))⟩
end Go.Proofs.Ytekbonciafbjiaa
