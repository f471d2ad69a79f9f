/- Joined texts: Slots3. What each proves stands at its head; no conditions beside those in its theorems. -/
import Derived.Test.YtakbkpklfihfiaaPjAV
import Derived.Test.YtakbkpklfihfiaaPjAY
/- Contracts of layer 14: Log.at, Log.may, told. -/
namespace Go.Proofs.Ytakbkpklfihfiaa
open Go.RowKit Go.Lib F64
set_option linter.unusedSimpArgs false
set_option linter.unusedVariables false
attribute [local go_sem] run_store_float
attribute [local go_sem low] EW.cellN EW.frozN alloc_cell_or alloc_froz_or EW.cellF EW.frozF EW.cell1 EW.froz1
attribute [local go_sem] relAt relUpon
def atV (b : Nat) (o : Option Nat) : Value := .pointer (o.map fun i => ⟨b, 3 + i * 5, none⟩)
set_option maxRecDepth 100000 in
theorem slots_at (b : Nat) (ep n : Int) (he : 0 ≤ ep ∧ ep ≤ 60) (hn : I64 n) (w : World) (h0 : w.cell? ⟨b, 0, none⟩ = some (.int .i64 ep)) :
    Calls Try.prog 85 #[.pointer (some ⟨b, 0, none⟩), .int .i64 n] w fun e w' => e = .returned (atV b (idxN ep n)) ∧ w = w' := by
  obtain ⟨he0, he1⟩ := he
  obtain ⟨hn0, hn1⟩ := hn
  have DI : Hid (idxN ep n = if 4 * ep + 1 ≤ n ∧ n < 4 * ep + 5 then some (n - (4 * ep + 1)).toNat else none) := Go.Lib.hid rfl
  have hw1 : IntKind.i64.wrap (ep * 4) = ep * 4 := IntWalk.i64_in _ (by omega)
  have hw2 : IntKind.i64.wrap (ep * 4 + 1) = ep * 4 + 1 := IntWalk.i64_in _ (by omega)
  have hw3 : IntKind.i64.wrap (ep * 4 + 1 + 4) = ep * 4 + 1 + 4 := IntWalk.i64_in _ (by omega)
  by_cases hlo : n < ep * 4 + 1
  · have HZ : Hid (idxN ep n = none) := Go.Lib.hid (by rw [DI.out, if_neg (by omega)])
    go_enter Try.func85, Try.ntmps85
    go_wp2
    go_ret
    exact ⟨by rw [HZ.out]; rfl, rfl⟩
  · by_cases hhi : ep * 4 + 1 + 4 ≤ n
    · have HZ : Hid (idxN ep n = none) := Go.Lib.hid (by rw [DI.out, if_neg (by omega)])
      go_enter Try.func85, Try.ntmps85
      go_wp2
      go_ret
      exact ⟨by rw [HZ.out]; rfl, rfl⟩
    · obtain ⟨i, hi⟩ : ∃ i : Nat, n = ep * 4 + 1 + (i : Int) := ⟨(n - (ep * 4 + 1)).toNat, by omega⟩
      subst hi
      have HZ : Hid (idxN ep (ep * 4 + 1 + (i : Int)) = some i) := Go.Lib.hid (by rw [DI.out, if_pos (by omega)]; congr 1; omega)
      have hw4 : IntKind.i64.wrap (ep * 4 + 1 + (i : Int) - (ep * 4 + 1)) = (i : Int) := by rw [show ep * 4 + 1 + (i : Int) - (ep * 4 + 1) = (i : Int) by omega]; exact IntWalk.i64_in _ (by omega)
      have hi4 : (i : Int) < 4 := by omega
      have hi4' : i < 4 := by omega
      go_enter Try.func85, Try.ntmps85
      go_wp2
      go_ret
      exact ⟨by rw [HZ.out]; rfl, rfl⟩
set_option maxRecDepth 100000 in
theorem slots_may_bad (b : Nat) (n : Int) (c s k : Int) (key : ByteArray) (x : Nat) (id : Int) (hr : ReqOk ⟨c, s, ⟨k, key, x, id⟩⟩) (ha : askedB ⟨c, s, ⟨k, key, x, id⟩⟩ = false) (w : World) :
    Calls Try.prog 97 #[.pointer (some ⟨b, 0, none⟩), .int .i64 n, .agg #[.int .i64 c, .int .i64 s, .int .i64 k, .string key, .float .f64 x, .int .i64 id]] w fun e w' =>
    e = .returned (.tuple #[.pointer none, .int .i64 1]) ∧ Ext Non w w' := by
  have HR := Go.Lib.hid hr
  unfold askedB at ha
  rw [Bool.or_eq_false_iff] at ha
  obtain ⟨a1, a2⟩ := ha
  clear hr
  go_enter Try.func97, Try.ntmps97
  go_wp2_with fail
  refine Calls.ew (deeds_Right c s k key x id _) ?_
  rintro e x1 rfl
  rw [a1]
  clear a1
  go_wp2_with fail
  refine Calls.ew (deeds_Null c s k key x id HR.out.c HR.out.s HR.out.k HR.out.id _) ?_
  rintro e x2 rfl
  rw [a2]
  clear a2
  go_wp2
  go_returns
  exact ⟨rfl, by (repeat (first | with_reducible (first | exact Ext.refl _ _ | assumption | refine Ext.upN ?_ | refine Ext.alloc ?_ _ | refine Ext.drew ?_ | refine Ext.drewN ?_ _ | refine Ext.up1N (by first | omega | simp) ?_) | refine Ext.alloc ?_ _ | refine Ext.setCell ?_ (.inr (by first | omega | simp)) _))⟩
set_option maxRecDepth 100000 in
theorem slots_may_good (b : Nat) (ep n : Int) (c s k : Int) (key : ByteArray) (x : Nat) (id : Int) (hr : ReqOk ⟨c, s, ⟨k, key, x, id⟩⟩) (he : 0 ≤ ep ∧ ep ≤ 60) (hn : I64 n) (ha : askedB ⟨c, s, ⟨k, key, x, id⟩⟩ = true) (w : World) (h0 : w.cell? ⟨b, 0, none⟩ = some (.int .i64 ep)) :
    Calls Try.prog 97 #[.pointer (some ⟨b, 0, none⟩), .int .i64 n, .agg #[.int .i64 c, .int .i64 s, .int .i64 k, .string key, .float .f64 x, .int .i64 id]] w fun e w' =>
    e = .returned (.tuple #[atV b (idxN ep n), .int .i64 (match idxN ep n with | some _ => 0 | none => 14)]) ∧ Ext Non w w' := by
  have HR := Go.Lib.hid hr; have HN := Go.Lib.hid (And.intro he hn)
  clear hr he hn
  have fin : ∀ (w1 : World) (y : EW Non w1), True := fun _ _ => trivial
  unfold askedB at ha
  rw [Bool.or_eq_true] at ha
  cases hio : idxN ep n with
  | none =>
    have HZ := Go.Lib.hid hio
    clear hio
    cases a1 : rightB ⟨c, s, ⟨k, key, x, id⟩⟩
    · have a2 : nullB ⟨c, s, ⟨k, key, x, id⟩⟩ = true := by rw [a1] at ha; simpa using ha
      clear ha fin
      go_enter Try.func97, Try.ntmps97
      go_wp2_with fail
      refine Calls.ew (deeds_Right c s k key x id _) ?_
      rintro e x1 rfl
      rw [a1]
      clear a1
      go_wp2_with fail
      refine Calls.ew (deeds_Null c s k key x id HR.out.c HR.out.s HR.out.k HR.out.id _) ?_
      rintro e x2 rfl
      rw [a2]
      clear a2
      go_wp2_with fail
      refine (slots_at b ep n HN.out.1 HN.out.2 _ (by first | exact h0 | simp only [EW.cellN, alloc_cell_or, h0, Option.some_or])).mono ?_
      rintro e _ ⟨rfl, rfl⟩
      rw [HZ.out]
      unfold atV
      go_wp2
      go_returns
      exact ⟨rfl, by (repeat (first | with_reducible (first | exact Ext.refl _ _ | assumption | refine Ext.upN ?_ | refine Ext.alloc ?_ _ | refine Ext.drew ?_ | refine Ext.drewN ?_ _ | refine Ext.up1N (by first | omega | simp) ?_) | refine Ext.alloc ?_ _ | refine Ext.setCell ?_ (.inr (by first | omega | simp)) _))⟩
    · clear ha fin
      go_enter Try.func97, Try.ntmps97
      go_wp2_with fail
      refine Calls.ew (deeds_Right c s k key x id _) ?_
      rintro e x1 rfl
      rw [a1]
      clear a1
      go_wp2_with fail
      refine (slots_at b ep n HN.out.1 HN.out.2 _ (by first | exact h0 | simp only [EW.cellN, alloc_cell_or, h0, Option.some_or])).mono ?_
      rintro e _ ⟨rfl, rfl⟩
      rw [HZ.out]
      unfold atV
      go_wp2
      go_returns
      exact ⟨rfl, by (repeat (first | with_reducible (first | exact Ext.refl _ _ | assumption | refine Ext.upN ?_ | refine Ext.alloc ?_ _ | refine Ext.drew ?_ | refine Ext.drewN ?_ _ | refine Ext.up1N (by first | omega | simp) ?_) | refine Ext.alloc ?_ _ | refine Ext.setCell ?_ (.inr (by first | omega | simp)) _))⟩
  | some i =>
    have HZ := Go.Lib.hid hio
    clear hio
    cases a1 : rightB ⟨c, s, ⟨k, key, x, id⟩⟩
    · have a2 : nullB ⟨c, s, ⟨k, key, x, id⟩⟩ = true := by rw [a1] at ha; simpa using ha
      clear ha fin
      go_enter Try.func97, Try.ntmps97
      go_wp2_with fail
      refine Calls.ew (deeds_Right c s k key x id _) ?_
      rintro e x1 rfl
      rw [a1]
      clear a1
      go_wp2_with fail
      refine Calls.ew (deeds_Null c s k key x id HR.out.c HR.out.s HR.out.k HR.out.id _) ?_
      rintro e x2 rfl
      rw [a2]
      clear a2
      go_wp2_with fail
      refine (slots_at b ep n HN.out.1 HN.out.2 _ (by first | exact h0 | simp only [EW.cellN, alloc_cell_or, h0, Option.some_or])).mono ?_
      rintro e _ ⟨rfl, rfl⟩
      rw [HZ.out]
      unfold atV
      go_wp2
      go_returns
      exact ⟨rfl, by (repeat (first | with_reducible (first | exact Ext.refl _ _ | assumption | refine Ext.upN ?_ | refine Ext.alloc ?_ _ | refine Ext.drew ?_ | refine Ext.drewN ?_ _ | refine Ext.up1N (by first | omega | simp) ?_) | refine Ext.alloc ?_ _ | refine Ext.setCell ?_ (.inr (by first | omega | simp)) _))⟩
    · clear ha fin
      go_enter Try.func97, Try.ntmps97
      go_wp2_with fail
      refine Calls.ew (deeds_Right c s k key x id _) ?_
      rintro e x1 rfl
      rw [a1]
      clear a1
      go_wp2_with fail
      refine (slots_at b ep n HN.out.1 HN.out.2 _ (by first | exact h0 | simp only [EW.cellN, alloc_cell_or, h0, Option.some_or])).mono ?_
      rintro e _ ⟨rfl, rfl⟩
      rw [HZ.out]
      unfold atV
      go_wp2
      go_returns
      exact ⟨rfl, by (repeat (first | with_reducible (first | exact Ext.refl _ _ | assumption | refine Ext.upN ?_ | refine Ext.alloc ?_ _ | refine Ext.drew ?_ | refine Ext.drewN ?_ _ | refine Ext.up1N (by first | omega | simp) ?_) | refine Ext.alloc ?_ _ | refine Ext.setCell ?_ (.inr (by first | omega | simp)) _))⟩
def reqV (r : Req) : Value := .agg #[.int .i64 r.client, .int .i64 r.stamp, .int .i64 r.op.kind, .string r.op.key, .float .f64 r.op.real, .int .i64 r.op.id]
def toldV (o : Option Req) : Value := .tuple #[reqV (o.getD nullR), .bool o.isSome]
set_option maxHeartbeats 1000000 in
set_option maxRecDepth 100000 in
theorem slots_told (F : Nat → Prop) (q : Option Nat) (o : Option Req) (w : World) (h : PtrR w F q o) : Calls Try.prog 86 #[ptV q] w fun e w' => e = .returned (toldV o) ∧ Ext Non w w' := by
  rcases h with ⟨rfl, rfl⟩ | ⟨kr, ⟨rc, rs, ⟨rk, rkey, rx, rid⟩⟩, rfl, rfl, -, hro, hbr⟩
  · show Calls Try.prog 86 #[.pointer none] w fun e w' => e = .returned (.tuple #[.agg #[.int .i64 0, .int .i64 0, .int .i64 0, .string ByteArray.empty, .float .f64 0, .int .i64 0], .bool false]) ∧ Ext Non w w'
    go_enter Try.func86, Try.ntmps86
    go_wp2
    go_returns
    exact ⟨rfl, by (repeat (first | with_reducible (first | exact Ext.refl _ _ | assumption | refine Ext.upN ?_ | refine Ext.alloc ?_ _ | refine Ext.drew ?_ | refine Ext.drewN ?_ _ | refine Ext.up1N (by first | omega | simp) ?_) | refine Ext.alloc ?_ _ | refine Ext.setCell ?_ (.inr (by first | omega | simp)) _))⟩
  · show Calls Try.prog 86 #[.pointer (some ⟨kr, 0, none⟩)] w fun e w' => e = .returned (.tuple #[.agg #[.int .i64 rc, .int .i64 rs, .int .i64 rk, .string rkey, .float .f64 rx, .int .i64 rid], .bool true]) ∧ Ext Non w w'
    have n0 : w.cell? ⟨kr, 0, none⟩ = some (.int .i64 rc) := hbr.cell rfl
    have n1 : w.cell? ⟨kr, 1, none⟩ = some (.int .i64 rs) := hbr.cell rfl
    have n2 : w.cell? ⟨kr, 2, none⟩ = some (.int .i64 rk) := hbr.cell rfl
    have n3 : w.cell? ⟨kr, 3, none⟩ = some (.string rkey) := hbr.cell rfl
    have n4 : w.cell? ⟨kr, 4, none⟩ = some (.float .f64 rx) := hbr.cell rfl
    have n5 : w.cell? ⟨kr, 5, none⟩ = some (.int .i64 rid) := hbr.cell rfl
    clear hbr hro
    go_enter Try.func86, Try.ntmps86
    go_wp2_with (refine wpList_store_box rfl 49 _ _ rfl w.heap.size _ [.int .i64 rc, .int .i64 rs, .int .i64 rk, .string rkey, .float .f64 rx, .int .i64 rid] _ rfl rfl (Bx.newAt _ _ _ _ rfl) rfl info_req6 (by simp [Value.oneCell']) (fun W hB => ?_); have BZ := Go.Lib.hid hB; clear hB)
    have r0 : W.on.cell? ⟨w.heap.size, 0, none⟩ = some (.int .i64 rc) := BZ.out.cell rfl
    have r1 : W.on.cell? ⟨w.heap.size, 1, none⟩ = some (.int .i64 rs) := BZ.out.cell rfl
    have r2 : W.on.cell? ⟨w.heap.size, 2, none⟩ = some (.int .i64 rk) := BZ.out.cell rfl
    have r3 : W.on.cell? ⟨w.heap.size, 3, none⟩ = some (.string rkey) := BZ.out.cell rfl
    have r4 : W.on.cell? ⟨w.heap.size, 4, none⟩ = some (.float .f64 rx) := BZ.out.cell rfl
    have r5 : W.on.cell? ⟨w.heap.size, 5, none⟩ = some (.int .i64 rid) := BZ.out.cell rfl
    exact bodyPost_ret (v := .tuple #[.agg #[.int .i64 rc, .int .i64 rs, .int .i64 rk, .string rkey, .float .f64 rx, .int .i64 rid], .bool true]) (by simp [results, Try.results86, go_sem, r0, r1, r2, r3, r4, r5]) rfl ⟨rfl, by (repeat (first | with_reducible (first | exact Ext.refl _ _ | assumption | refine Ext.upN ?_ | refine Ext.alloc ?_ _ | refine Ext.drew ?_ | refine Ext.drewN ?_ _ | refine Ext.up1N (by first | omega | simp) ?_) | refine Ext.alloc ?_ _ | refine Ext.setCell ?_ (.inr (by first | omega | simp)) _))⟩
end Go.Proofs.Ytakbkpklfihfiaa
