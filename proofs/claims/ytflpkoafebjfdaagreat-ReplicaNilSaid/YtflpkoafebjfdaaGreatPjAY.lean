/- Joined texts: Slots3, Slots4. What each proves stands at its head; no conditions beside those in its theorems. -/
import Derived.Test.YtflpkoafebjfdaaGreatPjAV
import Derived.Test.YtflpkoafebjfdaaGreatPjAX
/- Contracts of layer 14: Log.at, Log.may, told. -/
namespace Go.Proofs.YtflpkoafebjfdaaGreat
open Go.RowKit Go.Lib F64
set_option linter.unusedSimpArgs false
set_option linter.unusedVariables false
attribute [local go_sem] run_store_float
attribute [local go_sem low] EW.cellN EW.frozN alloc_cell_or alloc_froz_or EW.cellF EW.frozF EW.cell1 EW.froz1
attribute [local go_sem] relAt relUpon
def atV (b : Nat) (o : Option Nat) : Value := .pointer (o.map fun i => ⟨b, 3 + i * 5, none⟩)
set_option maxRecDepth 100000 in
theorem slots_at (b : Nat) (ep n : Int) (he : 0 ≤ ep ∧ ep ≤ 60) (hn : I64 n) (w : World) (h0 : w.cell? ⟨b, 0, none⟩ = some (.int .i64 ep)) :
    Calls Tryz.prog 318 #[.pointer (some ⟨b, 0, none⟩), .int .i64 n] w fun e w' => e = .returned (atV b (idxN ep n)) ∧ w = w' := by
  obtain ⟨he0, he1⟩ := he
  obtain ⟨hn0, hn1⟩ := hn
  have DI : Hid (idxN ep n = if 4 * ep + 1 ≤ n ∧ n < 4 * ep + 5 then some (n - (4 * ep + 1)).toNat else none) := Go.Lib.hid rfl
  have hw1 : IntKind.i64.wrap (ep * 4) = ep * 4 := IntWalk.i64_in _ (by omega)
  have hw2 : IntKind.i64.wrap (ep * 4 + 1) = ep * 4 + 1 := IntWalk.i64_in _ (by omega)
  have hw3 : IntKind.i64.wrap (ep * 4 + 1 + 4) = ep * 4 + 1 + 4 := IntWalk.i64_in _ (by omega)
  by_cases hlo : n < ep * 4 + 1
  · have HZ : Hid (idxN ep n = none) := Go.Lib.hid (by rw [DI.out, if_neg (by omega)])
    go_enter Tryz.func318, Tryz.ntmps318
    go_wp2
    go_ret
    exact ⟨by rw [HZ.out]; rfl, rfl⟩
  · by_cases hhi : ep * 4 + 1 + 4 ≤ n
    · have HZ : Hid (idxN ep n = none) := Go.Lib.hid (by rw [DI.out, if_neg (by omega)])
      go_enter Tryz.func318, Tryz.ntmps318
      go_wp2
      go_ret
      exact ⟨by rw [HZ.out]; rfl, rfl⟩
    · obtain ⟨i, hi⟩ : ∃ i : Nat, n = ep * 4 + 1 + (i : Int) := ⟨(n - (ep * 4 + 1)).toNat, by omega⟩
      subst hi
      have HZ : Hid (idxN ep (ep * 4 + 1 + (i : Int)) = some i) := Go.Lib.hid (by rw [DI.out, if_pos (by omega)]; congr 1; omega)
      have hw4 : IntKind.i64.wrap (ep * 4 + 1 + (i : Int) - (ep * 4 + 1)) = (i : Int) := by rw [show ep * 4 + 1 + (i : Int) - (ep * 4 + 1) = (i : Int) by omega]; exact IntWalk.i64_in _ (by omega)
      have hi4 : (i : Int) < 4 := by omega
      have hi4' : i < 4 := by omega
      go_enter Tryz.func318, Tryz.ntmps318
      go_wp2
      go_ret
      exact ⟨by rw [HZ.out]; rfl, rfl⟩
set_option maxRecDepth 100000 in
theorem slots_may_bad (b : Nat) (n : Int) (c s k : Int) (key : ByteArray) (x : Nat) (id : Int) (hr : ReqOk ⟨c, s, ⟨k, key, x, id⟩⟩) (ha : askedB ⟨c, s, ⟨k, key, x, id⟩⟩ = false) (w : World) :
    Calls Tryz.prog 270 #[.pointer (some ⟨b, 0, none⟩), .int .i64 n, .agg #[.int .i64 c, .int .i64 s, .int .i64 k, .string key, .float .f64 x, .int .i64 id]] w fun e w' =>
    e = .returned (.tuple #[.pointer none, .int .i64 1]) ∧ Ext Non w w' := by
  have HR := Go.Lib.hid hr
  unfold askedB at ha
  rw [Bool.or_eq_false_iff] at ha
  obtain ⟨a1, a2⟩ := ha
  clear hr
  go_enter Tryz.func270, Tryz.ntmps270
  go_wp2_with fail
  refine Calls.ew (deeds_Right c s k key x id _) ?_
  rintro e x1 rfl
  rw [a1]
  clear a1
  go_wp2_with fail
  refine Calls.ew (deeds_Null c s k key x id HR.out.c HR.out.s HR.out.k HR.out.id _) ?_
  rintro e x2 rfl
  rw [a2]
  clear a2
  go_wp2
  go_returns
  exact ⟨rfl, by (repeat (first | with_reducible (first | exact Ext.refl _ _ | assumption | refine Ext.upN ?_ | refine Ext.alloc ?_ _ | refine Ext.drew ?_ | refine Ext.drewN ?_ _ | refine Ext.up1N (by first | omega | simp) ?_) | refine Ext.alloc ?_ _ | refine Ext.setCell ?_ (.inr (by first | omega | simp)) _))⟩
set_option maxRecDepth 100000 in
theorem slots_may_good (b : Nat) (ep n : Int) (c s k : Int) (key : ByteArray) (x : Nat) (id : Int) (hr : ReqOk ⟨c, s, ⟨k, key, x, id⟩⟩) (he : 0 ≤ ep ∧ ep ≤ 60) (hn : I64 n) (ha : askedB ⟨c, s, ⟨k, key, x, id⟩⟩ = true) (w : World) (h0 : w.cell? ⟨b, 0, none⟩ = some (.int .i64 ep)) :
    Calls Tryz.prog 270 #[.pointer (some ⟨b, 0, none⟩), .int .i64 n, .agg #[.int .i64 c, .int .i64 s, .int .i64 k, .string key, .float .f64 x, .int .i64 id]] w fun e w' =>
    e = .returned (.tuple #[atV b (idxN ep n), .int .i64 (match idxN ep n with | some _ => 0 | none => 14)]) ∧ Ext Non w w' := by
  have HR := Go.Lib.hid hr; have HN := Go.Lib.hid (And.intro he hn)
  clear hr he hn
  have fin : ∀ (w1 : World) (y : EW Non w1), True := fun _ _ => trivial
  unfold askedB at ha
  rw [Bool.or_eq_true] at ha
  cases hio : idxN ep n with
  | none =>
    have HZ := Go.Lib.hid hio
    clear hio
    cases a1 : rightB ⟨c, s, ⟨k, key, x, id⟩⟩
    · have a2 : nullB ⟨c, s, ⟨k, key, x, id⟩⟩ = true := by rw [a1] at ha; simpa using ha
      clear ha fin
      go_enter Tryz.func270, Tryz.ntmps270
      go_wp2_with fail
      refine Calls.ew (deeds_Right c s k key x id _) ?_
      rintro e x1 rfl
      rw [a1]
      clear a1
      go_wp2_with fail
      refine Calls.ew (deeds_Null c s k key x id HR.out.c HR.out.s HR.out.k HR.out.id _) ?_
      rintro e x2 rfl
      rw [a2]
      clear a2
      go_wp2_with fail
      refine (slots_at b ep n HN.out.1 HN.out.2 _ (by first | exact h0 | simp only [EW.cellN, alloc_cell_or, h0, Option.some_or])).mono ?_
      rintro e _ ⟨rfl, rfl⟩
      rw [HZ.out]
      unfold atV
      go_wp2
      go_returns
      exact ⟨rfl, by (repeat (first | with_reducible (first | exact Ext.refl _ _ | assumption | refine Ext.upN ?_ | refine Ext.alloc ?_ _ | refine Ext.drew ?_ | refine Ext.drewN ?_ _ | refine Ext.up1N (by first | omega | simp) ?_) | refine Ext.alloc ?_ _ | refine Ext.setCell ?_ (.inr (by first | omega | simp)) _))⟩
    · clear ha fin
      go_enter Tryz.func270, Tryz.ntmps270
      go_wp2_with fail
      refine Calls.ew (deeds_Right c s k key x id _) ?_
      rintro e x1 rfl
      rw [a1]
      clear a1
      go_wp2_with fail
      refine (slots_at b ep n HN.out.1 HN.out.2 _ (by first | exact h0 | simp only [EW.cellN, alloc_cell_or, h0, Option.some_or])).mono ?_
      rintro e _ ⟨rfl, rfl⟩
      rw [HZ.out]
      unfold atV
      go_wp2
      go_returns
      exact ⟨rfl, by (repeat (first | with_reducible (first | exact Ext.refl _ _ | assumption | refine Ext.upN ?_ | refine Ext.alloc ?_ _ | refine Ext.drew ?_ | refine Ext.drewN ?_ _ | refine Ext.up1N (by first | omega | simp) ?_) | refine Ext.alloc ?_ _ | refine Ext.setCell ?_ (.inr (by first | omega | simp)) _))⟩
  | some i =>
    have HZ := Go.Lib.hid hio
    clear hio
    cases a1 : rightB ⟨c, s, ⟨k, key, x, id⟩⟩
    · have a2 : nullB ⟨c, s, ⟨k, key, x, id⟩⟩ = true := by rw [a1] at ha; simpa using ha
      clear ha fin
      go_enter Tryz.func270, Tryz.ntmps270
      go_wp2_with fail
      refine Calls.ew (deeds_Right c s k key x id _) ?_
      rintro e x1 rfl
      rw [a1]
      clear a1
      go_wp2_with fail
      refine Calls.ew (deeds_Null c s k key x id HR.out.c HR.out.s HR.out.k HR.out.id _) ?_
      rintro e x2 rfl
      rw [a2]
      clear a2
      go_wp2_with fail
      refine (slots_at b ep n HN.out.1 HN.out.2 _ (by first | exact h0 | simp only [EW.cellN, alloc_cell_or, h0, Option.some_or])).mono ?_
      rintro e _ ⟨rfl, rfl⟩
      rw [HZ.out]
      unfold atV
      go_wp2
      go_returns
      exact ⟨rfl, by (repeat (first | with_reducible (first | exact Ext.refl _ _ | assumption | refine Ext.upN ?_ | refine Ext.alloc ?_ _ | refine Ext.drew ?_ | refine Ext.drewN ?_ _ | refine Ext.up1N (by first | omega | simp) ?_) | refine Ext.alloc ?_ _ | refine Ext.setCell ?_ (.inr (by first | omega | simp)) _))⟩
    · clear ha fin
      go_enter Tryz.func270, Tryz.ntmps270
      go_wp2_with fail
      refine Calls.ew (deeds_Right c s k key x id _) ?_
      rintro e x1 rfl
      rw [a1]
      clear a1
      go_wp2_with fail
      refine (slots_at b ep n HN.out.1 HN.out.2 _ (by first | exact h0 | simp only [EW.cellN, alloc_cell_or, h0, Option.some_or])).mono ?_
      rintro e _ ⟨rfl, rfl⟩
      rw [HZ.out]
      unfold atV
      go_wp2
      go_returns
      exact ⟨rfl, by (repeat (first | with_reducible (first | exact Ext.refl _ _ | assumption | refine Ext.upN ?_ | refine Ext.alloc ?_ _ | refine Ext.drew ?_ | refine Ext.drewN ?_ _ | refine Ext.up1N (by first | omega | simp) ?_) | refine Ext.alloc ?_ _ | refine Ext.setCell ?_ (.inr (by first | omega | simp)) _))⟩
def reqV (r : Req) : Value := .agg #[.int .i64 r.client, .int .i64 r.stamp, .int .i64 r.op.kind, .string r.op.key, .float .f64 r.op.real, .int .i64 r.op.id]
def toldV (o : Option Req) : Value := .tuple #[reqV (o.getD nullR), .bool o.isSome]
set_option maxHeartbeats 1000000 in
set_option maxRecDepth 100000 in
theorem slots_told (F : Nat → Prop) (q : Option Nat) (o : Option Req) (w : World) (h : PtrR w F q o) : Calls Tryz.prog 321 #[ptV q] w fun e w' => e = .returned (toldV o) ∧ Ext Non w w' := by
  rcases h with ⟨rfl, rfl⟩ | ⟨kr, ⟨rc, rs, ⟨rk, rkey, rx, rid⟩⟩, rfl, rfl, -, hro, hbr⟩
  · show Calls Tryz.prog 321 #[.pointer none] w fun e w' => e = .returned (.tuple #[.agg #[.int .i64 0, .int .i64 0, .int .i64 0, .string ByteArray.empty, .float .f64 0, .int .i64 0], .bool false]) ∧ Ext Non w w'
    go_enter Tryz.func321, Tryz.ntmps321
    go_wp2
    go_returns
    exact ⟨rfl, by (repeat (first | with_reducible (first | exact Ext.refl _ _ | assumption | refine Ext.upN ?_ | refine Ext.alloc ?_ _ | refine Ext.drew ?_ | refine Ext.drewN ?_ _ | refine Ext.up1N (by first | omega | simp) ?_) | refine Ext.alloc ?_ _ | refine Ext.setCell ?_ (.inr (by first | omega | simp)) _))⟩
  · show Calls Tryz.prog 321 #[.pointer (some ⟨kr, 0, none⟩)] w fun e w' => e = .returned (.tuple #[.agg #[.int .i64 rc, .int .i64 rs, .int .i64 rk, .string rkey, .float .f64 rx, .int .i64 rid], .bool true]) ∧ Ext Non w w'
    have n0 : w.cell? ⟨kr, 0, none⟩ = some (.int .i64 rc) := hbr.cell rfl
    have n1 : w.cell? ⟨kr, 1, none⟩ = some (.int .i64 rs) := hbr.cell rfl
    have n2 : w.cell? ⟨kr, 2, none⟩ = some (.int .i64 rk) := hbr.cell rfl
    have n3 : w.cell? ⟨kr, 3, none⟩ = some (.string rkey) := hbr.cell rfl
    have n4 : w.cell? ⟨kr, 4, none⟩ = some (.float .f64 rx) := hbr.cell rfl
    have n5 : w.cell? ⟨kr, 5, none⟩ = some (.int .i64 rid) := hbr.cell rfl
    clear hbr hro
    go_enter Tryz.func321, Tryz.ntmps321
    go_wp2_with (refine wpList_store_box rfl 37 _ _ rfl w.heap.size _ [.int .i64 rc, .int .i64 rs, .int .i64 rk, .string rkey, .float .f64 rx, .int .i64 rid] _ rfl rfl (Bx.newAt _ _ _ _ rfl) rfl info_req6 (by simp [Value.oneCell']) (fun W hB => ?_); have BZ := Go.Lib.hid hB; clear hB)
    have r0 : W.on.cell? ⟨w.heap.size, 0, none⟩ = some (.int .i64 rc) := BZ.out.cell rfl
    have r1 : W.on.cell? ⟨w.heap.size, 1, none⟩ = some (.int .i64 rs) := BZ.out.cell rfl
    have r2 : W.on.cell? ⟨w.heap.size, 2, none⟩ = some (.int .i64 rk) := BZ.out.cell rfl
    have r3 : W.on.cell? ⟨w.heap.size, 3, none⟩ = some (.string rkey) := BZ.out.cell rfl
    have r4 : W.on.cell? ⟨w.heap.size, 4, none⟩ = some (.float .f64 rx) := BZ.out.cell rfl
    have r5 : W.on.cell? ⟨w.heap.size, 5, none⟩ = some (.int .i64 rid) := BZ.out.cell rfl
    exact bodyPost_ret (v := .tuple #[.agg #[.int .i64 rc, .int .i64 rs, .int .i64 rk, .string rkey, .float .f64 rx, .int .i64 rid], .bool true]) (by simp [results, Tryz.results321, go_sem, r0, r1, r2, r3, r4, r5]) rfl ⟨rfl, by (repeat (first | with_reducible (first | exact Ext.refl _ _ | assumption | refine Ext.upN ?_ | refine Ext.alloc ?_ _ | refine Ext.drew ?_ | refine Ext.drewN ?_ _ | refine Ext.up1N (by first | omega | simp) ?_) | refine Ext.alloc ?_ _ | refine Ext.setCell ?_ (.inr (by first | omega | simp)) _))⟩
end Go.Proofs.YtflpkoafebjfdaaGreat

/- Contracts of layer 14: Log.look. -/
namespace Go.Proofs.YtflpkoafebjfdaaGreat
open Go.RowKit Go.Lib F64
set_option linter.unusedSimpArgs false
set_option linter.unusedVariables false
attribute [local go_sem] run_store_float
attribute [local go_sem low] EW.cellN EW.frozN alloc_cell_or alloc_froz_or EW.cellF EW.frozF EW.cell1 EW.froz1
attribute [local go_sem] relAt relUpon
def moBx (base : Nat) (vs : List Value) (t : TypeId) : Mo := ⟨fun v w => ∃ g, v = .pointer (some ⟨g, 0, none⟩) ∧ base ≤ g ∧ Bx w g vs t, fun _ _ _ x ⟨g, e, l, h⟩ => ⟨g, e, l, h.extN x⟩⟩
theorem putS_self (g : Lo) (i : Nat) : putS g i (g.sl i) = g := by
  unfold putS
  obtain ⟨e, m, v, sl⟩ := g
  congr 1
  funext j
  by_cases h : j = i
  · subst h; exact if_pos rfl
  · exact if_neg h
theorem putS_same (g : Lo) (i : Nat) (s : Sl) : (putS g i s).sl i = s := if_pos rfl
theorem putS_put (g : Lo) (i : Nat) (s t : Sl) : putS (putS g i s) i t = putS g i t := by
  unfold putS
  congr 1
  funext j
  by_cases h : j = i
  · simp [h]
  · simp [h]
def certL (ms : List Int) (view n : Int) (s : Sl) : Option Ct := match s.cert with
  | none => some ⟨view, n, s.prop.getD nullR, agreeO s.prep s.prop ms⟩
  | some c => if c.view < view then some ⟨view, n, s.prop.getD nullR, agreeO s.prep s.prop ms⟩ else some c
def doneL (ms : List Int) (s : Sl) : Option Req := match s.done with
  | none => if enoughB ms (agreeO s.com s.prop ms).length = true then s.prop else none
  | some r => some r
theorem lookS_eq (ms : List Int) (view n : Int) (s : Sl) : lookS ms view n s = if enoughB ms (agreeO s.prep s.prop ms).length = true then { s with cert := certL ms view n s, done := doneL ms s } else s := rfl
theorem SlW.extN {w w' : World} {G : Nat → Prop} {p : Pt} {s : Sl} (q : SlW w G p s) (x : Ext Non w w') : SlW w' G p s :=
  ⟨q.prop.ext x (fun _ _ _ _ _ f => f) (fun _ h => h), q.prep.extN x, q.com.extN x, q.cert.ext x (fun _ _ _ _ _ f => f) (fun _ _ _ _ _ f => f) (fun _ h => h), q.done.ext x (fun _ _ _ _ _ f => f) (fun _ h => h), q.f1, q.f2, q.ok1, q.ok2⟩
theorem LoP.extN {w w' : World} {b : Nat} {G : Nat → Prop} {g : Lo} {a : Option Addr} {c : Nat} {pt : Nat → Pt} (h : LoP w b G g a c pt) (x : Ext Non w w') : LoP w' b G g a c pt :=
  ⟨(x.block b (Array.getElem?_eq_some_iff.1 h.h).1 id).trans h.h, h.ints.extN x, h.ia, fun i hi => (h.sl i hi).extN x, h.d⟩
def needC (view : Int) : Option Ct → Bool
  | none => true
  | some c => decide (c.view < view)
theorem certL_need (ms : List Int) (view n : Int) (s : Sl) : certL ms view n s = if needC view s.cert = true then some ⟨view, n, s.prop.getD nullR, agreeO s.prep s.prop ms⟩ else s.cert := by
  unfold certL needC
  cases s.cert with
  | none => rfl
  | some c => by_cases h : c.view < view <;> simp [h]
theorem enough_zero {ms : List Int} (h : 4 ≤ ms.length) : enoughB ms 0 = false := by
  unfold enoughB quorumI faultsI
  rw [if_neg (by omega), if_neg (by omega)]
  rw [decide_eq_false_iff_not]
  omega
theorem agreeO_ok {l : List (Int × Vt)} (h : VtsOk l) (o : Option Req) (ms : List Int) : ∀ s ∈ agreeO l o ms, I64 s.by_ ∧ s.text.size ≤ 9223372036854775807 := by
  cases o with
  | none => intro s hs; exact (List.not_mem_nil hs).elim
  | some r => exact agreeG_ok h r ms
set_option maxHeartbeats 4000000 in
set_option maxRecDepth 100000 in
theorem slots_look (b i : Nat) (G : Nat → Prop) (g : Lo) (n : Int) (hi : i < 4) (hn : I64 n) (w : World) (h : LoW w b G g) :
    Calls Tryz.prog 272 #[.pointer (some ⟨b, 0, none⟩), .int .i64 n, .pointer (some ⟨b, 3 + i * 5, none⟩)] w fun e w' =>
    e = .returned (.tuple #[]) ∧ ∃ G', LoW w' b G' (putS g i (lookS g.mem g.view n (g.sl i))) ∧ (∀ k, G' k → G k ∨ w.heap.size ≤ k) ∧ Ext (One b) w w' := by
  have HL := Go.Lib.hid h
  obtain ⟨hm4, hm10⟩ := h.len
  obtain ⟨a, c, pt, P⟩ := h.parts
  have HP := Go.Lib.hid P
  have Q := P.sl i hi
  have HQ := Go.Lib.hid Q
  have HLS := Go.Lib.hid (lookS_eq g.mem g.view n (g.sl i))
  have HLF := Go.Lib.hid (putS_self g i)
  have hpp := Q.prop
  have c1 := P.c1
  have c2 := P.c2
  have s0 : w.cell? ⟨b, 3 + i * 5, none⟩ = some (ptV (pt i).pp) := P.cs hi (show 0 < 5 by omega) rfl
  have s1 : w.cell? ⟨b, 3 + i * 5 + 1, none⟩ = some (.map (some (pt i).m1)) := P.cs hi (show 1 < 5 by omega) rfl
  clear P Q h
  have AG := Go.Lib.hid (slots_agree b (3 + i * 5) a c g.mem (by omega) (pt i).m1 (g.sl i).prep HQ.out.ok1 G (pt i).pp (g.sl i).prop w c1 HP.out.ints s0 hpp HQ.out.prep)
  have AGo := Go.Lib.hid (agreeO_ok HQ.out.ok1 (g.sl i).prop g.mem)
  have HCL : Hid (certL g.mem g.view n (g.sl i) = certL g.mem g.view n (g.sl i)) := Go.Lib.hid rfl
  rcases hpp with ⟨hp1, hp2⟩ | ⟨kr, ⟨rc, rs, ⟨rk, rkey, rx, rid⟩⟩, hp1, hp2, hkr, hro, hbr⟩
  · have hz : (agreeO (g.sl i).prep (g.sl i).prop g.mem).length = 0 := by rw [hp2]; rfl
    have hE : Hid (lookS g.mem g.view n (g.sl i) = g.sl i) := Go.Lib.hid (by rw [HLS.out, hz, enough_zero hm4]; rfl)
    have HZ0 := Go.Lib.hid (enough_zero hm4)
    go_enter Tryz.func272, Tryz.ntmps272
    go_wp2_with fail
    refine AG.out.mono ?_
    rintro e _ ⟨sa, scap, rfl, hS, hx, hf⟩
    obtain ⟨x1, rfl⟩ := hx.ew
    rw [hz]
    clear hS hx hf hz hp1 hp2
    go_wp2_with fail
    refine (slots_enough b a c g.mem (by omega) sa 0 scap _ (by simp only [EW.cellN, c1, Option.some_or])).mono ?_
    rintro e _ ⟨rfl, rfl⟩
    rw [HZ0.out]
    go_wp2
    go_returns
    exact ⟨rfl, G, by rw [hE.out, HLF.out]; exact HL.out.extN (by (repeat (first | with_reducible (first | exact Ext.refl _ _ | assumption | refine Ext.upN ?_ | refine Ext.alloc ?_ _ | refine Ext.drew ?_ | refine Ext.drewN ?_ _ | refine Ext.up1N (by first | omega | simp) ?_) | refine Ext.alloc ?_ _ | refine Ext.setCell ?_ (.inr (by first | omega | simp)) _))), fun k hk => .inl hk, Ext.ofNon (by (repeat (first | with_reducible (first | exact Ext.refl _ _ | assumption | refine Ext.upN ?_ | refine Ext.alloc ?_ _ | refine Ext.drew ?_ | refine Ext.drewN ?_ _ | refine Ext.up1N (by first | omega | simp) ?_) | refine Ext.alloc ?_ _ | refine Ext.setCell ?_ (.inr (by first | omega | simp)) _)))⟩
  · have s0' : w.cell? ⟨b, 3 + i * 5, none⟩ = some (.pointer (some ⟨kr, 0, none⟩)) := by rw [s0, hp1]; rfl
    have s3 : w.cell? ⟨b, 3 + i * 5 + 3, none⟩ = some (ptV (pt i).pc) := HP.out.cs hi (show 3 < 5 by omega) rfl
    have f3 : w.frozen? ⟨b, 3 + i * 5 + 3, none⟩ = false := HP.out.fz _
    have n0 : w.cell? ⟨kr, 0, none⟩ = some (.int .i64 rc) := hbr.cell rfl
    have n1 : w.cell? ⟨kr, 1, none⟩ = some (.int .i64 rs) := hbr.cell rfl
    have n2 : w.cell? ⟨kr, 2, none⟩ = some (.int .i64 rk) := hbr.cell rfl
    have n3 : w.cell? ⟨kr, 3, none⟩ = some (.string rkey) := hbr.cell rfl
    have n4 : w.cell? ⟨kr, 4, none⟩ = some (.float .f64 rx) := hbr.cell rfl
    have n5 : w.cell? ⟨kr, 5, none⟩ = some (.int .i64 rid) := hbr.cell rfl
    have HRo := Go.Lib.hid hro
    have hbl : b < w.heap.size := HL.out.bl
    have HCN : Hid (certL g.mem g.view n (g.sl i) = if needC g.view (g.sl i).cert = true then some ⟨g.view, n, ⟨rc, rs, ⟨rk, rkey, rx, rid⟩⟩, agreeO (g.sl i).prep (g.sl i).prop g.mem⟩ else (g.sl i).cert) := Go.Lib.hid (by rw [certL_need, hp2]; rfl)
    have HPR : Hid ((g.sl i).prop = some ⟨rc, rs, ⟨rk, rkey, rx, rid⟩⟩ ∧ (pt i).pp = some kr) := Go.Lib.hid ⟨hp2, hp1⟩
    clear s0 hro hbr hkr hp2 hp1
    go_enter Tryz.func272, Tryz.ntmps272
    go_wp2_with fail
    refine AG.out.mono ?_
    rintro e _ ⟨sa, scap, rfl, hS, hx, hf⟩
    obtain ⟨x1, rfl⟩ := hx.ew
    have HSg := Go.Lib.hid hS; have HFr := Go.Lib.hid hf
    clear hS hx hf AG HCL
    generalize agreeO (g.sl i).prep (g.sl i).prop g.mem = al at *
    go_wp2_with fail
    refine (slots_enough b a c g.mem (by omega) sa al.length scap _ (by simp only [EW.cellN, c1, Option.some_or])).mono ?_
    rintro e _ ⟨rfl, rfl⟩
    cases he : enoughB g.mem al.length
    · as_aux_lemma =>
      have hE : Hid (lookS g.mem g.view n (g.sl i) = g.sl i) := Go.Lib.hid (by rw [HLS.out, he]; rfl)
      clear he
      go_wp2
      go_returns
      exact ⟨rfl, G, by rw [hE.out, HLF.out]; exact HL.out.extN (by (repeat (first | with_reducible (first | exact Ext.refl _ _ | assumption | refine Ext.upN ?_ | refine Ext.alloc ?_ _ | refine Ext.drew ?_ | refine Ext.drewN ?_ _ | refine Ext.up1N (by first | omega | simp) ?_) | refine Ext.alloc ?_ _ | refine Ext.setCell ?_ (.inr (by first | omega | simp)) _))), fun k hk => .inl hk, Ext.ofNon (by (repeat (first | with_reducible (first | exact Ext.refl _ _ | assumption | refine Ext.upN ?_ | refine Ext.alloc ?_ _ | refine Ext.drew ?_ | refine Ext.drewN ?_ _ | refine Ext.up1N (by first | omega | simp) ?_) | refine Ext.alloc ?_ _ | refine Ext.setCell ?_ (.inr (by first | omega | simp)) _)))⟩
    have hal0 : 0 < al.length := by
      rcases Nat.eq_zero_or_pos al.length with h0 | h0
      · rw [h0, enough_zero hm4] at he; cases he
      · exact h0
    have HE : Hid (lookS g.mem g.view n (g.sl i) = { g.sl i with cert := certL g.mem g.view n (g.sl i), done := doneL g.mem (g.sl i) }) := Go.Lib.hid (by rw [HLS.out, he]; rfl)
    clear he HLS
    go_upto_region 2 with fail
    generalize hcb : needC g.view (g.sl i).cert = cb at *
    have HCB := Go.Lib.hid hcb
    clear hcb
    go_cut [36] (fun s36 wx => ∃ z : EW Non x1.on, s36 = .bool cb ∧ wx = z.on)
    case first =>
      rcases HQ.out.cert with ⟨k1, k2⟩ | ⟨kc, x, csa, cscap, k1, k2, k3, k4, k5, k6, k7, k8, k9⟩
      · have s3' : w.cell? ⟨b, 3 + i * 5 + 3, none⟩ = some (.pointer none) := by rw [s3, k1]; rfl
        have HB : Hid (cb = true) := Go.Lib.hid (by rw [← HCB.out, k2]; rfl)
        clear s3 k1 k2
        (refine wp_region_ext_lit (by kernel_rfl) (by kernel_rfl) ?_; (repeat (go_big_quiet_step (fail))); refine wpQuiet_nil ?_; intro _ hw'; obtain ⟨xq, hw''⟩ := hw'; subst hw'')
        go_wp2_with fail
        go_meet
        exact ⟨⟨_, by (repeat (first | with_reducible (first | exact Ext.refl _ _ | assumption | refine Ext.upN ?_ | refine Ext.alloc ?_ _ | refine Ext.drew ?_ | refine Ext.drewN ?_ _ | refine Ext.up1N (by first | omega | simp) ?_) | refine Ext.alloc ?_ _ | refine Ext.setCell ?_ (.inr (by first | omega | simp)) _))⟩, by rw [HB.out], rfl⟩
      · have s3' : w.cell? ⟨b, 3 + i * 5 + 3, none⟩ = some (.pointer (some ⟨kc, 0, none⟩)) := by rw [s3, k1]; rfl
        have v0 : w.cell? ⟨kc, 0, none⟩ = some (.int .i64 x.view) := k7.cell rfl
        have HB : Hid (cb = decide (x.view < g.view)) := Go.Lib.hid (by rw [← HCB.out, k2]; rfl)
        clear s3 k1 k2 k3 k4 k5 k6 k7 k8 k9
        generalize x.view = xv at *
        by_cases hxv : xv < g.view
        · have HXV := Go.Lib.hid (decide_eq_true hxv)
          (refine wp_region_ext_lit (by kernel_rfl) (by kernel_rfl) ?_; (repeat (go_big_quiet_step (fail))); refine wpQuiet_nil ?_; intro _ hw'; obtain ⟨xq, hw''⟩ := hw'; subst hw'')
          go_wp2_with fail
          go_meet
          exact ⟨⟨_, by (repeat (first | with_reducible (first | exact Ext.refl _ _ | assumption | refine Ext.upN ?_ | refine Ext.alloc ?_ _ | refine Ext.drew ?_ | refine Ext.drewN ?_ _ | refine Ext.up1N (by first | omega | simp) ?_) | refine Ext.alloc ?_ _ | refine Ext.setCell ?_ (.inr (by first | omega | simp)) _))⟩, by rw [HB.out, HXV.out], rfl⟩
        · have HXV := Go.Lib.hid (decide_eq_false hxv)
          (refine wp_region_ext_lit (by kernel_rfl) (by kernel_rfl) ?_; (repeat (go_big_quiet_step (fail))); refine wpQuiet_nil ?_; intro _ hw'; obtain ⟨xq, hw''⟩ := hw'; subst hw'')
          go_wp2_with fail
          go_meet
          exact ⟨⟨_, by (repeat (first | with_reducible (first | exact Ext.refl _ _ | assumption | refine Ext.upN ?_ | refine Ext.alloc ?_ _ | refine Ext.drew ?_ | refine Ext.drewN ?_ _ | refine Ext.up1N (by first | omega | simp) ?_) | refine Ext.alloc ?_ _ | refine Ext.setCell ?_ (.inr (by first | omega | simp)) _))⟩, by rw [HB.out, HXV.out], rfl⟩
    obtain ⟨z, rfl, rfl⟩ := hcut
    go_upto_if 36 with fail
    go_cut [] (fun wx => ∃ G1 : Nat → Prop, Hid (LoW wx b G1 (putS g i { g.sl i with cert := certL g.mem g.view n (g.sl i) })) ∧ Hid (∀ k, G1 k → G k ∨ w.heap.size ≤ k) ∧ Hid (Ext (One b) w wx))
    case first =>
      cases cb
      · go_wp2_with fail
        go_meet
        exact ⟨G, Go.Lib.hid (by rw [HCN.out, if_neg (by simp), HLF.out]; exact HL.out.extN (by (repeat (first | with_reducible (first | exact Ext.refl _ _ | assumption | refine Ext.upN ?_ | refine Ext.alloc ?_ _ | refine Ext.drew ?_ | refine Ext.drewN ?_ _ | refine Ext.up1N (by first | omega | simp) ?_) | refine Ext.alloc ?_ _ | refine Ext.setCell ?_ (.inr (by first | omega | simp)) _)))), Go.Lib.hid (fun k hk => .inl hk), Go.Lib.hid (Ext.ofNon (by (repeat (first | with_reducible (first | exact Ext.refl _ _ | assumption | refine Ext.upN ?_ | refine Ext.alloc ?_ _ | refine Ext.drew ?_ | refine Ext.drewN ?_ _ | refine Ext.up1N (by first | omega | simp) ?_) | refine Ext.alloc ?_ _ | refine Ext.setCell ?_ (.inr (by first | omega | simp)) _))))⟩
      · go_upto_region 3 with fail
        apply wp_region_rel_tail 17 (relR [Mo.is _, Mo.is _, Mo.is _, Mo.is _, Mo.is _, Mo.is _, Mo.is _, Mo.is _, Mo.is _, Mo.is _, Mo.is _, Mo.is _, Mo.is _, Mo.is _, moBx z.on.heap.size [.int .i64 g.view, .int .i64 n, .int .i64 rc, .int .i64 rs, .int .i64 rk, .string rkey, .float .f64 rx, .int .i64 rid, .slice sa al.length scap] 113, Mo.is _, Mo.is _]) (by kernel_rfl) (by kernel_rfl) (by kernel_rfl) (by kernel_rfl) (by kernel_rfl) (by decide) (by kernel_rfl) (relR_mono _) (StepD.all ?st1) ?q1
        case st1 =>
          refine ⟨?_, ?_, ?_, ?_, ?_, ?_, ?_, ?_, ?_, ?_, ?_, ?_, ?_, ?_, ?_, ?_, ?_, trivial⟩
          · intro a' w' hx hs hd
            obtain ⟨y, rfl⟩ := hx.ew
            have e2 : a'.tmps[2]?.getD undef = _ := hs 2 rfl
            simp only [List.getElem?_toArray, List.getElem?_cons_succ, List.getElem?_cons_zero, Option.getD_some, Array.getElem?_eq_some_iff] at e2
            refine .inl ⟨rfl, ?_⟩
            clear hs hd hx
            go_simp
            exact ⟨Ext.refl _ _, rfl⟩
          · intro a' w' hx hs hd
            obtain ⟨y, rfl⟩ := hx.ew
            have e0 : a'.tmps[0]?.getD undef = _ := hs 0 rfl
            simp only [List.getElem?_toArray, List.getElem?_cons_succ, List.getElem?_cons_zero, Option.getD_some, Array.getElem?_eq_some_iff] at e0
            refine .inl ⟨rfl, ?_⟩
            clear hs hd hx
            go_simp
            exact ⟨Ext.refl _ _, rfl⟩
          · intro a' w' hx hs hd
            obtain ⟨y, rfl⟩ := hx.ew
            have e38 : a'.tmps[38]?.getD undef = _ := hd 1 38 rfl rfl
            refine .inl ⟨rfl, ?_⟩
            clear hs hd hx
            go_simp
            exact ⟨Ext.refl _ _, rfl⟩
          · intro a' w' hx hs hd
            obtain ⟨y, rfl⟩ := hx.ew
            have e39 : a'.tmps[39]?.getD undef = _ := hd 2 39 rfl rfl
            refine .inl ⟨rfl, ?_⟩
            clear hs hd hx
            go_simp
            exact ⟨Ext.refl _ _, rfl⟩
          · intro a' w' hx hs hd
            obtain ⟨y, rfl⟩ := hx.ew
            have e40 : a'.tmps[40]?.getD undef = _ := hd 3 40 rfl rfl
            refine .inl ⟨rfl, ?_⟩
            clear hs hd hx
            go_simp
            exact ⟨Ext.refl _ _, rfl⟩
          · intro a' w' hx hs hd
            obtain ⟨y, rfl⟩ := hx.ew
            have e1 : a'.tmps[1]?.getD undef = _ := hs 1 rfl
            simp only [List.getElem?_toArray, List.getElem?_cons_succ, List.getElem?_cons_zero, Option.getD_some, Array.getElem?_eq_some_iff] at e1
            refine .inl ⟨rfl, ?_⟩
            clear hs hd hx
            go_simp
            exact ⟨Ext.refl _ _, rfl⟩
          · intro a' w' hx hs hd
            obtain ⟨y, rfl⟩ := hx.ew
            have e2 : a'.tmps[2]?.getD undef = _ := hs 2 rfl
            simp only [List.getElem?_toArray, List.getElem?_cons_succ, List.getElem?_cons_zero, Option.getD_some, Array.getElem?_eq_some_iff] at e2
            refine .inl ⟨rfl, ?_⟩
            clear hs hd hx
            go_simp
            exact ⟨Ext.refl _ _, rfl⟩
          · intro a' w' hx hs hd
            obtain ⟨y, rfl⟩ := hx.ew
            have e43 : a'.tmps[43]?.getD undef = _ := hd 6 43 rfl rfl
            refine .inl ⟨rfl, ?_⟩
            clear hs hd hx
            go_simp
            exact ⟨Ext.refl _ _, rfl⟩
          · intro a' w' hx hs hd
            obtain ⟨y, rfl⟩ := hx.ew
            have e44 : a'.tmps[44]?.getD undef = _ := hd 7 44 rfl rfl
            refine .inl ⟨rfl, ?_⟩
            clear hs hd hx
            go_simp
            exact ⟨Ext.refl _ _, rfl⟩
          · intro a' w' hx hs hd
            obtain ⟨y, rfl⟩ := hx.ew
            have e45 : a'.tmps[45]?.getD undef = _ := hd 8 45 rfl rfl
            refine .inl ⟨rfl, ?_⟩
            clear hs hd hx
            go_simp
            exact ⟨Ext.refl _ _, rfl⟩
          · intro a' w' hx hs hd
            obtain ⟨y, rfl⟩ := hx.ew
            have e46 : a'.tmps[46]?.getD undef = _ := hd 9 46 rfl rfl
            refine .inl ⟨rfl, ?_⟩
            clear hs hd hx
            go_simp
            exact ⟨Ext.refl _ _, rfl⟩
          · intro a' w' hx hs hd
            obtain ⟨y, rfl⟩ := hx.ew
            have e47 : a'.tmps[47]?.getD undef = _ := hd 10 47 rfl rfl
            refine .inl ⟨rfl, ?_⟩
            clear hs hd hx
            go_simp
            exact ⟨Ext.refl _ _, rfl⟩
          · intro a' w' hx hs hd
            obtain ⟨y, rfl⟩ := hx.ew
            have e6 : a'.tmps[6]?.getD undef = _ := hs 6 rfl
            simp only [List.getElem?_toArray, List.getElem?_cons_succ, List.getElem?_cons_zero, Option.getD_some, Array.getElem?_eq_some_iff] at e6
            refine .inl ⟨rfl, ?_⟩
            clear hs hd hx
            go_simp
            exact ⟨Ext.refl _ _, rfl⟩
          · intro a' w' hx hs hd
            obtain ⟨y, rfl⟩ := hx.ew
            have e41 : a'.tmps[41]?.getD undef = _ := hd 4 41 rfl rfl
            have e42 : a'.tmps[42]?.getD undef = _ := hd 5 42 rfl rfl
            have e48 : a'.tmps[48]?.getD undef = _ := hd 11 48 rfl rfl
            have e49 : a'.tmps[49]?.getD undef = _ := hd 12 49 rfl rfl
            refine .inl ⟨rfl, ?_⟩
            clear hs hd hx
            go_simp
            exact ⟨Ext.refl _ _, rfl⟩
          · intro a' w' hx hs hd
            obtain ⟨y, rfl⟩ := hx.ew
            have e50 : a'.tmps[50]?.getD undef = _ := hd 13 50 rfl rfl
            refine .inl ⟨rfl, ?_⟩
            clear hs hd hx
            go_simp
            exact ⟨(Ext.refl _ _).alloc _, _, rfl, y.ext.size, Bx.newAt _ _ _ _ rfl⟩
          · intro a' w' hx hs hd
            obtain ⟨y, rfl⟩ := hx.ew
            have e37 : a'.tmps[37]?.getD undef = _ := hd 0 37 rfl rfl
            refine .inl ⟨rfl, ?_⟩
            clear hs hd hx
            go_simp
            exact ⟨Ext.refl _ _, rfl⟩
          · intro a' w' hx hs hd
            obtain ⟨y, rfl⟩ := hx.ew
            have e52 : a'.tmps[52]?.getD undef = _ := hd 15 52 rfl rfl
            refine .inl ⟨rfl, ?_⟩
            clear hs hd hx
            go_simp
            exact ⟨Ext.refl _ _, rfl⟩
        case' q1 =>
          intro vs w' hx hRR
          obtain ⟨x3, rfl⟩ := hx.ew
          have q0 : vs 0 = _ := hRR 0 (by decide)
          have q1 : vs 1 = _ := hRR 1 (by decide)
          have q2 : vs 2 = _ := hRR 2 (by decide)
          have q3 : vs 3 = _ := hRR 3 (by decide)
          have q4 : vs 4 = _ := hRR 4 (by decide)
          have q5 : vs 5 = _ := hRR 5 (by decide)
          have q6 : vs 6 = _ := hRR 6 (by decide)
          have q7 : vs 7 = _ := hRR 7 (by decide)
          have q8 : vs 8 = _ := hRR 8 (by decide)
          have q9 : vs 9 = _ := hRR 9 (by decide)
          have q10 : vs 10 = _ := hRR 10 (by decide)
          have q11 : vs 11 = _ := hRR 11 (by decide)
          have q12 : vs 12 = _ := hRR 12 (by decide)
          have q13 : vs 13 = _ := hRR 13 (by decide)
          obtain ⟨gc, q14, hgc, hBc⟩ : ∃ g', vs 14 = .pointer (some ⟨g', 0, none⟩) ∧ z.on.heap.size ≤ g' ∧ Bx x3.on g' [.int .i64 g.view, .int .i64 n, .int .i64 rc, .int .i64 rs, .int .i64 rk, .string rkey, .float .f64 rx, .int .i64 rid, .slice sa al.length scap] 113 := hRR 14 (by decide)
          have q15 : vs 15 = _ := hRR 15 (by decide)
          have q16 : vs 16 = _ := hRR 16 (by decide)
          clear hRR hx
          simp only [putAll, List.take_succ_cons, List.take_zero, List.drop_succ_cons, List.drop_zero, Act.put, List.setIfInBounds_toArray, List.set_cons_zero, List.set_cons_succ, Nat.reduceAdd, Nat.zero_add]
          simp only [q0, q1, q2, q3, q4, q5, q6, q7, q8, q9, q10, q11, q12, q13, q14, q15, q16]
          clear q0 q1 q2 q3 q4 q5 q6 q7 q8 q9 q10 q11 q12 q13 q14 q15 q16 vs
        have HBc := Go.Lib.hid hBc
        clear hBc
        have hgc1 : w.heap.size ≤ gc := by have h1 := z.ext.size; have h2 := x1.ext.size; omega
        have hgcn : ¬ gc = b := by omega
        go_wp2_with fail
        go_meet
        have X3 : Ext Non w x3.on := by (repeat (first | with_reducible (first | exact Ext.refl _ _ | assumption | refine Ext.upN ?_ | refine Ext.alloc ?_ _ | refine Ext.drew ?_ | refine Ext.drewN ?_ _ | refine Ext.up1N (by first | omega | simp) ?_) | refine Ext.alloc ?_ _ | refine Ext.setCell ?_ (.inr (by first | omega | simp)) _))
        have XB : Ext (One b) x3.on (x3.on.setCell ⟨b, 3 + i * 5 + 3, none⟩ (.pointer (some ⟨gc, 0, none⟩))) := (Ext.refl _ _).set1 _
        have hgl : gc < x3.on.heap.size := HBc.out.lt
        have hx13 : x1.on.heap.size ≤ x3.on.heap.size := by have h1 := z.ext.size; have h2 := x3.ext.size; omega
        have hS3 : Sigs x3.on sa scap al := HSg.out.extN (by (repeat (first | with_reducible (first | exact Ext.refl _ _ | assumption | refine Ext.upN ?_ | refine Ext.alloc ?_ _ | refine Ext.drew ?_ | refine Ext.drewN ?_ _ | refine Ext.up1N (by first | omega | simp) ?_) | refine Ext.alloc ?_ _ | refine Ext.setCell ?_ (.inr (by first | omega | simp)) _)) : Ext Non x1.on x3.on)
        have hsb : ∀ b' o, sa = some ⟨b', o, none⟩ → w.heap.size ≤ b' ∧ b' < x3.on.heap.size := fun b' o e => by
          obtain ⟨b2, o2, e2, hb2, _⟩ := hS3.at_ 0 hal0
          rw [e] at e2
          injection e2 with e2; injection e2 with e2 _; subst e2
          exact ⟨HFr.out _ _ e, hb2⟩
        refine ⟨fun k => G k ∨ (w.heap.size ≤ k ∧ k < x3.on.heap.size), Go.Lib.hid ?_, Go.Lib.hid (fun k hk => hk.imp id (fun h => h.1)), Go.Lib.hid ((X3.ofNon (S := One b)).trans XB)⟩
        rw [HCN.out, if_pos (by first | trivial | rfl)]
        have q := ((HQ.out.extN X3).set (k := 3 + i * 5 + 3) (G' := fun k => G k ∨ (w.heap.size ≤ k ∧ k < x3.on.heap.size)) HL.out.nb (fun k h => .inl h) (.pointer (some ⟨gc, 0, none⟩)))
        refine (HL.out.extN X3).put (HP.out.extN X3) hi (show 3 < 5 by omega) _ { pt i with pc := some gc } _ rfl ⟨rfl, rfl⟩ (fun k h => .inl h) (fun h => by rcases h with h | h; exact HL.out.nb h; omega) (fun k h => by rcases h with h | h; exact (HL.out.extN X3).lt k h; exact h.2) ?_
        refine ⟨q.prop, q.prep, q.com, .inr ⟨gc, ⟨g.view, n, ⟨rc, rs, ⟨rk, rkey, rx, rid⟩⟩, al⟩, sa, scap, rfl, rfl, .inr ⟨hgc1, hgl⟩, HRo.out, ?_, hn, HBc.out.ext XB hgcn, hS3.ext XB (fun b' o e h => by have := (hsb b' o e).1; unfold One at h; omega), fun b' o e => .inr (hsb b' o e)⟩, q.done, q.f1, q.f2, q.ok1, q.ok2⟩
        have := HL.out.vw
        show I64 g.view
        unfold I64; omega
    obtain ⟨G1, HL1, HG1, HX1⟩ := hcut
    clear AGo HSg HFr HCN HCB c1 c2 s1 s0' s3 f3 n0 n1 n2 n3 n4 n5 HLF
    obtain ⟨a1, cc1, pt1, P1⟩ := HL1.out.parts
    have HP1 := Go.Lib.hid P1
    have Q1 := P1.sl i hi
    rw [putS_same] at Q1
    have HQ1 := Go.Lib.hid Q1
    have t1 : wc.cell? ⟨b, 1, none⟩ = some (.slice a1 g.mem.length cc1) := P1.c1
    have u0 : wc.cell? ⟨b, 3 + i * 5, none⟩ = some (ptV (pt1 i).pp) := P1.cs hi (show 0 < 5 by omega) rfl
    have u2 : wc.cell? ⟨b, 3 + i * 5 + 2, none⟩ = some (.map (some (pt1 i).m2)) := P1.cs hi (show 2 < 5 by omega) rfl
    have u4 : wc.cell? ⟨b, 3 + i * 5 + 4, none⟩ = some (ptV (pt1 i).pd) := P1.cs hi (show 4 < 5 by omega) rfl
    have f4 : wc.frozen? ⟨b, 3 + i * 5 + 4, none⟩ = false := P1.fz _
    have AG2 := Go.Lib.hid (slots_agree b (3 + i * 5) a1 cc1 g.mem (by omega) (pt1 i).m2 (g.sl i).com HQ1.out.ok2 G1 (pt1 i).pp (g.sl i).prop wc t1 HP1.out.ints u0 Q1.prop Q1.com)
    have HDN : Hid (doneL g.mem (g.sl i) = match (g.sl i).done with | none => if enoughB g.mem (agreeO (g.sl i).com (g.sl i).prop g.mem).length = true then (g.sl i).prop else none | some r => some r) := Go.Lib.hid rfl
    have hkr : ∃ kr', (pt1 i).pp = some kr' := by
      rcases Q1.prop with ⟨k1, k2⟩ | ⟨k', r', k1, k2, _⟩
      · have := HPR.out.1; rw [show ({ g.sl i with cert := certL g.mem g.view n (g.sl i) } : Sl).prop = (g.sl i).prop from rfl, this] at k2; cases k2
      · exact ⟨k', k1⟩
    obtain ⟨kr', hkr⟩ := hkr
    have u0' : wc.cell? ⟨b, 3 + i * 5, none⟩ = some (.pointer (some ⟨kr', 0, none⟩)) := by rw [u0, hkr]; rfl
    have HKR := Go.Lib.hid hkr
    have hdn := Q1.done
    clear P1 Q1 u0 hkr
    rcases hdn with ⟨d1, d2⟩ | ⟨kd, rd, d1, d2, -⟩
    · have u4' : wc.cell? ⟨b, 3 + i * 5 + 4, none⟩ = some (.pointer none) := by rw [u4, d1]; rfl
      have d2' : (g.sl i).done = none := d2
      have HD2 := Go.Lib.hid d2'
      clear u4 d1 d2 d2'
      go_wp2_with fail
      refine AG2.out.mono ?_
      rintro e _ ⟨sa2, scap2, rfl, hS, hx, hf⟩
      obtain ⟨x5, rfl⟩ := hx.ew
      clear hS hf hx AG2
      generalize hal2 : (agreeO (g.sl i).com (g.sl i).prop g.mem).length = al2 at *
      clear hal2
      go_wp2_with fail
      refine (slots_enough b a1 cc1 g.mem (by omega) sa2 al2 scap2 _ (by simp only [EW.cellN, t1, Option.some_or])).mono ?_
      rintro e _ ⟨rfl, rfl⟩
      cases he2 : enoughB g.mem al2
      · have HF : Hid (lookS g.mem g.view n (g.sl i) = { g.sl i with cert := certL g.mem g.view n (g.sl i) }) := Go.Lib.hid (by rw [HE.out, HDN.out, HD2.out, he2]; simp only [Bool.false_eq_true, if_false]; rw [← HD2.out])
        clear he2
        go_wp2
        go_returns
        exact ⟨rfl, G1, by rw [HF.out]; exact HL1.out.extN (by (repeat (first | with_reducible (first | exact Ext.refl _ _ | assumption | refine Ext.upN ?_ | refine Ext.alloc ?_ _ | refine Ext.drew ?_ | refine Ext.drewN ?_ _ | refine Ext.up1N (by first | omega | simp) ?_) | refine Ext.alloc ?_ _ | refine Ext.setCell ?_ (.inr (by first | omega | simp)) _))), HG1.out, HX1.out.trans (Ext.ofNon (by (repeat (first | with_reducible (first | exact Ext.refl _ _ | assumption | refine Ext.upN ?_ | refine Ext.alloc ?_ _ | refine Ext.drew ?_ | refine Ext.drewN ?_ _ | refine Ext.up1N (by first | omega | simp) ?_) | refine Ext.alloc ?_ _ | refine Ext.setCell ?_ (.inr (by first | omega | simp)) _))))⟩
      · have HF : Hid (lookS g.mem g.view n (g.sl i) = { g.sl i with cert := certL g.mem g.view n (g.sl i), done := (g.sl i).prop }) := Go.Lib.hid (by rw [HE.out, HDN.out, HD2.out, he2]; rfl)
        clear he2
        go_wp2
        go_returns
        have X5 : Ext Non wc x5.on := by (repeat (first | with_reducible (first | exact Ext.refl _ _ | assumption | refine Ext.upN ?_ | refine Ext.alloc ?_ _ | refine Ext.drew ?_ | refine Ext.drewN ?_ _ | refine Ext.up1N (by first | omega | simp) ?_) | refine Ext.alloc ?_ _ | refine Ext.setCell ?_ (.inr (by first | omega | simp)) _))
        have e : putS g i { g.sl i with cert := certL g.mem g.view n (g.sl i), done := (g.sl i).prop } = putS (putS g i { g.sl i with cert := certL g.mem g.view n (g.sl i) }) i { g.sl i with cert := certL g.mem g.view n (g.sl i), done := (g.sl i).prop } := (putS_put _ _ _ _).symm
        have q := ((HQ1.out.extN X5).set (k := 3 + i * 5 + 4) (G' := G1) HL1.out.nb (fun k h => h) (.pointer (some ⟨kr', 0, none⟩)))
        refine ⟨rfl, G1, ?_, HG1.out, HX1.out.trans ((X5.ofNon (S := One b)).trans ((Ext.refl _ _).set1 _))⟩
        rw [HF.out, e]
        exact (HL1.out.extN X5).put (HP1.out.extN X5) hi (show 4 < 5 by omega) _ { pt1 i with pd := (pt1 i).pp } _ (by simp [Pt.row, ptV, HKR.out]) ⟨rfl, rfl⟩ (fun k h => h) HL1.out.nb (HL1.out.extN X5).lt ⟨q.prop, q.prep, q.com, q.cert, q.prop, q.f1, q.f2, q.ok1, q.ok2⟩
    · have u4' : wc.cell? ⟨b, 3 + i * 5 + 4, none⟩ = some (.pointer (some ⟨kd, 0, none⟩)) := by rw [u4, d1]; rfl
      have d2' : (g.sl i).done = some rd := d2
      have HF : Hid (lookS g.mem g.view n (g.sl i) = { g.sl i with cert := certL g.mem g.view n (g.sl i) }) := Go.Lib.hid (by rw [HE.out, HDN.out, d2']; simp only; rw [← d2'])
      clear u4 d1 d2 d2' AG2
      go_wp2
      go_returns
      exact ⟨rfl, G1, by rw [HF.out]; exact HL1.out.extN (by (repeat (first | with_reducible (first | exact Ext.refl _ _ | assumption | refine Ext.upN ?_ | refine Ext.alloc ?_ _ | refine Ext.drew ?_ | refine Ext.drewN ?_ _ | refine Ext.up1N (by first | omega | simp) ?_) | refine Ext.alloc ?_ _ | refine Ext.setCell ?_ (.inr (by first | omega | simp)) _))), HG1.out, HX1.out.trans (Ext.ofNon (by (repeat (first | with_reducible (first | exact Ext.refl _ _ | assumption | refine Ext.upN ?_ | refine Ext.alloc ?_ _ | refine Ext.drew ?_ | refine Ext.drewN ?_ _ | refine Ext.up1N (by first | omega | simp) ?_) | refine Ext.alloc ?_ _ | refine Ext.setCell ?_ (.inr (by first | omega | simp)) _))))⟩
end Go.Proofs.YtflpkoafebjfdaaGreat
