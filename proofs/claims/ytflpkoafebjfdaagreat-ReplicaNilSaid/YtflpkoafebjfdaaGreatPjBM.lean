/- Joined texts: Rep6, Rep13, Rep14, RepI4, RepI5, RepI6, Rep21. What each proves stands at its head; no conditions beside those in its theorems. -/
import Derived.Laws.CopyOwn
import Derived.Deep.OwnRows
import Derived.Deep.RegionLaw
import Derived.Test.YtflpkoafebjfdaaGreatProg
import Derived.Shelf.SlIter.Nil
import Derived.Shelf.SortM.Plain
import Derived.Shelf.SortM.SortNone
import Derived.Ground.GgzProg
import Derived.Ground.SlgmProg
import Derived.Test.YtflpkoafebjfdaaGreatPjBK
import Derived.Test.YtflpkoafebjfdaaGreatPjBL
/- Contracts of layer 18 (replica): room. -/
namespace Go.Proofs.YtflpkoafebjfdaaGreat
open Go.RowKit Go.Lib F64
set_option linter.unusedSimpArgs false
set_option linter.unusedVariables false
attribute [local go_sem] run_store_float
attribute [local go_sem low] EW.cellN EW.frozN alloc_cell_or alloc_froz_or
attribute [local go_sem] relAt relUpon
theorem isProp_none {g : Rp} {q : Req} {n : Nat} (h : proposedO g.log (firstR g + n) = none) : isProp g q n = false := by unfold isProp; rw [h]
theorem isProp_some {g : Rp} {q p : Req} {n : Nat} (h : proposedO g.log (firstR g + n) = some p) : isProp g q n = sameT p q := by unfold isProp; rw [h]
theorem any4 {p : Nat → Bool} (h : ∀ j, j < 4 → p j = false) : (List.range 4).any p = false := by
  rw [List.any_eq_false]
  intro x hx
  rw [h x (List.mem_range.1 hx)]; simp
theorem any4_of {p : Nat → Bool} {j : Nat} (hj : j < 4) (h : p j = true) : (List.range 4).any p = true := List.any_eq_true.2 ⟨j, List.mem_range.2 hj, h⟩
section
variable {b : Nat} {col : Nat → Nat} {A : RA} {g : Rp}
set_option maxHeartbeats 4000000 in
set_option maxRecDepth 100000 in
theorem rep_room (c s k : Int) (key : ByteArray) (x : Nat) (id' : Int) (hr : ReqOk ⟨c, s, ⟨k, key, x, id'⟩⟩) (hep : 0 ≤ g.log.ep ∧ g.log.ep ≤ 60) (w : World) (h : RepW w b col A g) : Calls Tryz.prog 268 #[.pointer (some ⟨b, 0, none⟩), .agg #[.int .i64 c, .int .i64 s, .int .i64 k, .string key, .float .f64 x, .int .i64 id']] w fun e w' =>
    e = .returned (.bool (roomB g ⟨c, s, ⟨k, key, x, id'⟩⟩)) ∧ Ext Non w w' := by
  have HQ := Go.Lib.hid hr; have HEP := Go.Lib.hid hep
  have DR : Hid (roomB g ⟨c, s, ⟨k, key, x, id'⟩⟩ = (!((List.range 4).any (isProp g ⟨c, s, ⟨k, key, x, id'⟩⟩)) && decide (g.next < firstR g + 4))) := Go.Lib.hid rfl
  have DF : Hid (firstR g = g.log.ep * 4 + 1) := Go.Lib.hid rfl
  have X0 := Go.Lib.hid ((Ext.refl Non w).alloc (.cells #[.int .i64 c, .int .i64 s, .int .i64 k, .string key, .float .f64 x, .int .i64 id'] 37))
  obtain ⟨kq, hkq⟩ : ∃ kq, kq = w.heap.size := ⟨_, rfl⟩
  have B0 := Go.Lib.hid (Bx.newAt w [.int .i64 c, .int .i64 s, .int .i64 k, .string key, .float .f64 x, .int .i64 id'] 37 kq hkq)
  have HR := Go.Lib.hid (h.extN X0.out)
  have hfb : 1 ≤ firstR g ∧ firstR g ≤ 241 := by rw [DF.out]; omega
  clear h hr hep
  go_enter Tryz.func268, Tryz.ntmps268
  go_upto_region 1 with fail
  rw [← hkq]
  clear hkq
  generalize World.alloc _ _ = W0 at *
  obtain ⟨q0, q1, q2⟩ : _ ∧ _ ∧ _ := ⟨HR.out.t0 id, HR.out.tlog id, HR.out.tnext id⟩
  obtain ⟨c0, c1, c2, c3, c4, c5⟩ := B0.out.six
  obtain ⟨G, hL, -⟩ := (HR.out.log id).ex
  have HL := Go.Lib.hid hL
  clear hL
  have HF : Hid (∀ w', Ext Non W0 w' → Calls Tryz.prog 91 #[.pointer (some ⟨A.bt, 0, none⟩)] w' fun e w'' => e = .returned (.int .i64 (firstR g)) ∧ w' = w'') := Go.Lib.hid (fun w' x => rep_first w' (HR.out.extN x) HEP.out)
  have HPr := Go.Lib.hid (fun n (hn : I64 n) w' (x : Ext Non W0 w') => log_Proposed A.bl G g.log n hn w' (HL.out.extN x))
  have HPO := Go.Lib.hid (fun n q (hq : proposedO g.log n = some q) => HL.out.propOk hq)
  have HI0 := Go.Lib.hid (fun n => isProp_none (g := g) (q := ⟨c, s, ⟨k, key, x, id'⟩⟩) (n := n)); have HI1 := Go.Lib.hid (fun n p => isProp_some (g := g) (q := ⟨c, s, ⟨k, key, x, id'⟩⟩) (p := p) (n := n))
  generalize firstR g = f at *
  obtain ⟨en, hen⟩ : ∃ en, en = f + 4 := ⟨_, rfl⟩
  have hwe : IntKind.i64.wrap (f + 4) = en := by rw [← hen]; exact IntWalk.i64_in _ (by omega)
  have HEn := Go.Lib.hid hen
  rw [← hen] at DR
  clear hen
  go_wp2_with fail
  refine (HF.out _ (by (repeat (first | with_reducible (first | exact Ext.refl _ _ | assumption | refine Ext.upN ?_ | refine Ext.alloc ?_ _ | refine Ext.drew ?_ | refine Ext.drewN ?_ _ | refine Ext.up1N (by first | omega | simp) ?_) | refine Ext.alloc ?_ _ | refine Ext.setCell ?_ (.inr (by first | omega | simp)) _)))).mono ?_
  rintro e w1 ⟨rfl, rfl⟩
  go_wp2_with fail
  refine (HF.out _ (by (repeat (first | with_reducible (first | exact Ext.refl _ _ | assumption | refine Ext.upN ?_ | refine Ext.alloc ?_ _ | refine Ext.drew ?_ | refine Ext.drewN ?_ _ | refine Ext.up1N (by first | omega | simp) ?_) | refine Ext.alloc ?_ _ | refine Ext.setCell ?_ (.inr (by first | omega | simp)) _)))).mono ?_
  rintro e w1 ⟨rfl, rfl⟩
  go_wp2_with fail
  have hfe : f ≤ en ∧ en ≤ 300 ∧ 0 ≤ f := by have := HEn.out; omega
  clear hwe
  go_loopw [6] (fun iv wr => ∃ (n : Int) (z : EW Non W0), f ≤ n ∧ n ≤ en ∧ iv = .int .i64 n ∧ wr = z.on ∧ Hid (∀ j : Nat, (j : Int) < n - f → isProp g ⟨c, s, ⟨k, key, x, id'⟩⟩ j = false)) (fun iv _ => (en - intOf iv).toNat)
  case atStart => exact ⟨f, ⟨_, by (repeat (first | with_reducible (first | exact Ext.refl _ _ | assumption | refine Ext.upN ?_ | refine Ext.alloc ?_ _ | refine Ext.drew ?_ | refine Ext.drewN ?_ _ | refine Ext.up1N (by first | omega | simp) ?_) | refine Ext.alloc ?_ _ | refine Ext.setCell ?_ (.inr (by first | omega | simp)) _))⟩, Int.le_refl _, hfe.1, rfl, rfl, Go.Lib.hid (fun j hj => by omega)⟩
  case round =>
    obtain ⟨n, z, hn1, hn2, rfl, rfl, HJ⟩ := hrel
    by_cases hlt : n < en
    · have hj : n = f + ((n - f).toNat : Int) := by omega
      have hj4 : (n - f).toNat < 4 := by have := HEn.out; omega
      have hI0 := HI0.out (n - f).toNat; have hI1 := HI1.out (n - f).toNat
      rw [← hj] at hI0 hI1
      have HI0' := Go.Lib.hid hI0; have HI1' := Go.Lib.hid hI1
      have HNX : Hid (isProp g ⟨c, s, ⟨k, key, x, id'⟩⟩ (n - f).toNat = false → ∀ j : Nat, (j : Int) < n + 1 - f → isProp g ⟨c, s, ⟨k, key, x, id'⟩⟩ j = false) := Go.Lib.hid (fun h j hj2 => by
        by_cases e : j = (n - f).toNat
        · rw [e]; exact h
        · exact HJ.out j (by omega))
      have HJ4 := Go.Lib.hid hj4
      have hwn : IntKind.i64.wrap (n + 1) = n + 1 := IntWalk.i64_in _ (by omega)
      clear hj hj4 hI0 hI1
      go_wp2_with fail
      refine Calls.ew (HPr.out n (by unfold I64; omega) _ (by (repeat (first | with_reducible (first | exact Ext.refl _ _ | assumption | refine Ext.upN ?_ | refine Ext.alloc ?_ _ | refine Ext.drew ?_ | refine Ext.drewN ?_ _ | refine Ext.up1N (by first | omega | simp) ?_) | refine Ext.alloc ?_ _ | refine Ext.setCell ?_ (.inr (by first | omega | simp)) _)))) ?_
      rintro e z1 rfl
      cases hp : proposedO g.log n with
      | none =>
        have HP := Go.Lib.hid (HI0'.out hp)
        clear hp
        unfold toldV reqV
        go_wp2_with fail
        go_roundw
        case rel => exact ⟨n + 1, ⟨_, by (repeat (first | with_reducible (first | exact Ext.refl _ _ | assumption | refine Ext.upN ?_ | refine Ext.alloc ?_ _ | refine Ext.drew ?_ | refine Ext.drewN ?_ _ | refine Ext.up1N (by first | omega | simp) ?_) | refine Ext.alloc ?_ _ | refine Ext.setCell ?_ (.inr (by first | omega | simp)) _))⟩, by omega, by omega, by go_num, rfl, Go.Lib.hid (HNX.out HP.out)⟩
        case measure => simp [intOf]; omega
      | some p =>
        have HP := Go.Lib.hid (HI1'.out p hp); have HPk := Go.Lib.hid (HPO.out _ _ hp)
        clear hp
        obtain ⟨pc, ps, ⟨pk, pkey, px, pid⟩⟩ := p
        unfold toldV reqV
        go_wp2_with fail
        refine Calls.ew (deeds_Same pc ps pk pkey px pid c s k key x id' HPk.out HQ.out _) ?_
        rintro e z2 rfl
        cases hs : sameT ⟨pc, ps, ⟨pk, pkey, px, pid⟩⟩ ⟨c, s, ⟨k, key, x, id'⟩⟩
        · rw [hs] at HP
          clear hs
          go_wp2_with fail
          go_roundw
          case rel => exact ⟨n + 1, ⟨_, by (repeat (first | with_reducible (first | exact Ext.refl _ _ | assumption | refine Ext.upN ?_ | refine Ext.alloc ?_ _ | refine Ext.drew ?_ | refine Ext.drewN ?_ _ | refine Ext.up1N (by first | omega | simp) ?_) | refine Ext.alloc ?_ _ | refine Ext.setCell ?_ (.inr (by first | omega | simp)) _))⟩, by omega, by omega, by go_num, rfl, Go.Lib.hid (HNX.out HP.out)⟩
          case measure => simp [intOf]; omega
        · rw [hs] at HP
          have HZ := Go.Lib.hid (any4_of HJ4.out HP.out)
          clear hs
          go_wp2
          go_ret
          exact ⟨ret_bool (by rw [DR.out, HZ.out]; rfl), X0.out.trans (by (repeat (first | with_reducible (first | exact Ext.refl _ _ | assumption | refine Ext.upN ?_ | refine Ext.alloc ?_ _ | refine Ext.drew ?_ | refine Ext.drewN ?_ _ | refine Ext.up1N (by first | omega | simp) ?_) | refine Ext.alloc ?_ _ | refine Ext.setCell ?_ (.inr (by first | omega | simp)) _)))⟩
    · have hne : n = en := by omega
      subst hne
      have HZ := Go.Lib.hid (any4 (p := isProp g ⟨c, s, ⟨k, key, x, id'⟩⟩) (fun j hj => HJ.out j (by have := HEn.out; omega)))
      go_wp2
      go_ret
      exact ⟨ret_bool (by rw [DR.out, HZ.out]; rfl), X0.out.trans (by (repeat (first | with_reducible (first | exact Ext.refl _ _ | assumption | refine Ext.upN ?_ | refine Ext.alloc ?_ _ | refine Ext.drew ?_ | refine Ext.drewN ?_ _ | refine Ext.up1N (by first | omega | simp) ?_) | refine Ext.alloc ?_ _ | refine Ext.setCell ?_ (.inr (by first | omega | simp)) _)))⟩
end
end Go.Proofs.YtflpkoafebjfdaaGreat

/- Contracts of layer 18 (replica): what is asked of a replica; here. -/
namespace Go.Proofs.YtflpkoafebjfdaaGreat
open Go.RowKit Go.Lib F64
set_option linter.unusedSimpArgs false
set_option linter.unusedVariables false
attribute [local go_sem] run_store_float
attribute [local go_sem low] EW.cellN EW.frozN alloc_cell_or alloc_froz_or
attribute [local go_sem] relAt relUpon
section
variable {b : Nat} {col : Nat → Nat} {A : RA} {g : Rp}
set_option maxHeartbeats 400000
theorem rep_Left (w : World) (h : RepW w b col A g) : Calls Tryz.prog 17 #[.pointer (some ⟨b, 0, none⟩)] w fun e w' => e = .returned (.int .i64 g.left) ∧ w = w' := by
  have q0 := h.rleft id
  clear h
  go_enter Tryz.func17, Tryz.ntmps17
  go_wp2
  go_returns
  exact ⟨rfl, rfl⟩
theorem rep_Active (w : World) (h : RepW w b col A g) : Calls Tryz.prog 30 #[.pointer (some ⟨b, 0, none⟩)] w fun e w' => e = .returned (.bool g.active) ∧ w = w' := by
  have q0 := h.t0 id
  have q1 := h.tact id
  clear h
  go_enter Tryz.func30, Tryz.ntmps30
  go_wp2
  go_returns
  exact ⟨rfl, rfl⟩
end
end Go.Proofs.YtflpkoafebjfdaaGreat

/- Contracts of layer 18 (replica): ahead. -/
namespace Go.Proofs.YtflpkoafebjfdaaGreat
open Go.RowKit Go.Lib F64
set_option linter.unusedSimpArgs false
set_option linter.unusedVariables false
attribute [local go_sem] run_store_float
attribute [local go_sem low] EW.cellN EW.frozN alloc_cell_or alloc_froz_or
attribute [local go_sem] relAt relUpon
theorem unwanted_und {full : List Oper} {o : Oper} {a : Act} {j d : Nat} {b : Bool} (hg : o.guard = some (j, b)) (hj : (full[j]?).bind (·.dst) = some d) (hv : a.tmps[d]?.getD undef = undef) : Region.wanted o (yielded full.toArray a.tmps) = false := by
  have hn : ∀ c : Bool, a.tmps[d]? ≠ some (.bool c) := fun c e => by rw [e] at hv; cases hv
  have hy : yielded full.toArray a.tmps j = none := by
    unfold yielded
    have : ((full.toArray)[j]?).bind (·.dst) = some d := by simpa using hj
    rw [this]
    cases h : a.tmps[d]? with
    | none => simp [h]
    | some u => cases u <;> simp [h] <;> exact (hn _ h).elim
  unfold Region.wanted
  rw [hg]
  show (yielded full.toArray a.tmps j == some b) = false
  rw [hy]
  rfl
section
variable {b : Nat} {col : Nat → Nat} {A : RA} {g : Rp}
end
end Go.Proofs.YtflpkoafebjfdaaGreat

/- Layer 18: each step of a replica keeps what holds of it, on: doing, voting, going over. No program in sight. -/
namespace Go.Proofs.YtflpkoafebjfdaaGreat
open F64
set_option linter.unusedVariables false
set_option linter.unusedSimpArgs false

theorem committed_asked {g : Lo} (h : LogI g) {n : Int} {q : Req} (hc : committedO g n = some q) : askedB q = true := by
  unfold committedO at hc
  split at hc
  · cases hc
  · rename_i i _; exact (h.sl i).dn q hc
theorem InvB.timer {g : Rp} (h : InvB g) {t : Tm} (ht : t.fails ≤ 6) : InvB { g with timer := t } := { h with tm := ht }
theorem RInv.timer {g : Rp} (h : RInv g) {t : Tm} (ht : t.fails ≤ 6) : RInv { g with timer := t } := ⟨h.b.timer ht, h.say, h.out⟩
theorem RInv.calm {g : Rp} (h : RInv g) : RInv (calmG g) := h.timer (Nat.zero_le _)
theorem RInv.restart {g : Rp} (h : RInv g) : RInv (restartG g) := by
  refine h.timer ?_
  split <;> exact h.b.tm
theorem zeroV_cl : zeroV.ok ∧ 0 ≤ zeroV.req.client ∧ zeroV.req.client ≤ 8 := ⟨zeroV_ok, by decide, by decide⟩
theorem InvB.wait {g : Rp} (h : InvB g) (c : Nat) {v : Vt} (hv : v.ok ∧ 0 ≤ v.req.client ∧ v.req.client ≤ 8) : InvB (putWait g c v) :=
  { h with wt := fun j => by show (if j = c then v else g.waits j).ok ∧ 0 ≤ (if j = c then v else g.waits j).req.client ∧ (if j = c then v else g.waits j).req.client ≤ 8; split; exact hv; exact h.wt j }
theorem RInv.wait {g : Rp} (h : RInv g) (c : Nat) {v : Vt} (hv : v.ok ∧ 0 ≤ v.req.client ∧ v.req.client ≤ 8) : RInv (putWait g c v) := ⟨h.b.wait c hv, h.say, h.out⟩
theorem RInv.perform {g : Rp} (h : RInv g) {q : Req} (ha : askedB q = true) (hx : q.op.real < 18446744073709551616) (hf : fullB g.book = false) : RInv (performG g q) ∧ (performG g q).book.done = g.book.done + 1 ∧ (performG g q).book.epoch = g.book.epoch := by
  obtain ⟨d1, d2, d3⟩ := do_keeps (asked_do ha hf)
  have hi := (inv_do h.b.bk q hx).1
  have hB : InvB { g with book := doL g.book q, hist := g.hist ++ [⟨(doL g.book q).done, q⟩] } :=
    { h.b with bk := hi, ep := by rw [d2]; exact h.b.ep, mem := by rw [d3]; exact h.b.mem, hs := by have := h.b.hs; simp only [List.length_append, List.length_singleton, d1]; omega }
  have hM : ∀ g2 : Rp, InvB g2 → g2.says = g.says → g2.log = g.log → g2.id = g.id → g2.left = g.left → g2.active = g.active → g2.next = g.next → g2.book = doL g.book q → g2.out.length ≤ g.out.length + 1 → RInv g2 := by
    intro g2 hb e1 e2 e3 e4 e5 e6 e7 e8
    have hs : sayM g2 = sayM g := by unfold sayM actI firstR; rw [e2, e3, e4, e5, e6]
    have ho : outM g2 = outM g + 10 := by unfold outM; rw [hs, e2, e7, d1]; omega
    exact ⟨hb, by rw [hs, e1]; exact h.say, by rw [ho]; have := h.out; omega⟩
  have hS : ∀ t m, InvB (sendG { g with book := doL g.book q, hist := g.hist ++ [⟨(doL g.book q).done, q⟩] } t m) := fun t m => { hB with }
  unfold performG
  simp only
  split
  · exact ⟨hM _ hB rfl rfl rfl rfl rfl rfl rfl (Nat.le_add_right _ _), d1, d2⟩
  · have hl : ∀ (a : List Pk) (x : Pk), (a ++ [x]).length ≤ a.length + 1 := fun a x => by simp
    split
    · exact ⟨hM _ ((hS _ _).wait _ zeroV_cl) rfl rfl rfl rfl rfl rfl rfl (hl _ _), d1, d2⟩
    · exact ⟨hM _ (hS _ _) rfl rfl rfl rfl rfl rfl rfl (hl _ _), d1, d2⟩
/-- Requests in a log have reals of 64 bits. -/
def RealL (g : Lo) : Prop := ∀ n q, committedO g n = some q → q.op.real < 18446744073709551616
theorem perform_log (g : Rp) (q : Req) : (performG g q).log = g.log := by unfold performG; simp only; (repeat' split) <;> rfl
theorem RInv.doLoop : ∀ (k : Nat) {g : Rp}, RInv g → RealL g.log → RInv (doLoop k g)
  | 0, _, h, _ => h
  | k + 1, g, h, hr => by
    unfold Go.Proofs.YtflpkoafebjfdaaGreat.doLoop
    split
    · exact h
    · rename_i hf
      split
      · exact h
      · rename_i q hq
        have := (h.perform (committed_asked h.b.lg hq) (hr _ q hq) (by simpa using hf)).1
        exact RInv.doLoop k this (by rw [perform_log]; exact hr)
theorem RInv.doneG {g0 g : Rp} (h : RInv g) : RInv (doneG g0 g) := by
  unfold Go.Proofs.YtflpkoafebjfdaaGreat.doneG
  split
  · exact h.calm.restart
  · exact h
theorem tlAdd_ep (t : Tl) (id : Int) (x : ByteArray) (n : List Int) (s : List Sg) : (tlAdd t id x n s).ep = t.ep ∧ (tlAdd t id x n s).mem = t.mem := by unfold tlAdd tlPut; split <;> exact ⟨rfl, rfl⟩
theorem RInv.voteIf {g : Rp} (h : RInv g) : RInv (voteIf g) := by
  unfold Go.Proofs.YtflpkoafebjfdaaGreat.voteIf
  split
  · unfold voteG
    split
    · split
      · rename_i hs
        have h2 := h.sign.sign
        have hlt : sayM (signG (signG g)) = sayM g + 8 ∧ outM (signG (signG g)) = outM g + 80 ∧ (signG (signG g)).says = g.says ∧ (signG (signG g)).out = g.out := by
          rcases sign_cases g with ⟨-, e, -, -⟩ | ⟨e, -⟩
          · rcases sign_cases (signG g) with ⟨-, e2, -, -⟩ | ⟨e2, -⟩
            · rw [e2, e]
              have : sayM { { g with left := g.left - 1 } with left := { g with left := g.left - 1 }.left - 1 } = sayM g + 8 := by
                unfold sayM
                show 4 * (64 - (g.left - 1 - 1)) + 12 * g.log.view + ownN g.log g.id + actI g = _
                omega
              refine ⟨this, ?_, rfl, rfl⟩
              unfold outM
              rw [this]
              show 10000 * g.log.ep + 10 * (sayM g + 8) + 10 * g.book.done = _
              omega
            · rw [e2] at hs; exact absurd hs.2 (by simp)
          · rw [e] at hs; exact absurd hs.1 (by simp)
        obtain ⟨s1, s2, s3, s4⟩ := hlt
        generalize signG (signG g) = g2 at *
        have hb : InvB { g2 with tally := tlAdd g2.tally g.id (voteText g) (voteNext g) (voteSigs g), voted := true } :=
          { h2.b with tep := by rw [(tlAdd_ep _ _ _ _ _).1]; exact h2.b.tep, tmem := by rw [(tlAdd_ep _ _ _ _ _).2]; exact h2.b.tmem }
        exact RInv.said hb _ (by show (g2.says.length : Int) + 1 ≤ sayM g2; rw [s1, s3]; have := h.say; omega) (by show (g2.out.length : Int) + 10 ≤ outM g2; rw [s2, s4]; have := h.out; omega)
      · exact h.sign.sign
    · exact ⟨{ h.b with }, h.say, h.out⟩
  · exact h
theorem valid_facts {ep : Int} {mem : List Int} {l : Lk} (h : validE ep mem l = 0) : confE l.ep l.mem = 0 ∧ l.ep = ep + 1 ∧ provesB ep mem (confS l.ep l.mem) l.sigs = true ∧ confB ep mem = true := by
  unfold validE at h
  split at h
  · rename_i hc
    split at h
    · rename_i h1
      split at h
      · rename_i h2
        split at h
        · rename_i h3; exact ⟨h1, by omega, h3, hc⟩
        · cases h
      · cases h
    · cases h
  · cases h
theorem confE_conf {ep : Int} {mem : List Int} (h : confE ep mem = 0) : confB ep mem = true := by
  unfold confE at h
  split at h
  · assumption
  · cases h
theorem proves_len {ep : Int} {mem : List Int} {t : ByteArray} {l : List Sg} (h : provesB ep mem t l = true) : l.length ≤ 16 := by
  unfold provesB at h
  simp only [Bool.and_eq_true, decide_eq_true_eq] at h
  exact h.1.1.2
theorem TkI.grow {t : Tk} (h : TkI t) {l : Lk} (hl : t.confs.length ≤ 60) (he : l.ep = t.confs.length) (hc : confB l.ep l.mem = true) (hs : l.sigs.length ≤ 16) : TkI (growK t l) where
  len := by unfold growK; simp [h.len]
  le := by unfold growK; simp; omega
  ok := fun i hi => by
    unfold growK at hi ⊢
    simp only [List.length_append, List.length_singleton] at hi
    by_cases e : i < t.confs.length
    · simp only [List.getElem_append_left e]; exact h.ok i e
    · have : i = t.confs.length := by omega
      subst this
      simp [he]
      rw [← he]; exact hc
  sg := fun s hm => by
    unfold growK at hm
    rcases List.mem_append.1 hm with hm | hm
    · exact h.sg s hm
    · have : s = l.sigs := by simpa using hm
      rw [this]; exact hs
theorem TkI.last {t : Tk} (h : TkI t) : (lastK t).1 = t.confs.length - 1 ∧ confB (lastK t).1 (lastK t).2 = true := by
  have hl := h.len
  have hi : t.confs.length - 1 < t.confs.length := by omega
  unfold lastK
  rw [cfAt_get hi]
  have := h.ok _ hi
  exact ⟨by rw [this.1]; omega, this.2⟩
theorem TkI.add {t : Tk} (h : TkI t) {l : Lk} (he : addKE t l = 0) : TkI (growK t l) ∧ l.ep = t.confs.length := by
  obtain ⟨v1, v2, v3, v4⟩ := valid_facts he
  obtain ⟨l1, l2⟩ := h.last
  have hl := h.len
  have hc := confE_conf v1
  have h60 := (conf_ep hc).2
  have hep : l.ep = t.confs.length := by omega
  exact ⟨h.grow (by omega) hep hc (proves_len v3), hep⟩
end Go.Proofs.YtflpkoafebjfdaaGreat

/- Layer 18: each step of a replica keeps what holds of it, on: proposing, entering, leaving views; messages and ticks. No program in sight. -/
namespace Go.Proofs.YtflpkoafebjfdaaGreat
open F64
set_option linter.unusedVariables false
set_option linter.unusedSimpArgs false

/-- The log alone, with as many own commits, in the same view. -/
theorem RInv.logged {g : Rp} (h : RInv g) {lg : Lo} (hi : LogI lg) (he : lg.ep = g.log.ep) (hm : lg.mem = g.log.mem) (hv : lg.view = g.log.view) (ho : ownN g.log g.id ≤ ownN lg g.id) : RInv { g with log := lg } := by
  have hs : sayM g ≤ sayM { g with log := lg } := by
    unfold sayM
    rw [act_log g he]
    simp only [hv]
    omega
  refine ⟨h.b.log hi he hm, Int.le_trans h.say hs, Int.le_trans h.out ?_⟩
  unfold outM
  simp only [he]
  omega
theorem RInv.propose {g : Rp} (h : RInv g) (n : Int) (r : Req) : RInv { g with log := proposeG g.log n r } :=
  h.logged (h.b.lg.propose n r) (propose_ep _ _ _) (propose_mem _ _ _) (propose_view _ _ _) (by rw [own_propose]; exact Int.le_refl _)
theorem RInv.prepare {g : Rp} (h : RInv g) (f n : Int) (r : Req) (b : Int) (t : ByteArray) : RInv { g with log := prepareG g.log f n r b t } :=
  h.logged (h.b.lg.prepare f n r b t) (prepare_ep _ _ _ _ _ _) (prepare_mem _ _ _ _ _ _) (prepare_view _ _ _ _ _ _) (by rw [own_prepare]; exact Int.le_refl _)
theorem RInv.commit {g : Rp} (h : RInv g) (f n : Int) (r : Req) : RInv { g with log := commitG g.log f n r } :=
  h.logged (h.b.lg.commit f n r) (commit_ep _ _ _ _) (commit_mem _ _ _ _) (commit_view _ _ _ _) (own_commit g.log f n r g.id).1
theorem RInv.propHead {g : Rp} (h : RInv g) (ha : g.active = true) (hn : g.next < firstR g + 4) (slot : Int) (q : Req) (m : Ms) : RInv (sayG { g with next := g.next + 1, log := proposeG g.log slot q } m) := by
  have hb : InvB { g with next := g.next + 1, log := proposeG g.log slot q } := by
    have h2 := h.b.log (h.b.lg.propose slot q) (propose_ep _ _ _) (propose_mem _ _ _)
    have hx := h.b.nx
    refine { h2 with nx := ?_ }
    show (proposeG g.log slot q).ep * 4 + 1 ≤ g.next + 1 ∧ g.next + 1 ≤ (proposeG g.log slot q).ep * 4 + 1 + 4
    rw [propose_ep]
    unfold firstR at hx hn
    omega
  have hsM : sayM { g with next := g.next + 1, log := proposeG g.log slot q } = sayM g + 1 := by
    unfold sayM actI firstR
    simp only [propose_ep, propose_view, own_propose, ha, if_true]
    omega
  have hoM : outM { g with next := g.next + 1, log := proposeG g.log slot q } = outM g + 10 := by
    unfold outM
    rw [hsM]
    simp only [propose_ep]
    omega
  exact RInv.said hb m (by rw [hsM]; have := h.say; show (g.says.length : Int) + 1 ≤ _; omega) (by rw [hoM]; have := h.out; show (g.out.length : Int) + 10 ≤ _; omega)
theorem RInv.votes {g : Rp} (h : RInv g) (id : Int) (x : ByteArray) (n : List Int) (s : List Sg) : RInv { g with tally := tlAdd g.tally id x n s } :=
  ⟨{ h.b with tep := by rw [(tlAdd_ep _ _ _ _ _).1]; exact h.b.tep, tmem := by rw [(tlAdd_ep _ _ _ _ _).2]; exact h.b.tmem }, h.say, h.out⟩
theorem InvB.answer {g : Rp} (h : InvB g) (hs : (g.says.length : Int) ≤ sayM g) : RInv (answerG g) := ⟨{ h with }, hs, by show ((0 : Nat) : Int) ≤ _; have := h.outb; exact this.1⟩
end Go.Proofs.YtflpkoafebjfdaaGreat

/- Layer 18: what holds behind an answer. No program in sight. -/
namespace Go.Proofs.YtflpkoafebjfdaaGreat
open F64
theorem RInv.answered {g : Rp} (h : RInv g) : RInv (answerG g) := h.b.answer h.say
end Go.Proofs.YtflpkoafebjfdaaGreat

/- Contracts of layer 18 (replica): what nobody answers. -/
namespace Go.Proofs.YtflpkoafebjfdaaGreat
open Go.RowKit Go.Lib F64
set_option linter.unusedSimpArgs false
set_option linter.unusedVariables false
attribute [local go_sem] run_store_float
attribute [local go_sem low] EW.cellN EW.frozN alloc_cell_or alloc_froz_or
attribute [local go_sem] relAt relUpon
set_option maxHeartbeats 400000
theorem nil_ID (w : World) : Calls Tryz.prog 38 #[.pointer none] w fun e w' => e = .returned (.int .i64 0) ∧ w = w' := by
  go_enter Tryz.func38, Tryz.ntmps38
  go_wp2
  go_returns
  exact ⟨rfl, rfl⟩
theorem nil_Epoch (w : World) : Calls Tryz.prog 20 #[.pointer none] w fun e w' => e = .returned (.int .i64 0) ∧ w = w' := by
  go_enter Tryz.func20, Tryz.ntmps20
  go_wp2
  go_returns
  exact ⟨rfl, rfl⟩
theorem nilR_View (w : World) : Calls Tryz.prog 23 #[.pointer none] w fun e w' => e = .returned (.int .i64 0) ∧ w = w' := by
  go_enter Tryz.func23, Tryz.ntmps23
  go_wp2
  go_returns
  exact ⟨rfl, rfl⟩
theorem nil_Active (w : World) : Calls Tryz.prog 30 #[.pointer none] w fun e w' => e = .returned (.bool false) ∧ w = w' := by
  go_enter Tryz.func30, Tryz.ntmps30
  go_wp2
  go_returns
  exact ⟨rfl, rfl⟩
theorem nil_Done (w : World) : Calls Tryz.prog 21 #[.pointer none] w fun e w' => e = .returned (.int .i64 0) ∧ w = w' := by
  go_enter Tryz.func21, Tryz.ntmps21
  go_wp2
  go_returns
  exact ⟨rfl, rfl⟩
theorem nil_Left (w : World) : Calls Tryz.prog 17 #[.pointer none] w fun e w' => e = .returned (.int .i64 0) ∧ w = w' := by
  go_enter Tryz.func17, Tryz.ntmps17
  go_wp2
  go_returns
  exact ⟨rfl, rfl⟩
theorem nil_Halted (w : World) : Calls Tryz.prog 24 #[.pointer none] w fun e w' => e = .returned (.bool false) ∧ w = w' := by
  go_enter Tryz.func24, Tryz.ntmps24
  go_wp2
  go_returns
  exact ⟨rfl, rfl⟩
theorem nilR_Size (w : World) : Calls Tryz.prog 28 #[.pointer none] w fun e w' => e = .returned (.int .i64 0) ∧ w = w' := by
  go_enter Tryz.func28, Tryz.ntmps28
  go_wp2
  go_returns
  exact ⟨rfl, rfl⟩
theorem nil_State (w : World) : Calls Tryz.prog 26 #[.pointer none] w fun e w' => e = .returned (.string ⟨#[]⟩) ∧ w = w' := by
  go_enter Tryz.func26, Tryz.ntmps26
  go_wp2
  go_returns
  exact ⟨rfl, rfl⟩
theorem nil_Chain (w : World) : Calls Tryz.prog 18 #[.pointer none] w fun e w' => e = .returned (.slice none 0 0) ∧ w = w' := by
  go_enter Tryz.func18, Tryz.ntmps18
  go_wp2
  go_returns
  exact ⟨rfl, rfl⟩
theorem nil_History (w : World) : Calls Tryz.prog 25 #[.pointer none] w fun e w' => e = .returned (.slice none 0 0) ∧ w = w' := by
  go_enter Tryz.func25, Tryz.ntmps25
  go_wp2
  go_returns
  exact ⟨rfl, rfl⟩
theorem nil_Tick (now : Int) (w : World) : Calls Tryz.prog 45 #[.pointer none, .int .i64 now] w fun e w' => e = .returned (.slice none 0 0) ∧ w = w' := by
  go_enter Tryz.func45, Tryz.ntmps45
  go_wp2
  go_returns
  exact ⟨rfl, rfl⟩
theorem nil_Handle (now from_ : Int) (L : List Value) (w : World) : Calls Tryz.prog 31 #[.pointer none, .int .i64 now, .int .i64 from_, .agg L.toArray] w fun e w' => e = .returned (.slice none 0 0) ∧ Ext Non w w' := by
  have X := Go.Lib.hid ((Ext.refl Non w).alloc (.cells L.toArray 43))
  go_enter Tryz.func31, Tryz.ntmps31
  go_wp2
  go_returns
  exact ⟨rfl, X.out⟩
end Go.Proofs.YtflpkoafebjfdaaGreat
