/- Joined texts: Saga2. What each proves stands at its head; no conditions beside those in its theorems. -/
import Derived.Deep.RegionLaw
import Derived.Test.YtekbonciafbjiaaGreatPjAA
import Derived.Test.YtekbonciafbjiaaGreatPjAC
import Derived.Test.YtekbonciafbjiaaGreatPjAD
import Derived.Test.YtekbonciafbjiaaGreatPjAG
import Derived.Test.YtekbonciafbjiaaGreatPjAH
import Derived.Test.YtekbonciafbjiaaGreatPjAI
import Derived.Test.YtekbonciafbjiaaGreatPjAN
import Derived.Test.YtekbonciafbjiaaGreatPjAJ
import Derived.Test.YtekbonciafbjiaaGreatPjAS
import Derived.Test.YtekbonciafbjiaaGreatPjAT
import Derived.Test.YtekbonciafbjiaaGreatPjAU
import Derived.Test.YtekbonciafbjiaaGreatPjAV
import Derived.Test.YtekbonciafbjiaaGreatPjAY
import Derived.Test.YtekbonciafbjiaaGreatPjAL
import Derived.Test.YtekbonciafbjiaaGreatPjAM
import Derived.Test.YtekbonciafbjiaaGreatPjAO
import Derived.Test.YtekbonciafbjiaaGreatPjAR
import Derived.Test.YtekbonciafbjiaaGreatPjAW
import Derived.Test.YtekbonciafbjiaaGreatPjBC
import Derived.Test.YtekbonciafbjiaaGreatPjAE
import Derived.Test.YtekbonciafbjiaaGreatPjAP
import Derived.Test.YtekbonciafbjiaaGreatPjBA
import Derived.Test.YtekbonciafbjiaaGreatPjBI
/- Contracts of layer 22: grow (one request more). -/
namespace Go.Proofs.YtekbonciafbjiaaGreat
open Go.RowKit Go.Lib F64
set_option linter.unusedSimpArgs false
set_option linter.unusedVariables false
attribute [local go_sem] run_store_float
attribute [local go_sem low] EW.cellN EW.frozN alloc_cell_or alloc_froz_or EW.cellF EW.frozF EW.cell1 EW.froz1
attribute [local go_sem] relAt relUpon
/-- 'append' of one element to a row of the call's own, as one step of a region that draws. -/
theorem step_append_rowB {P : Program} {ops : Array Oper} {o : Oper} {a : Act} {w : World} {K : Act → World → Prop} {Q : Exit → Act → World → Prop} {E : Prop} (hgd : o.guard = none) (s x : Operand) (t : TypeId)
    (ho : o.op = .call { callee := .builtin .append, args := #[s, x], argTypes := #[t, t] })
    (base : Nat) (e : TypeId) (size bytes : Nat) (z : Value) (ht : P.underlying t = some (.slice e)) (hi : (P.info? e).map (fun i => (i.zero, i.size, i.bytes)) = some (some z, size, bytes)) (hzs : z.cells.size = size) (hsz : 0 < size)
    (v : Value) (n : Nat) (xs : List Value) (hs : a.eval s = v) (hown : w.ownsRow base e size v n xs)
    (k : Nat) (news : List Value) (t' : TypeId) (hx : a.eval x = .slice (some ⟨k, 0, none⟩) 1 1) (hB : Bx w k news t') (hl : news.length = size) (h1 : ∀ u ∈ news, u.oneCell' = true)
    (hn : (n + 1) * bytes ≤ 140737488355328) (hn2 : n + 1 ≤ 9223372036854775807) (hbase : base ≤ w.heap.size)
    (h : ∀ (v' : Value) (W : EW (Row v) w), W.on.ownsRow base e size v' (n + 1) (xs ++ news) → (∀ k, Row v' k → Row v k ∨ w.heap.size ≤ k) → K (a.put o.dst v') W.on) :
    if Region.wanted o (yielded ops a.tmps) = true then Oper.wp P o a w K Q else E := by
  have hw : Region.wanted o (yielded ops a.tmps) = true := by simp [Region.wanted, hgd]
  rw [if_pos hw]
  obtain ⟨i, hi0, hi1, hi2, hi3⟩ := info_parts hi
  obtain ⟨v', w', hr, h2, h3, h4, h5⟩ := run_append_own_at (P := P) w base t o.type e i z size bytes ht hi0 hi1 hi2 hi3 hzs hsz v n xs hown ⟨k, 0, none⟩ 1 1 news (by omega) (fun j u hu => by rw [addr_add, Nat.zero_add]; exact hB.cell hu) h1 (by unfold maxLen; omega) hn hbase
  unfold Oper.wp execOp
  simp only [ho, resolve, invoke, builtin, Sem.run_bind, Sem.run_pure, Result.andThen_ok, List.map_toArray, List.map_cons, List.map_nil, hs, hx, hr]
  refine h v' ⟨w', Ext.ofGrown h3 fun q hq => .inl hq⟩ h2 (fun k hk => ?_)
  unfold Row at *
  rcases h5 with hv | hv
  · left; rw [← hv]; exact hk
  · right; rw [hv] at hk; injection hk with hk; omega
theorem info_ptr : (Tryz.prog.info? 62).map (fun i => (i.zero, i.size, i.bytes)) = some (some (.pointer none), 1, 8) := by kernel_rfl
theorem info_step3 : (Tryz.prog.info? 84).map (fun i => (i.zero, i.size, i.bytes)) = some (some (.agg #[.int .i64 0, .int .i64 0, .int .i64 0, .string ByteArray.empty, .float .f64 0, .int .i64 0, .int .i64 0, .float .f64 0, .bool false]), 9, 80) := by kernel_rfl
theorem bs_get (bs : List (Nat × Nat)) (i : Nat) (h : i < bs.length) : (bs.flatMap ptB)[i]? = some (.pointer (some ⟨bs[i].1, 0, none⟩)) := by
  have := flatA_get ptB 1 (fun _ => rfl) bs i 0 h (by omega)
  simpa [ptB] using this
theorem bs_len : ∀ bs : List (Nat × Nat), (bs.flatMap ptB).length = bs.length
  | [] => rfl
  | b :: t => by rw [List.flatMap_cons, List.length_append, bs_len t]; simp [ptB]; omega
/-- Two blocks of unlike types are two. -/
theorem row_ne {w : World} {base base' : Nat} {e e' : TypeId} {k k' : Nat} {v v' : Value} {n n' : Nat} {xs xs' : List Value} (h : w.ownsRow base e k v n xs) (h' : w.ownsRow base' e' k' v' n' xs') (hne : e ≠ e') : ∀ j, Row v j → ¬ Row v' j := fun j h1 h2 => by
  rcases h.2 with ⟨rfl, _⟩ | ⟨q, cap, cur, rfl, _, hg, _⟩
  · cases h1
  · rcases h'.2 with ⟨rfl, _⟩ | ⟨q', cap', cur', rfl, _, hg', _⟩
    · cases h2
    · have e1 : q = j := by unfold Row at h1; simpa [Value.ownBlock] using h1
      have e2 : q' = j := by unfold Row at h2; simpa [Value.ownBlock] using h2
      subst e1; subst e2
      rw [hg] at hg'
      injection hg' with hg'; injection hg' with _ hg' _
      exact hne hg'
theorem row_box {w : World} {base : Nat} {e : TypeId} {k : Nat} {v : Value} {n : Nat} {xs : List Value} {b : Nat} {vs : List Value} {t : TypeId} (h : w.ownsRow base e k v n xs) (hb : Bx w b vs t) (hne : e ≠ t) : ¬ Row v b := fun h1 => by
  rcases h.2 with ⟨rfl, _⟩ | ⟨q, cap, cur, rfl, _, hg, _⟩
  · cases h1
  · have e1 : q = b := by unfold Row at h1; simpa [Value.ownBlock] using h1
    subst e1
    have := hb.h
    rw [hg] at this
    injection this with this; injection this with _ this _
    exact hne this
theorem box_ne {w : World} {a b : Nat} {us vs : List Value} {t u : TypeId} (h : Bx w a us t) (k : Bx w b vs u) (hne : t ≠ u) : ¬ One b a := fun e => by
  have e : a = b := e
  subst e
  have h1 := h.h
  rw [k.h] at h1
  injection h1 with h1; injection h1 with _ h1 _
  exact hne h1.symm
theorem info_res : (Tryz.prog.info? 47).map (·.size) = some 2 := by kernel_rfl
theorem own_cell1 {w : World} {base : Nat} {e : TypeId} {v : Value} {n : Nat} {xs : List Value} (h : w.ownsRow base e 1 v n xs) (hn : 0 < n) (hx : xs.length = n) : ∃ g cap, v = .slice (some ⟨g, 0, none⟩) n cap ∧ n ≤ cap ∧ cap ≤ 9223372036854775807 ∧ base ≤ g ∧ ∀ i u, xs[i]? = some u → w.cell? ⟨g, i, none⟩ = some u := by
  rcases h.2 with ⟨_, rfl⟩ | ⟨g, cap, cur, rfl, hb, hg, hc, hm, hs, ht⟩
  · omega
  · refine ⟨g, cap, rfl, hc, by unfold maxLen at hm; omega, hb, fun i u hu => ?_⟩
    have hi : i < n := by have := (List.getElem?_eq_some_iff.1 hu).1; omega
    rw [← ht, List.getElem?_take, if_pos (by omega), Array.getElem?_toList] at hu
    simp [World.cell?, hg, hu]
theorem lastS_no {g : Lg} {c : Int} (h : ¬ (1 ≤ c ∧ c ≤ 8)) : lastS g c = 0 := if_neg h
theorem lastS_at {g : Lg} {c : Int} (h : 1 ≤ c ∧ c ≤ 8) : lastS g c = (g.cl (c - 1).toNat).stamp := if_pos h
/-- A client's last stamp, whatever its number. -/
theorem ledger_LastS (b m : Nat) (g : Lg) (c : Int) (w : World) (h : LD w b m g) : Calls Tryz.prog 53 #[.pointer (some ⟨b, 0, none⟩), .int .i64 c] w fun e w' =>
    ∃ k x, e = .returned (.tuple #[.int .i64 (lastS g c), .agg #[.int .i64 k, .float .f64 x]]) ∧ Ext Non w w' := by
  by_cases hc : 1 ≤ c ∧ c ≤ 8
  · refine (ledger_Last b m g c (c - 1).toNat (by omega) (by omega) w h).mono fun e w' ⟨he, hx⟩ => ?_
    exact ⟨_, _, by rw [he, lastS_at hc], hx⟩
  · refine (ledger_Last_no (some ⟨b, 0, none⟩) c (by omega) w).mono fun e w' ⟨he, hx⟩ => ?_
    exact ⟨_, _, by rw [he, lastS_no hc], hx⟩
set_option maxHeartbeats 4000000 in
set_option maxRecDepth 100000 in
theorem saga_grow (base : Nat) (s : Nat) (v1 v2 : Value) (xs : List Int) (l : List Req) (bs : List (Nat × Nat)) (hm : membersB xs = true) (hl : l.length ≤ 1000) (hq : ∀ q ∈ l, q.op.real < 18446744073709551616) (c st k : Int) (key : ByteArray) (x : Nat) (id : Int) (hr : ReqOk ⟨c, st, ⟨k, key, x, id⟩⟩) (w : World) (h : SgW base w s v1 v2 xs l bs) :
    Calls Tryz.prog 24 #[.pointer (some ⟨s, 0, none⟩), .agg #[.int .i64 c, .int .i64 st, .int .i64 k, .string key, .float .f64 x, .int .i64 id]] w fun e w' =>
    e = .returned (.tuple #[]) ∧ ∃ v1' v2' bs', SgW base w' s v1' v2' xs (l ++ [⟨c, st, ⟨k, key, x, id⟩⟩]) bs' ∧ Ext (From base) w w' := by
  have HR := Go.Lib.hid hr
  have nb := h.nb
  have I := Go.Lib.hid (gAt_inv' (xs := xs) (l := l) hm hq l.length)
  have HH0 := Go.Lib.hid h
  clear h hr
  go_enter Tryz.func24, Tryz.ntmps24
  go_upto_region 1 with fail
  have X0 : Ext Non w (w.alloc (.cells #[.int .i64 c, .int .i64 st, .int .i64 k, .string key, .float .f64 x, .int .i64 id] 53)) := (Ext.refl _ _).alloc _
  have BR := Go.Lib.hid (Bx.newAt w [.int .i64 c, .int .i64 st, .int .i64 k, .string key, .float .f64 x, .int .i64 id] 53 _ rfl)
  have h := HH0.out.extN X0
  have hk0 : base ≤ w.heap.size := Nat.le_trans HH0.out.sb (Nat.le_of_lt HH0.out.box.lt)
  have hrb : w.heap.size < (w.alloc (.cells #[.int .i64 c, .int .i64 st, .int .i64 k, .string key, .float .f64 x, .int .i64 id] 53)).heap.size := by simp
  generalize hw0 : w.alloc (.cells #[.int .i64 c, .int .i64 st, .int .i64 k, .string key, .float .f64 x, .int .i64 id] 53) = w0 at *
  have HX0 := Go.Lib.hid X0
  generalize hkr : w.heap.size = kr at *
  clear hw0 X0 HH0 hkr
  have HH := Go.Lib.hid h
  obtain ⟨g1, cap1, rfl, hc1, hcs1, hg1, hcell⟩ := own_cell1 h.r1 (by omega) (bs_len bs)
  have hlt : l.length < bs.length := by omega
  obtain ⟨b, m, hbm⟩ : ∃ b m, bs[l.length] = (b, m) := ⟨_, _, rfl⟩
  have q0 : w0.cell? ⟨s, 0, none⟩ = some (.slice (some ⟨g1, 0, none⟩) (l.length + 1) cap1) := by rw [← nb]; exact h.box.cell rfl
  have q1 : w0.cell? ⟨s, 1, none⟩ = some v2 := h.box.cell rfl
  have q2 : w0.cell? ⟨g1, l.length, none⟩ = some (.pointer (some ⟨b, 0, none⟩)) := hcell _ _ (by rw [bs_get bs l.length hlt, hbm])
  have r0 : w0.cell? ⟨kr, 0, none⟩ = some (.int .i64 c) := BR.out.cell rfl
  have r1 : w0.cell? ⟨kr, 1, none⟩ = some (.int .i64 st) := BR.out.cell rfl
  have r2 : w0.cell? ⟨kr, 2, none⟩ = some (.int .i64 k) := BR.out.cell rfl
  have r3 : w0.cell? ⟨kr, 3, none⟩ = some (.string key) := BR.out.cell rfl
  have r4 : w0.cell? ⟨kr, 4, none⟩ = some (.float .f64 x) := BR.out.cell rfl
  have r5 : w0.cell? ⟨kr, 5, none⟩ = some (.int .i64 id) := BR.out.cell rfl
  have HLD : Hid (LD w0 b m (gAt xs l l.length)) := Go.Lib.hid (by have := h.ld l.length hlt; rw [hbm] at this; exact this)
  clear h hcell hbm
  have hwl : IntKind.i64.wrap (l.length : Int) = (l.length : Int) := IntWalk.i64_in _ (by omega)
  have hlt2 : (l.length : Int) < (l.length : Int) + 1 := by omega
  apply wp_region_rel_tail 12 (relR [Mo.is _, Mo.is _, Mo.is _, Mo.is _, Mo.is _, Mo.is _, Mo.is _, Mo.is _, Mo.is _, Mo.is _, Mo.is _, Mo.is _]) (by kernel_rfl) (by kernel_rfl) (by kernel_rfl) (by kernel_rfl) (by kernel_rfl) (by decide) (by kernel_rfl) (relR_mono _) (StepD.all ?st2) ?q2
  case st2 =>
    refine ⟨?_, ?_, ?_, ?_, ?_, ?_, ?_, ?_, ?_, ?_, ?_, ?_, trivial⟩
    · intro a' w' hx hs hd
      obtain ⟨y, rfl⟩ := hx.ew
      have e0 : a'.tmps[0]?.getD undef = _ := hs 0 rfl
      simp only [List.getElem?_toArray, List.getElem?_cons_succ, List.getElem?_cons_zero, Option.getD_some, Array.getElem?_eq_some_iff] at e0
      refine .inl ⟨rfl, ?_⟩
      clear hs hd hx
      go_simp
      exact ⟨Ext.refl _ _, rfl⟩
    · intro a' w' hx hs hd
      obtain ⟨y, rfl⟩ := hx.ew
      have e9 : a'.tmps[9]?.getD undef = _ := hd 0 9 rfl rfl
      refine .inl ⟨rfl, ?_⟩
      clear hs hd hx
      go_simp
      exact ⟨Ext.refl _ _, rfl⟩
    · intro a' w' hx hs hd
      obtain ⟨y, rfl⟩ := hx.ew
      have e10 : a'.tmps[10]?.getD undef = _ := hd 1 10 rfl rfl
      refine .inl ⟨rfl, ?_⟩
      clear hs hd hx
      go_simp
      exact ⟨Ext.refl _ _, rfl⟩
    · intro a' w' hx hs hd
      obtain ⟨y, rfl⟩ := hx.ew
      have e11 : a'.tmps[11]?.getD undef = _ := hd 2 11 rfl rfl
      refine .inl ⟨rfl, ?_⟩
      clear hs hd hx
      go_simp
      exact ⟨Ext.refl _ _, rfl⟩
    · intro a' w' hx hs hd
      obtain ⟨y, rfl⟩ := hx.ew
      have e0 : a'.tmps[0]?.getD undef = _ := hs 0 rfl
      simp only [List.getElem?_toArray, List.getElem?_cons_succ, List.getElem?_cons_zero, Option.getD_some, Array.getElem?_eq_some_iff] at e0
      refine .inl ⟨rfl, ?_⟩
      clear hs hd hx
      go_simp
      exact ⟨Ext.refl _ _, rfl⟩
    · intro a' w' hx hs hd
      obtain ⟨y, rfl⟩ := hx.ew
      have e13 : a'.tmps[13]?.getD undef = _ := hd 4 13 rfl rfl
      refine .inl ⟨rfl, ?_⟩
      clear hs hd hx
      go_simp
      exact ⟨Ext.refl _ _, rfl⟩
    · intro a' w' hx hs hd
      obtain ⟨y, rfl⟩ := hx.ew
      have e14 : a'.tmps[14]?.getD undef = _ := hd 5 14 rfl rfl
      refine .inl ⟨rfl, ?_⟩
      clear hs hd hx
      go_simp
      exact ⟨Ext.refl _ _, rfl⟩
    · intro a' w' hx hs hd
      obtain ⟨y, rfl⟩ := hx.ew
      have e15 : a'.tmps[15]?.getD undef = _ := hd 6 15 rfl rfl
      refine .inl ⟨rfl, ?_⟩
      clear hs hd hx
      go_simp
      exact ⟨Ext.refl _ _, rfl⟩
    · intro a' w' hx hs hd
      obtain ⟨y, rfl⟩ := hx.ew
      have e16 : a'.tmps[16]?.getD undef = _ := hd 7 16 rfl rfl
      refine .inl ⟨rfl, ?_⟩
      clear hs hd hx
      go_simp
      exact ⟨Ext.refl _ _, rfl⟩
    · intro a' w' hx hs hd
      obtain ⟨y, rfl⟩ := hx.ew
      have e17 : a'.tmps[17]?.getD undef = _ := hd 8 17 rfl rfl
      refine .inl ⟨rfl, ?_⟩
      clear hs hd hx
      go_simp
      exact ⟨Ext.refl _ _, rfl⟩
    · intro a' w' hx hs hd
      obtain ⟨y, rfl⟩ := hx.ew
      have e12 : a'.tmps[12]?.getD undef = _ := hd 3 12 rfl rfl
      have e18 : a'.tmps[18]?.getD undef = _ := hd 9 18 rfl rfl
      refine .inl ⟨rfl, ?_⟩
      clear hs hd hx
      go_simp
      exact ⟨Ext.refl _ _, rfl⟩
    · intro a' w' hx hs hd
      obtain ⟨y, rfl⟩ := hx.ew
      have e19 : a'.tmps[19]?.getD undef = _ := hd 10 19 rfl rfl
      refine .inl ⟨rfl, ?_⟩
      clear hs hd hx
      go_simp
      exact ⟨Ext.refl _ _, rfl⟩
  case' q2 =>
    intro vs w' hx hRR
    obtain ⟨x1, rfl⟩ := hx.ew
    have q0 : vs 0 = _ := hRR 0 (by decide)
    have q1 : vs 1 = _ := hRR 1 (by decide)
    have q2 : vs 2 = _ := hRR 2 (by decide)
    have q3 : vs 3 = _ := hRR 3 (by decide)
    have q4 : vs 4 = _ := hRR 4 (by decide)
    have q5 : vs 5 = _ := hRR 5 (by decide)
    have q6 : vs 6 = _ := hRR 6 (by decide)
    have q7 : vs 7 = _ := hRR 7 (by decide)
    have q8 : vs 8 = _ := hRR 8 (by decide)
    have q9 : vs 9 = _ := hRR 9 (by decide)
    have q10 : vs 10 = _ := hRR 10 (by decide)
    have q11 : vs 11 = _ := hRR 11 (by decide)
    clear hRR hx
    simp only [putAll, List.take_succ_cons, List.take_zero, List.drop_succ_cons, List.drop_zero, Act.put, List.setIfInBounds_toArray, List.set_cons_zero, List.set_cons_succ, Nat.reduceAdd, Nat.zero_add]
    simp only [q0, q1, q2, q3, q4, q5, q6, q7, q8, q9, q10, q11]
    clear q0 q1 q2 q3 q4 q5 q6 q7 q8 q9 q10 q11 vs
  go_wp2_with fail
  refine (ledger_Copy b m _ I.out _ (HLD.out.extN (by (repeat (first | with_reducible (first | exact Ext.refl _ _ | assumption | refine Ext.upN ?_ | refine Ext.alloc ?_ _ | refine Ext.drew ?_ | refine Ext.drewN ?_ _ | refine Ext.upF ?_ | refine Ext.upFF (by first | omega | simp) ?_ | refine Ext.setCellsF _ _ _ (by first | omega | simp) ?_ | refine Ext.setCellF _ _ _ (by first | omega | simp) ?_ | refine Ext.upFN (by first | omega | simp) ?_ | refine Ext.up1F (by first | omega | simp) ?_ | refine Ext.up1N (by first | omega | simp) ?_) | refine Ext.alloc ?_ _ | refine Ext.setCellF _ _ _ (by first | omega | simp) ?_ | refine Ext.setCell ?_ (.inr (by first | omega | simp)) _))))).mono ?_
  rintro e _ ⟨b2, m2, rfl, hx, hL2, hb2, hm2⟩
  obtain ⟨x2, rfl⟩ := hx.ew
  have HL2 := Go.Lib.hid hL2
  have hb3 : w0.heap.size ≤ b2 := by have := x1.ext.size; omega
  have hm3 : w0.heap.size ≤ m2 := by have := x1.ext.size; omega
  clear hx hL2 hb2 hm2
  go_wp2_with fail
  refine Calls.ewD (ledger_Full b2 m2 _ I.out _ HL2.out) ?_
  rintro e x3 rfl
  have HF : Hid (fulL (gAt xs l l.length) = if fullB (gAt xs l l.length) = true then turnL (gAt xs l l.length) else gAt xs l l.length) := Go.Lib.hid rfl
  refine (fun (h1 : fullB (gAt xs l l.length) = false → _) (h2 : fullB (gAt xs l l.length) = true → _) => by cases hf : fullB (gAt xs l l.length); exact h1 hf; exact h2 hf) ?wa ?wb
  case' wa =>
    intro hf
    have HLf : Hid (LD x3.on b2 m2 (fulL (gAt xs l l.length))) := Go.Lib.hid (by rw [HF.out, if_neg (by rw [hf]; simp)]; exact HL2.out.extN x3.ext)
    clear hf
    obtain ⟨x5, hx5⟩ := (by (repeat (first | with_reducible (first | exact Ext.refl _ _ | assumption | refine Ext.upN ?_ | refine Ext.alloc ?_ _ | refine Ext.drew ?_ | refine Ext.drewN ?_ _ | refine Ext.upF ?_ | refine Ext.upFF (by first | omega | simp) ?_ | refine Ext.setCellsF _ _ _ (by first | omega | simp) ?_ | refine Ext.setCellF _ _ _ (by first | omega | simp) ?_ | refine Ext.upFN (by first | omega | simp) ?_ | refine Ext.up1F (by first | omega | simp) ?_ | refine Ext.up1N (by first | omega | simp) ?_) | refine Ext.alloc ?_ _ | refine Ext.setCellF _ _ _ (by first | omega | simp) ?_ | refine Ext.setCell ?_ (.inr (by first | omega | simp)) _)) : Ext Non w0 x3.on).ew
    rw [hx5] at HLf ⊢
    clear hx5
    go_wp2_with fail
  case' wb =>
    intro hf
    have HF2 : Hid (fulL (gAt xs l l.length) = turnL (gAt xs l l.length)) := Go.Lib.hid (by rw [HF.out, if_pos hf])
    clear hf
    go_wp2_with fail
    refine (ledger_Turn b2 m2 _ I.out _ (HL2.out.extN x3.ext)).mono ?_
    rintro e w5 ⟨rfl, hT, hLT⟩
    have HLf : Hid (LD w5 b2 m2 (fulL (gAt xs l l.length))) := Go.Lib.hid (by rw [HF2.out]; exact hLT)
    obtain ⟨x5, hx5⟩ := ((by (repeat (first | with_reducible (first | exact Ext.refl _ _ | assumption | refine Ext.upN ?_ | refine Ext.alloc ?_ _ | refine Ext.drew ?_ | refine Ext.drewN ?_ _ | refine Ext.upF ?_ | refine Ext.upFF (by first | omega | simp) ?_ | refine Ext.setCellsF _ _ _ (by first | omega | simp) ?_ | refine Ext.setCellF _ _ _ (by first | omega | simp) ?_ | refine Ext.upFN (by first | omega | simp) ?_ | refine Ext.up1F (by first | omega | simp) ?_ | refine Ext.up1N (by first | omega | simp) ?_) | refine Ext.alloc ?_ _ | refine Ext.setCellF _ _ _ (by first | omega | simp) ?_ | refine Ext.setCell ?_ (.inr (by first | omega | simp)) _)) : Ext Non w0 x3.on).own hT (fun j e => by have : j = b2 := e; omega)).ew
    subst hx5
    clear hT hLT HF2
    go_wp2_with fail
  · have If := Go.Lib.hid (inv_ful I.out)
    refine (ledger_LastS b2 m2 _ c _ HLf.out).mono ?_
    rintro e _ ⟨kk, kx, rfl, hx⟩
    obtain ⟨x6, rfl⟩ := hx.ew
    have HL6 := Go.Lib.hid (HLf.out.extN x6.ext)
    clear hx
    have hs6 : w0.heap.size ≤ x6.on.heap.size := by have h1 := x6.ext.size; have h2 := x5.ext.size; omega
    go_wp2_with fail
    refine (ledger_Do b2 m2 _ If.out c st k key x id HR.out.c HR.out.s HR.out.k HR.out.id HR.out.x _ (HL6.out.extN (by (repeat (first | with_reducible (first | exact Ext.refl _ _ | assumption | refine Ext.upN ?_ | refine Ext.alloc ?_ _ | refine Ext.drew ?_ | refine Ext.drewN ?_ _ | refine Ext.upF ?_ | refine Ext.upFF (by first | omega | simp) ?_ | refine Ext.setCellsF _ _ _ (by first | omega | simp) ?_ | refine Ext.setCellF _ _ _ (by first | omega | simp) ?_ | refine Ext.upFN (by first | omega | simp) ?_ | refine Ext.up1F (by first | omega | simp) ?_ | refine Ext.up1N (by first | omega | simp) ?_) | refine Ext.alloc ?_ _ | refine Ext.setCellF _ _ _ (by first | omega | simp) ?_ | refine Ext.setCell ?_ (.inr (by first | omega | simp)) _))))).mono ?_
    rintro e w7 ⟨rfl, hD, hLD⟩
    have HL7 : Hid (LD w7 b2 m2 (stepL (gAt xs l l.length) ⟨c, st, ⟨k, key, x, id⟩⟩)) := Go.Lib.hid hLD
    obtain ⟨x7, hx7⟩ := ((by (repeat (first | with_reducible (first | exact Ext.refl _ _ | assumption | refine Ext.upN ?_ | refine Ext.alloc ?_ _ | refine Ext.drew ?_ | refine Ext.drewN ?_ _ | refine Ext.upF ?_ | refine Ext.upFF (by first | omega | simp) ?_ | refine Ext.setCellsF _ _ _ (by first | omega | simp) ?_ | refine Ext.setCellF _ _ _ (by first | omega | simp) ?_ | refine Ext.upFN (by first | omega | simp) ?_ | refine Ext.up1F (by first | omega | simp) ?_ | refine Ext.up1N (by first | omega | simp) ?_) | refine Ext.alloc ?_ _ | refine Ext.setCellF _ _ _ (by first | omega | simp) ?_ | refine Ext.setCell ?_ (.inr (by first | omega | simp)) _)) : Ext Non w0 _).own hD (fun j e => by rcases e with e | e <;> omega)).ew
    subst hx7
    clear hD hLD
    obtain ⟨rc, hrc⟩ : ∃ rc, rc = (doR (fulL (gAt xs l l.length)) ⟨c, st, ⟨k, key, x, id⟩⟩).code := ⟨_, rfl⟩
    obtain ⟨rr, hrr⟩ : ∃ rr, rr = (doR (fulL (gAt xs l l.length)) ⟨c, st, ⟨k, key, x, id⟩⟩).real := ⟨_, rfl⟩
    obtain ⟨la, hla⟩ : ∃ la, la = lastS (fulL (gAt xs l l.length)) c := ⟨_, rfl⟩
    rw [← hrc, ← hrr, ← hla]
    generalize doE (fulL (gAt xs l l.length)) ⟨c, st, ⟨k, key, x, id⟩⟩ = de at *
    have HRC := Go.Lib.hid (And.intro hrc (And.intro hrr hla))
    clear hrc hrr hla
    go_upto_region 6 with (refine wpList_store_box rfl 47 _ _ rfl x7.on.heap.size _ [.int .i64 rc, .float .f64 rr] _ rfl rfl (Bx.newAt _ _ _ _ rfl) rfl info_res (by simp [Value.oneCell']) (fun W hB => ?_); have BS := Go.Lib.hid hB; clear hB)
    have XW : Ext Non x7.on W.on := by (repeat (first | with_reducible (first | exact Ext.refl _ _ | assumption | refine Ext.upN ?_ | refine Ext.alloc ?_ _ | refine Ext.drew ?_ | refine Ext.drewN ?_ _ | refine Ext.upF ?_ | refine Ext.upFF (by first | omega | simp) ?_ | refine Ext.setCellsF _ _ _ (by first | omega | simp) ?_ | refine Ext.setCellF _ _ _ (by first | omega | simp) ?_ | refine Ext.upFN (by first | omega | simp) ?_ | refine Ext.up1F (by first | omega | simp) ?_ | refine Ext.up1N (by first | omega | simp) ?_) | refine Ext.alloc ?_ _ | refine Ext.setCellF _ _ _ (by first | omega | simp) ?_ | refine Ext.setCell ?_ (.inr (by first | omega | simp)) _))
    have X07 : Ext Non w0 W.on := x7.ext.trans XW
    have H1 := Go.Lib.hid (HH.out.extN X07)
    have BR1 := Go.Lib.hid (BR.out.extN X07)
    have HL1 := Go.Lib.hid (HL7.out.extN XW)
    have HX1 := Go.Lib.hid (HX0.out.trans X07)
    generalize W.on = w1 at *
    generalize x7.on.heap.size = ks at *
    clear XW X07 HL7 HL6 HLf HL2 HLD HH BR HX0 q0 q1 q2 r0 r1 r2 r3 r4 r5 hb3 hm3 hs6
    have h1 := H1.out
    have nb1 : bs.length = l.length + 1 := nb
    have q0 : w1.cell? ⟨s, 0, none⟩ = some (.slice (some ⟨g1, 0, none⟩) (l.length + 1) cap1) := by rw [← nb1]; exact h1.box.cell rfl
    have R1 : Hid (w1.ownsRow base 62 1 (.slice (some ⟨g1, 0, none⟩) (l.length + 1) cap1) (l.length + 1) (bs.flatMap ptB)) := Go.Lib.hid (by have := h1.r1; rw [nb1] at this; exact this)
    have BX1 : Hid (Bx w1 s [.slice (some ⟨g1, 0, none⟩) (l.length + 1) cap1, v2] 70) := Go.Lib.hid (by have := h1.box; rw [nb1] at this; exact this)
    have hb1 : base ≤ w1.heap.size := Nat.le_trans h1.sb (Nat.le_of_lt h1.box.lt)
    have HSB := Go.Lib.hid h1.sb
    clear h1
    go_upto_region 7 with (at_builtin; (refine wpList_append_rowB rfl _ _ 67 rfl base 62 1 8 _ Tryz.underlying67 info_ptr (by rfl) (by omega) (.slice (some ⟨g1, 0, none⟩) (l.length + 1) cap1) (l.length + 1) _ rfl (ownR_extN R1.out ((Ext.refl Non w1).alloc _)) w1.heap.size [.pointer (some ⟨b2, 0, none⟩)] 62 rfl (Bx.newAt _ _ _ _ rfl) rfl (by simp [Value.oneCell']) ?_ ?_ ?_ (fun v' W2 hO hrow => ?_)); (case' _ => omega); (case' _ => omega); (case' _ => (simp; omega)); obtain ⟨g', gc, rfl, hgg⟩ := ownR_some hO; have HO := Go.Lib.hid hO; have BXs := Go.Lib.hid ((BX1.out.alloc (.cells [Value.pointer (some ⟨b2, 0, none⟩)].toArray 62)).ext W2.ext (row_box (ownR_extN R1.out ((Ext.refl Non w1).alloc (.cells [Value.pointer (some ⟨b2, 0, none⟩)].toArray 62))) (BX1.out.alloc (.cells [Value.pointer (some ⟨b2, 0, none⟩)].toArray 62)) (by decide))); have c0 : W2.on.cell? ⟨s, 0, none⟩ = some (.slice (some ⟨g1, 0, none⟩) (l.length + 1) cap1) := BXs.out.cell rfl; have f0 : W2.on.frozen? ⟨s, 0, none⟩ = false := froz_of_heap BXs.out.h; clear hO hrow)
    have h1 := H1.out
    have r1a := ownR_extN R1.out ((Ext.refl Non w1).alloc (.cells [Value.pointer (some ⟨b2, 0, none⟩)].toArray 62))
    have XA : Ext Non w1 (w1.alloc (.cells [Value.pointer (some ⟨b2, 0, none⟩)].toArray 62)) := (Ext.refl Non w1).alloc _
    have XS : Ext (One s) W2.on (W2.on.setCell ⟨s, 0, none⟩ (.slice (some ⟨g', 0, none⟩) (l.length + 1 + 1) gc)) := (Ext.refl _ _).set1 _
    have BX2 := Go.Lib.hid (BXs.out.set (j := 0) (.slice (some ⟨g', 0, none⟩) (l.length + 1 + 1) gc))
    have ROW1 := Go.Lib.hid (ownR_ext HO.out XS (fun j hj e => row_box HO.out BXs.out (by decide) (by have e : j = s := e; subst e; exact hj)))
    have r2b := ownR_ext (ownR_extN h1.r2 XA) W2.ext (row_ne (ownR_extN h1.r2 XA) r1a (by decide))
    have ROW2 := Go.Lib.hid (ownR_ext r2b XS (fun j hj e => row_box r2b BXs.out (by decide) (by have e : j = s := e; subst e; exact hj)))
    have LDS := Go.Lib.hid (fun i (hi : i < bs.length) => (((h1.ld i hi).extN XA).row r1a (by decide) (by decide) W2.ext).box BXs.out (by decide) (by decide) XS)
    have LDN := Go.Lib.hid (((HL1.out.extN XA).row r1a (by decide) (by decide) W2.ext).box BXs.out (by decide) (by decide) XS)
    have brb := (BR1.out.extN XA).ext W2.ext (row_box r1a (BR1.out.extN XA) (by decide))
    have BR2 := Go.Lib.hid (brb.ext XS (box_ne brb BXs.out (by decide)))
    have bsb := (BS.out.extN XA).ext W2.ext (row_box r1a (BS.out.extN XA) (by decide))
    have BS2 := Go.Lib.hid (bsb.ext XS (box_ne bsb BXs.out (by decide)))
    have XF1 : Ext (From base) w1 (W2.on.setCell ⟨s, 0, none⟩ (.slice (some ⟨g', 0, none⟩) (l.length + 1 + 1) gc)) := (XA.ofNon.trans (W2.ext.mono (fun j hj e => (own_row r1a j e).1))).trans (XS.mono (fun j hj e => by have e : j = s := e; subst e; exact HSB.out))
    have HXF := Go.Lib.hid ((HX1.out.ofNon (S := From base)).trans XF1)
    have hbw : base ≤ (W2.on.setCell ⟨s, 0, none⟩ (.slice (some ⟨g', 0, none⟩) (l.length + 1 + 1) gc)).heap.size := by have := XF1.size; omega
    clear h1 r1a XA XS r2b brb bsb XF1 BXs c0 f0 hgg HO
    generalize W2.on.setCell ⟨s, 0, none⟩ (.slice (some ⟨g', 0, none⟩) (l.length + 1 + 1) gc) = w2 at *
    clear H1 BX1 R1 HL1 BR1 BS HX1 q0 W2 hb1
    have q1 : w2.cell? ⟨s, 1, none⟩ = some v2 := BX2.out.cell rfl
    have y0 : w2.cell? ⟨kr, 0, none⟩ = some (.int .i64 c) := BR2.out.cell rfl
    have y1 : w2.cell? ⟨kr, 1, none⟩ = some (.int .i64 st) := BR2.out.cell rfl
    have y2 : w2.cell? ⟨kr, 2, none⟩ = some (.int .i64 k) := BR2.out.cell rfl
    have y3 : w2.cell? ⟨kr, 3, none⟩ = some (.string key) := BR2.out.cell rfl
    have y4 : w2.cell? ⟨kr, 4, none⟩ = some (.float .f64 x) := BR2.out.cell rfl
    have y5 : w2.cell? ⟨kr, 5, none⟩ = some (.int .i64 id) := BR2.out.cell rfl
    have z0 : w2.cell? ⟨ks, 0, none⟩ = some (.int .i64 rc) := BS2.out.cell rfl
    have z1 : w2.cell? ⟨ks, 1, none⟩ = some (.float .f64 rr) := BS2.out.cell rfl
    have TK : Hid (stepsL (newL xs) (l ++ [⟨c, st, ⟨k, key, x, id⟩⟩]) = stepsL (newL xs) l ++ [⟨⟨c, st, ⟨k, key, x, id⟩⟩, rc, rr, decide (la < st)⟩]) := Go.Lib.hid (by
      rw [stepsL_snoc, ← gAt_all]
      unfold spOf
      rw [HRC.out.1, HRC.out.2.1, HRC.out.2.2])
    have hn1 : ((stepsL (newL xs) l).length + 1) * 80 ≤ 140737488355328 := by rw [stepsL_len]; omega
    have hn2 : (stepsL (newL xs) l).length + 1 ≤ 9223372036854775807 := by rw [stepsL_len]; omega
    go_upto_region 7 with fail
    go_region_law (refine step_append_rowB rfl (.tmp 53) (.tmp 61) 68 rfl base 84 9 80 _ Tryz.underlying68 info_step3 (by rfl) (by omega) v2 (stepsL (newL xs) l).length _ (by simp [Act.eval, Act.put]) (ownR_extN ROW2.out (by (repeat (first | with_reducible (first | exact Ext.refl _ _ | assumption | refine Ext.upN ?_ | refine Ext.alloc ?_ _ | refine Ext.drew ?_ | refine Ext.drewN ?_ _ | refine Ext.upF ?_ | refine Ext.upFF (by first | omega | simp) ?_ | refine Ext.setCellsF _ _ _ (by first | omega | simp) ?_ | refine Ext.setCellF _ _ _ (by first | omega | simp) ?_ | refine Ext.upFN (by first | omega | simp) ?_ | refine Ext.up1F (by first | omega | simp) ?_ | refine Ext.up1N (by first | omega | simp) ?_) | refine Ext.alloc ?_ _ | refine Ext.setCellF _ _ _ (by first | omega | simp) ?_ | refine Ext.setCell ?_ (.inr (by first | omega | simp)) _)))) w2.heap.size [.int .i64 c, .int .i64 st, .int .i64 k, .string key, .float .f64 x, .int .i64 id, .int .i64 rc, .float .f64 rr, .bool (decide (la < st))] 84 (by simp [Act.eval, Act.put]) (Bx.drew (Bx.newAt w2 [.int .i64 c, .int .i64 st, .int .i64 k, .string key, .float .f64 x, .int .i64 id, .int .i64 rc, .float .f64 rr, .bool (decide (la < st))] 84 _ rfl)) rfl (by simp [Value.oneCell']) hn1 hn2 (Nat.le_trans hbw (by simp)) (fun v'' W3 hO hrow => ?_); obtain ⟨g'', gc'', rfl, hgg⟩ := ownR_some hO; have HO := Go.Lib.hid hO; have XB : Ext Non w2 (w2.alloc (.cells [.int .i64 c, .int .i64 st, .int .i64 k, .string key, .float .f64 x, .int .i64 id, .int .i64 rc, .float .f64 rr, .bool (decide (la < st))].toArray 84)).drew := (by (repeat (first | with_reducible (first | exact Ext.refl _ _ | assumption | refine Ext.upN ?_ | refine Ext.alloc ?_ _ | refine Ext.drew ?_ | refine Ext.drewN ?_ _ | refine Ext.upF ?_ | refine Ext.upFF (by first | omega | simp) ?_ | refine Ext.setCellsF _ _ _ (by first | omega | simp) ?_ | refine Ext.setCellF _ _ _ (by first | omega | simp) ?_ | refine Ext.upFN (by first | omega | simp) ?_ | refine Ext.up1F (by first | omega | simp) ?_ | refine Ext.up1N (by first | omega | simp) ?_) | refine Ext.alloc ?_ _ | refine Ext.setCellF _ _ _ (by first | omega | simp) ?_ | refine Ext.setCell ?_ (.inr (by first | omega | simp)) _))); have BXs := Go.Lib.hid ((BX2.out.extN XB).ext W3.ext (row_box (ownR_extN ROW2.out XB) (BX2.out.extN XB) (by decide))); have c0 : W3.on.cell? ⟨s, 1, none⟩ = some v2 := BXs.out.cell rfl; have f0 : W3.on.frozen? ⟨s, 1, none⟩ = false := froz_of_heap BXs.out.h; clear hO hrow)
    all_goals
      have XB : Ext Non w2 (w2.alloc (.cells [.int .i64 c, .int .i64 st, .int .i64 k, .string key, .float .f64 x, .int .i64 id, .int .i64 rc, .float .f64 rr, .bool (decide (la < st))].toArray 84)).drew := (by (repeat (first | with_reducible (first | exact Ext.refl _ _ | assumption | refine Ext.upN ?_ | refine Ext.alloc ?_ _ | refine Ext.drew ?_ | refine Ext.drewN ?_ _ | refine Ext.upF ?_ | refine Ext.upFF (by first | omega | simp) ?_ | refine Ext.setCellsF _ _ _ (by first | omega | simp) ?_ | refine Ext.setCellF _ _ _ (by first | omega | simp) ?_ | refine Ext.upFN (by first | omega | simp) ?_ | refine Ext.up1F (by first | omega | simp) ?_ | refine Ext.up1N (by first | omega | simp) ?_) | refine Ext.alloc ?_ _ | refine Ext.setCellF _ _ _ (by first | omega | simp) ?_ | refine Ext.setCell ?_ (.inr (by first | omega | simp)) _)))
      have r2a := ownR_extN ROW2.out XB
      have r1a := ownR_extN ROW1.out XB
      have XS : Ext (One s) W3.on (W3.on.setCell ⟨s, 1, none⟩ (.slice (some ⟨g'', 0, none⟩) ((stepsL (newL xs) l).length + 1) gc'')) := (Ext.refl _ _).set1 _
      have r1b := ownR_ext r1a W3.ext (row_ne r1a r2a (by decide))
      have r1c := ownR_ext r1b XS (fun j hj e => row_box r1b BXs.out (by decide) (by have e : j = s := e; subst e; exact hj))
      have r2c := ownR_ext HO.out XS (fun j hj e => row_box HO.out BXs.out (by decide) (by have e : j = s := e; subst e; exact hj))
      have L1 : ∀ i (hi : i < bs.length), LD (W3.on.setCell ⟨s, 1, none⟩ (.slice (some ⟨g'', 0, none⟩) ((stepsL (newL xs) l).length + 1) gc'')) bs[i].1 bs[i].2 (gAt xs l i) := fun i hi => (((LDS.out i hi).extN XB).row r2a (by decide) (by decide) W3.ext).box BXs.out (by decide) (by decide) XS
      have L2 := ((LDN.out.extN XB).row r2a (by decide) (by decide) W3.ext).box BXs.out (by decide) (by decide) XS
      have XF : Ext (From base) w2 (W3.on.setCell ⟨s, 1, none⟩ (.slice (some ⟨g'', 0, none⟩) ((stepsL (newL xs) l).length + 1) gc'')) := (XB.ofNon.trans (W3.ext.mono (fun j hj e => (own_row r2a j e).1))).trans (XS.mono (fun j hj e => by have e : j = s := e; subst e; exact HSB.out))
      have hnb : (bs ++ [(b2, m2)]).length = l.length + 1 + 1 := by rw [List.length_append, nb]; rfl
      have hns : (stepsL (newL xs) (l ++ [⟨c, st, ⟨k, key, x, id⟩⟩])).length = (stepsL (newL xs) l).length + 1 := by rw [TK.out, List.length_append]; rfl
      have FIN : Hid (SgW base (W3.on.setCell ⟨s, 1, none⟩ (.slice (some ⟨g'', 0, none⟩) ((stepsL (newL xs) l).length + 1) gc'')) s (.slice (some ⟨g', 0, none⟩) (l.length + 1 + 1) gc) (.slice (some ⟨g'', 0, none⟩) ((stepsL (newL xs) l).length + 1) gc'') xs (l ++ [⟨c, st, ⟨k, key, x, id⟩⟩]) (bs ++ [(b2, m2)]) ∧ Ext (From base) w (W3.on.setCell ⟨s, 1, none⟩ (.slice (some ⟨g'', 0, none⟩) ((stepsL (newL xs) l).length + 1) gc''))) := Go.Lib.hid (by
        refine ⟨⟨BXs.out.set (j := 1) _, HSB.out, ?_, ?_, ?_, fun i hi => ?_⟩, HXF.out.trans (XF.mono (fun j hj e => e))⟩
        · rw [hnb, List.flatMap_append]
          exact r1c
        · rw [hns, TK.out, List.flatMap_append]
          exact r2c
        · rw [hnb, List.length_append]; rfl
        · by_cases hi2 : i < bs.length
          · rw [List.getElem_append_left hi2, gAt_snoc xs l _ (by omega)]
            exact L1 i hi2
          · have e : i = l.length + 1 := by rw [hnb] at hi; omega
            subst e
            have e2 : (bs ++ [(b2, m2)])[l.length + 1] = (b2, m2) := by
              rw [List.getElem_append_right (by omega)]
              simp [nb]
            rw [e2]
            have e3 : gAt xs (l ++ [⟨c, st, ⟨k, key, x, id⟩⟩]) (l.length + 1) = stepL (gAt xs l l.length) ⟨c, st, ⟨k, key, x, id⟩⟩ := by
              rw [gAt_succ xs _ (by simp), gAt_snoc xs l _ (Nat.le_refl _)]
              simp
            rw [e3]
            exact L2)
      clear XB r2a r1a XS r1b r1c r2c L1 L2 XF hnb hns
      go_wp2
      go_returns
      exact ⟨rfl, _, _, _, FIN.out.1, FIN.out.2⟩
  · have If := Go.Lib.hid (inv_ful I.out)
    refine (ledger_LastS b2 m2 _ c _ HLf.out).mono ?_
    rintro e _ ⟨kk, kx, rfl, hx⟩
    obtain ⟨x6, rfl⟩ := hx.ew
    have HL6 := Go.Lib.hid (HLf.out.extN x6.ext)
    clear hx
    have hs6 : w0.heap.size ≤ x6.on.heap.size := by have h1 := x6.ext.size; have h2 := x5.ext.size; omega
    go_wp2_with fail
    refine (ledger_Do b2 m2 _ If.out c st k key x id HR.out.c HR.out.s HR.out.k HR.out.id HR.out.x _ (HL6.out.extN (by (repeat (first | with_reducible (first | exact Ext.refl _ _ | assumption | refine Ext.upN ?_ | refine Ext.alloc ?_ _ | refine Ext.drew ?_ | refine Ext.drewN ?_ _ | refine Ext.upF ?_ | refine Ext.upFF (by first | omega | simp) ?_ | refine Ext.setCellsF _ _ _ (by first | omega | simp) ?_ | refine Ext.setCellF _ _ _ (by first | omega | simp) ?_ | refine Ext.upFN (by first | omega | simp) ?_ | refine Ext.up1F (by first | omega | simp) ?_ | refine Ext.up1N (by first | omega | simp) ?_) | refine Ext.alloc ?_ _ | refine Ext.setCellF _ _ _ (by first | omega | simp) ?_ | refine Ext.setCell ?_ (.inr (by first | omega | simp)) _))))).mono ?_
    rintro e w7 ⟨rfl, hD, hLD⟩
    have HL7 : Hid (LD w7 b2 m2 (stepL (gAt xs l l.length) ⟨c, st, ⟨k, key, x, id⟩⟩)) := Go.Lib.hid hLD
    obtain ⟨x7, hx7⟩ := ((by (repeat (first | with_reducible (first | exact Ext.refl _ _ | assumption | refine Ext.upN ?_ | refine Ext.alloc ?_ _ | refine Ext.drew ?_ | refine Ext.drewN ?_ _ | refine Ext.upF ?_ | refine Ext.upFF (by first | omega | simp) ?_ | refine Ext.setCellsF _ _ _ (by first | omega | simp) ?_ | refine Ext.setCellF _ _ _ (by first | omega | simp) ?_ | refine Ext.upFN (by first | omega | simp) ?_ | refine Ext.up1F (by first | omega | simp) ?_ | refine Ext.up1N (by first | omega | simp) ?_) | refine Ext.alloc ?_ _ | refine Ext.setCellF _ _ _ (by first | omega | simp) ?_ | refine Ext.setCell ?_ (.inr (by first | omega | simp)) _)) : Ext Non w0 _).own hD (fun j e => by rcases e with e | e <;> omega)).ew
    subst hx7
    clear hD hLD
    obtain ⟨rc, hrc⟩ : ∃ rc, rc = (doR (fulL (gAt xs l l.length)) ⟨c, st, ⟨k, key, x, id⟩⟩).code := ⟨_, rfl⟩
    obtain ⟨rr, hrr⟩ : ∃ rr, rr = (doR (fulL (gAt xs l l.length)) ⟨c, st, ⟨k, key, x, id⟩⟩).real := ⟨_, rfl⟩
    obtain ⟨la, hla⟩ : ∃ la, la = lastS (fulL (gAt xs l l.length)) c := ⟨_, rfl⟩
    rw [← hrc, ← hrr, ← hla]
    generalize doE (fulL (gAt xs l l.length)) ⟨c, st, ⟨k, key, x, id⟩⟩ = de at *
    have HRC := Go.Lib.hid (And.intro hrc (And.intro hrr hla))
    clear hrc hrr hla
    go_upto_region 6 with (refine wpList_store_box rfl 47 _ _ rfl x7.on.heap.size _ [.int .i64 rc, .float .f64 rr] _ rfl rfl (Bx.newAt _ _ _ _ rfl) rfl info_res (by simp [Value.oneCell']) (fun W hB => ?_); have BS := Go.Lib.hid hB; clear hB)
    have XW : Ext Non x7.on W.on := by (repeat (first | with_reducible (first | exact Ext.refl _ _ | assumption | refine Ext.upN ?_ | refine Ext.alloc ?_ _ | refine Ext.drew ?_ | refine Ext.drewN ?_ _ | refine Ext.upF ?_ | refine Ext.upFF (by first | omega | simp) ?_ | refine Ext.setCellsF _ _ _ (by first | omega | simp) ?_ | refine Ext.setCellF _ _ _ (by first | omega | simp) ?_ | refine Ext.upFN (by first | omega | simp) ?_ | refine Ext.up1F (by first | omega | simp) ?_ | refine Ext.up1N (by first | omega | simp) ?_) | refine Ext.alloc ?_ _ | refine Ext.setCellF _ _ _ (by first | omega | simp) ?_ | refine Ext.setCell ?_ (.inr (by first | omega | simp)) _))
    have X07 : Ext Non w0 W.on := x7.ext.trans XW
    have H1 := Go.Lib.hid (HH.out.extN X07)
    have BR1 := Go.Lib.hid (BR.out.extN X07)
    have HL1 := Go.Lib.hid (HL7.out.extN XW)
    have HX1 := Go.Lib.hid (HX0.out.trans X07)
    generalize W.on = w1 at *
    generalize x7.on.heap.size = ks at *
    clear XW X07 HL7 HL6 HLf HL2 HLD HH BR HX0 q0 q1 q2 r0 r1 r2 r3 r4 r5 hb3 hm3 hs6
    have h1 := H1.out
    have nb1 : bs.length = l.length + 1 := nb
    have q0 : w1.cell? ⟨s, 0, none⟩ = some (.slice (some ⟨g1, 0, none⟩) (l.length + 1) cap1) := by rw [← nb1]; exact h1.box.cell rfl
    have R1 : Hid (w1.ownsRow base 62 1 (.slice (some ⟨g1, 0, none⟩) (l.length + 1) cap1) (l.length + 1) (bs.flatMap ptB)) := Go.Lib.hid (by have := h1.r1; rw [nb1] at this; exact this)
    have BX1 : Hid (Bx w1 s [.slice (some ⟨g1, 0, none⟩) (l.length + 1) cap1, v2] 70) := Go.Lib.hid (by have := h1.box; rw [nb1] at this; exact this)
    have hb1 : base ≤ w1.heap.size := Nat.le_trans h1.sb (Nat.le_of_lt h1.box.lt)
    have HSB := Go.Lib.hid h1.sb
    clear h1
    go_upto_region 7 with (at_builtin; (refine wpList_append_rowB rfl _ _ 67 rfl base 62 1 8 _ Tryz.underlying67 info_ptr (by rfl) (by omega) (.slice (some ⟨g1, 0, none⟩) (l.length + 1) cap1) (l.length + 1) _ rfl (ownR_extN R1.out ((Ext.refl Non w1).alloc _)) w1.heap.size [.pointer (some ⟨b2, 0, none⟩)] 62 rfl (Bx.newAt _ _ _ _ rfl) rfl (by simp [Value.oneCell']) ?_ ?_ ?_ (fun v' W2 hO hrow => ?_)); (case' _ => omega); (case' _ => omega); (case' _ => (simp; omega)); obtain ⟨g', gc, rfl, hgg⟩ := ownR_some hO; have HO := Go.Lib.hid hO; have BXs := Go.Lib.hid ((BX1.out.alloc (.cells [Value.pointer (some ⟨b2, 0, none⟩)].toArray 62)).ext W2.ext (row_box (ownR_extN R1.out ((Ext.refl Non w1).alloc (.cells [Value.pointer (some ⟨b2, 0, none⟩)].toArray 62))) (BX1.out.alloc (.cells [Value.pointer (some ⟨b2, 0, none⟩)].toArray 62)) (by decide))); have c0 : W2.on.cell? ⟨s, 0, none⟩ = some (.slice (some ⟨g1, 0, none⟩) (l.length + 1) cap1) := BXs.out.cell rfl; have f0 : W2.on.frozen? ⟨s, 0, none⟩ = false := froz_of_heap BXs.out.h; clear hO hrow)
    have h1 := H1.out
    have r1a := ownR_extN R1.out ((Ext.refl Non w1).alloc (.cells [Value.pointer (some ⟨b2, 0, none⟩)].toArray 62))
    have XA : Ext Non w1 (w1.alloc (.cells [Value.pointer (some ⟨b2, 0, none⟩)].toArray 62)) := (Ext.refl Non w1).alloc _
    have XS : Ext (One s) W2.on (W2.on.setCell ⟨s, 0, none⟩ (.slice (some ⟨g', 0, none⟩) (l.length + 1 + 1) gc)) := (Ext.refl _ _).set1 _
    have BX2 := Go.Lib.hid (BXs.out.set (j := 0) (.slice (some ⟨g', 0, none⟩) (l.length + 1 + 1) gc))
    have ROW1 := Go.Lib.hid (ownR_ext HO.out XS (fun j hj e => row_box HO.out BXs.out (by decide) (by have e : j = s := e; subst e; exact hj)))
    have r2b := ownR_ext (ownR_extN h1.r2 XA) W2.ext (row_ne (ownR_extN h1.r2 XA) r1a (by decide))
    have ROW2 := Go.Lib.hid (ownR_ext r2b XS (fun j hj e => row_box r2b BXs.out (by decide) (by have e : j = s := e; subst e; exact hj)))
    have LDS := Go.Lib.hid (fun i (hi : i < bs.length) => (((h1.ld i hi).extN XA).row r1a (by decide) (by decide) W2.ext).box BXs.out (by decide) (by decide) XS)
    have LDN := Go.Lib.hid (((HL1.out.extN XA).row r1a (by decide) (by decide) W2.ext).box BXs.out (by decide) (by decide) XS)
    have brb := (BR1.out.extN XA).ext W2.ext (row_box r1a (BR1.out.extN XA) (by decide))
    have BR2 := Go.Lib.hid (brb.ext XS (box_ne brb BXs.out (by decide)))
    have bsb := (BS.out.extN XA).ext W2.ext (row_box r1a (BS.out.extN XA) (by decide))
    have BS2 := Go.Lib.hid (bsb.ext XS (box_ne bsb BXs.out (by decide)))
    have XF1 : Ext (From base) w1 (W2.on.setCell ⟨s, 0, none⟩ (.slice (some ⟨g', 0, none⟩) (l.length + 1 + 1) gc)) := (XA.ofNon.trans (W2.ext.mono (fun j hj e => (own_row r1a j e).1))).trans (XS.mono (fun j hj e => by have e : j = s := e; subst e; exact HSB.out))
    have HXF := Go.Lib.hid ((HX1.out.ofNon (S := From base)).trans XF1)
    have hbw : base ≤ (W2.on.setCell ⟨s, 0, none⟩ (.slice (some ⟨g', 0, none⟩) (l.length + 1 + 1) gc)).heap.size := by have := XF1.size; omega
    clear h1 r1a XA XS r2b brb bsb XF1 BXs c0 f0 hgg HO
    generalize W2.on.setCell ⟨s, 0, none⟩ (.slice (some ⟨g', 0, none⟩) (l.length + 1 + 1) gc) = w2 at *
    clear H1 BX1 R1 HL1 BR1 BS HX1 q0 W2 hb1
    have q1 : w2.cell? ⟨s, 1, none⟩ = some v2 := BX2.out.cell rfl
    have y0 : w2.cell? ⟨kr, 0, none⟩ = some (.int .i64 c) := BR2.out.cell rfl
    have y1 : w2.cell? ⟨kr, 1, none⟩ = some (.int .i64 st) := BR2.out.cell rfl
    have y2 : w2.cell? ⟨kr, 2, none⟩ = some (.int .i64 k) := BR2.out.cell rfl
    have y3 : w2.cell? ⟨kr, 3, none⟩ = some (.string key) := BR2.out.cell rfl
    have y4 : w2.cell? ⟨kr, 4, none⟩ = some (.float .f64 x) := BR2.out.cell rfl
    have y5 : w2.cell? ⟨kr, 5, none⟩ = some (.int .i64 id) := BR2.out.cell rfl
    have z0 : w2.cell? ⟨ks, 0, none⟩ = some (.int .i64 rc) := BS2.out.cell rfl
    have z1 : w2.cell? ⟨ks, 1, none⟩ = some (.float .f64 rr) := BS2.out.cell rfl
    have TK : Hid (stepsL (newL xs) (l ++ [⟨c, st, ⟨k, key, x, id⟩⟩]) = stepsL (newL xs) l ++ [⟨⟨c, st, ⟨k, key, x, id⟩⟩, rc, rr, decide (la < st)⟩]) := Go.Lib.hid (by
      rw [stepsL_snoc, ← gAt_all]
      unfold spOf
      rw [HRC.out.1, HRC.out.2.1, HRC.out.2.2])
    have hn1 : ((stepsL (newL xs) l).length + 1) * 80 ≤ 140737488355328 := by rw [stepsL_len]; omega
    have hn2 : (stepsL (newL xs) l).length + 1 ≤ 9223372036854775807 := by rw [stepsL_len]; omega
    go_upto_region 7 with fail
    go_region_law (refine step_append_rowB rfl (.tmp 53) (.tmp 61) 68 rfl base 84 9 80 _ Tryz.underlying68 info_step3 (by rfl) (by omega) v2 (stepsL (newL xs) l).length _ (by simp [Act.eval, Act.put]) (ownR_extN ROW2.out (by (repeat (first | with_reducible (first | exact Ext.refl _ _ | assumption | refine Ext.upN ?_ | refine Ext.alloc ?_ _ | refine Ext.drew ?_ | refine Ext.drewN ?_ _ | refine Ext.upF ?_ | refine Ext.upFF (by first | omega | simp) ?_ | refine Ext.setCellsF _ _ _ (by first | omega | simp) ?_ | refine Ext.setCellF _ _ _ (by first | omega | simp) ?_ | refine Ext.upFN (by first | omega | simp) ?_ | refine Ext.up1F (by first | omega | simp) ?_ | refine Ext.up1N (by first | omega | simp) ?_) | refine Ext.alloc ?_ _ | refine Ext.setCellF _ _ _ (by first | omega | simp) ?_ | refine Ext.setCell ?_ (.inr (by first | omega | simp)) _)))) w2.heap.size [.int .i64 c, .int .i64 st, .int .i64 k, .string key, .float .f64 x, .int .i64 id, .int .i64 rc, .float .f64 rr, .bool (decide (la < st))] 84 (by simp [Act.eval, Act.put]) (Bx.drew (Bx.newAt w2 [.int .i64 c, .int .i64 st, .int .i64 k, .string key, .float .f64 x, .int .i64 id, .int .i64 rc, .float .f64 rr, .bool (decide (la < st))] 84 _ rfl)) rfl (by simp [Value.oneCell']) hn1 hn2 (Nat.le_trans hbw (by simp)) (fun v'' W3 hO hrow => ?_); obtain ⟨g'', gc'', rfl, hgg⟩ := ownR_some hO; have HO := Go.Lib.hid hO; have XB : Ext Non w2 (w2.alloc (.cells [.int .i64 c, .int .i64 st, .int .i64 k, .string key, .float .f64 x, .int .i64 id, .int .i64 rc, .float .f64 rr, .bool (decide (la < st))].toArray 84)).drew := (by (repeat (first | with_reducible (first | exact Ext.refl _ _ | assumption | refine Ext.upN ?_ | refine Ext.alloc ?_ _ | refine Ext.drew ?_ | refine Ext.drewN ?_ _ | refine Ext.upF ?_ | refine Ext.upFF (by first | omega | simp) ?_ | refine Ext.setCellsF _ _ _ (by first | omega | simp) ?_ | refine Ext.setCellF _ _ _ (by first | omega | simp) ?_ | refine Ext.upFN (by first | omega | simp) ?_ | refine Ext.up1F (by first | omega | simp) ?_ | refine Ext.up1N (by first | omega | simp) ?_) | refine Ext.alloc ?_ _ | refine Ext.setCellF _ _ _ (by first | omega | simp) ?_ | refine Ext.setCell ?_ (.inr (by first | omega | simp)) _))); have BXs := Go.Lib.hid ((BX2.out.extN XB).ext W3.ext (row_box (ownR_extN ROW2.out XB) (BX2.out.extN XB) (by decide))); have c0 : W3.on.cell? ⟨s, 1, none⟩ = some v2 := BXs.out.cell rfl; have f0 : W3.on.frozen? ⟨s, 1, none⟩ = false := froz_of_heap BXs.out.h; clear hO hrow)
    all_goals
      have XB : Ext Non w2 (w2.alloc (.cells [.int .i64 c, .int .i64 st, .int .i64 k, .string key, .float .f64 x, .int .i64 id, .int .i64 rc, .float .f64 rr, .bool (decide (la < st))].toArray 84)).drew := (by (repeat (first | with_reducible (first | exact Ext.refl _ _ | assumption | refine Ext.upN ?_ | refine Ext.alloc ?_ _ | refine Ext.drew ?_ | refine Ext.drewN ?_ _ | refine Ext.upF ?_ | refine Ext.upFF (by first | omega | simp) ?_ | refine Ext.setCellsF _ _ _ (by first | omega | simp) ?_ | refine Ext.setCellF _ _ _ (by first | omega | simp) ?_ | refine Ext.upFN (by first | omega | simp) ?_ | refine Ext.up1F (by first | omega | simp) ?_ | refine Ext.up1N (by first | omega | simp) ?_) | refine Ext.alloc ?_ _ | refine Ext.setCellF _ _ _ (by first | omega | simp) ?_ | refine Ext.setCell ?_ (.inr (by first | omega | simp)) _)))
      have r2a := ownR_extN ROW2.out XB
      have r1a := ownR_extN ROW1.out XB
      have XS : Ext (One s) W3.on (W3.on.setCell ⟨s, 1, none⟩ (.slice (some ⟨g'', 0, none⟩) ((stepsL (newL xs) l).length + 1) gc'')) := (Ext.refl _ _).set1 _
      have r1b := ownR_ext r1a W3.ext (row_ne r1a r2a (by decide))
      have r1c := ownR_ext r1b XS (fun j hj e => row_box r1b BXs.out (by decide) (by have e : j = s := e; subst e; exact hj))
      have r2c := ownR_ext HO.out XS (fun j hj e => row_box HO.out BXs.out (by decide) (by have e : j = s := e; subst e; exact hj))
      have L1 : ∀ i (hi : i < bs.length), LD (W3.on.setCell ⟨s, 1, none⟩ (.slice (some ⟨g'', 0, none⟩) ((stepsL (newL xs) l).length + 1) gc'')) bs[i].1 bs[i].2 (gAt xs l i) := fun i hi => (((LDS.out i hi).extN XB).row r2a (by decide) (by decide) W3.ext).box BXs.out (by decide) (by decide) XS
      have L2 := ((LDN.out.extN XB).row r2a (by decide) (by decide) W3.ext).box BXs.out (by decide) (by decide) XS
      have XF : Ext (From base) w2 (W3.on.setCell ⟨s, 1, none⟩ (.slice (some ⟨g'', 0, none⟩) ((stepsL (newL xs) l).length + 1) gc'')) := (XB.ofNon.trans (W3.ext.mono (fun j hj e => (own_row r2a j e).1))).trans (XS.mono (fun j hj e => by have e : j = s := e; subst e; exact HSB.out))
      have hnb : (bs ++ [(b2, m2)]).length = l.length + 1 + 1 := by rw [List.length_append, nb]; rfl
      have hns : (stepsL (newL xs) (l ++ [⟨c, st, ⟨k, key, x, id⟩⟩])).length = (stepsL (newL xs) l).length + 1 := by rw [TK.out, List.length_append]; rfl
      have FIN : Hid (SgW base (W3.on.setCell ⟨s, 1, none⟩ (.slice (some ⟨g'', 0, none⟩) ((stepsL (newL xs) l).length + 1) gc'')) s (.slice (some ⟨g', 0, none⟩) (l.length + 1 + 1) gc) (.slice (some ⟨g'', 0, none⟩) ((stepsL (newL xs) l).length + 1) gc'') xs (l ++ [⟨c, st, ⟨k, key, x, id⟩⟩]) (bs ++ [(b2, m2)]) ∧ Ext (From base) w (W3.on.setCell ⟨s, 1, none⟩ (.slice (some ⟨g'', 0, none⟩) ((stepsL (newL xs) l).length + 1) gc''))) := Go.Lib.hid (by
        refine ⟨⟨BXs.out.set (j := 1) _, HSB.out, ?_, ?_, ?_, fun i hi => ?_⟩, HXF.out.trans (XF.mono (fun j hj e => e))⟩
        · rw [hnb, List.flatMap_append]
          exact r1c
        · rw [hns, TK.out, List.flatMap_append]
          exact r2c
        · rw [hnb, List.length_append]; rfl
        · by_cases hi2 : i < bs.length
          · rw [List.getElem_append_left hi2, gAt_snoc xs l _ (by omega)]
            exact L1 i hi2
          · have e : i = l.length + 1 := by rw [hnb] at hi; omega
            subst e
            have e2 : (bs ++ [(b2, m2)])[l.length + 1] = (b2, m2) := by
              rw [List.getElem_append_right (by omega)]
              simp [nb]
            rw [e2]
            have e3 : gAt xs (l ++ [⟨c, st, ⟨k, key, x, id⟩⟩]) (l.length + 1) = stepL (gAt xs l l.length) ⟨c, st, ⟨k, key, x, id⟩⟩ := by
              rw [gAt_succ xs _ (by simp), gAt_snoc xs l _ (Nat.le_refl _)]
              simp
            rw [e3]
            exact L2)
      clear XB r2a r1a XS r1b r1c r2c L1 L2 XF hnb hns
      go_wp2
      go_returns
      exact ⟨rfl, _, _, _, FIN.out.1, FIN.out.2⟩
end Go.Proofs.YtekbonciafbjiaaGreat
