/- Joined texts: Slots1. What each proves stands at its head; no conditions beside those in its theorems. -/
import Derived.Test.YtakbkpklfihfiaaPjAR
import Derived.Test.YtakbkpklfihfiaaPjAT
/- Contracts of layer 14: deeds.Same, Log.agree, Log.enough. -/
namespace Go.Proofs.Ytakbkpklfihfiaa
open Go.RowKit Go.Lib F64
set_option linter.unusedSimpArgs false
set_option linter.unusedVariables false
attribute [local go_sem] run_store_float
attribute [local go_sem low] EW.cellN EW.frozN alloc_cell_or alloc_froz_or EW.cellF EW.frozF EW.cell1 EW.froz1
attribute [local go_sem] relAt relUpon
theorem sameT_comm (a b : Req) : (((reqS a).toList == (reqS b).toList) && (reqE a == 0) && (reqE b == 0)) = sameT a b := by
  unfold sameT
  cases (reqE a == 0) <;> cases (reqE b == 0) <;> cases ((reqS a).toList == (reqS b).toList) <;> rfl
set_option maxHeartbeats 1000000 in
set_option maxRecDepth 100000 in
theorem deeds_Same (c1 s1 k1 : Int) (key1 : ByteArray) (x1 : Nat) (id1 : Int) (c2 s2 k2 : Int) (key2 : ByteArray) (x2 : Nat) (id2 : Int) (h1 : ReqOk ⟨c1, s1, ⟨k1, key1, x1, id1⟩⟩) (h2 : ReqOk ⟨c2, s2, ⟨k2, key2, x2, id2⟩⟩) (w : World) :
    Calls Try.prog 98 #[.agg #[.int .i64 c1, .int .i64 s1, .int .i64 k1, .string key1, .float .f64 x1, .int .i64 id1], .agg #[.int .i64 c2, .int .i64 s2, .int .i64 k2, .string key2, .float .f64 x2, .int .i64 id2]] w fun e w' =>
    e = .returned (.bool (sameT ⟨c1, s1, ⟨k1, key1, x1, id1⟩⟩ ⟨c2, s2, ⟨k2, key2, x2, id2⟩⟩)) ∧ Ext Non w w' := by
  have H1 := Go.Lib.hid h1; have H2 := Go.Lib.hid h2
  have DS := Go.Lib.hid (sameT_comm ⟨c1, s1, ⟨k1, key1, x1, id1⟩⟩ ⟨c2, s2, ⟨k2, key2, x2, id2⟩⟩)
  clear h1 h2
  go_enter Try.func98, Try.ntmps98
  go_wp2_with fail
  refine Calls.ew (deeds_Text c1 s1 k1 key1 x1 id1 H1.out.c H1.out.s H1.out.k H1.out.id H1.out.x H1.out.key _) ?_
  rintro e y1 rfl
  go_wp2_with fail
  refine Calls.ew (deeds_Text c2 s2 k2 key2 x2 id2 H2.out.c H2.out.s H2.out.k H2.out.id H2.out.x H2.out.key _) ?_
  rintro e y2 rfl
  generalize hs1 : reqS ⟨c1, s1, ⟨k1, key1, x1, id1⟩⟩ = t1 at *
  generalize hs2 : reqS ⟨c2, s2, ⟨k2, key2, x2, id2⟩⟩ = t2 at *
  generalize he1 : reqE ⟨c1, s1, ⟨k1, key1, x1, id1⟩⟩ = e1 at *
  generalize he2 : reqE ⟨c2, s2, ⟨k2, key2, x2, id2⟩⟩ = e2 at *
  clear hs1 hs2 he1 he2
  cases hb3 : (t1.toList == t2.toList)
  · as_aux_lemma =>
    have B3 := Go.Lib.hid hb3
    go_wp2
    go_ret
    exact ⟨ret_bool (by rw [← DS.out, B3.out]; rfl), by (repeat (first | with_reducible (first | exact Ext.refl _ _ | assumption | refine Ext.upN ?_ | refine Ext.alloc ?_ _ | refine Ext.drew ?_ | refine Ext.drewN ?_ _ | refine Ext.upF ?_ | refine Ext.upFF (by first | omega | simp) ?_ | refine Ext.setCellsF _ _ _ (by first | omega | simp) ?_ | refine Ext.setCellF _ _ _ (by first | omega | simp) ?_ | refine Ext.upFN (by first | omega | simp) ?_ | refine Ext.up1F (by first | omega | simp) ?_ | refine Ext.up1N (by first | omega | simp) ?_) | refine Ext.alloc ?_ _ | refine Ext.setCellF _ _ _ (by first | omega | simp) ?_ | refine Ext.setCell ?_ (.inr (by first | omega | simp)) _))⟩
  · cases hb1 : (e1 == 0)
    · as_aux_lemma =>
      have B1 := Go.Lib.hid hb1; have B3 := Go.Lib.hid hb3
      go_wp2
      go_ret
      exact ⟨ret_bool (by rw [← DS.out, B3.out, B1.out]; rfl), by (repeat (first | with_reducible (first | exact Ext.refl _ _ | assumption | refine Ext.upN ?_ | refine Ext.alloc ?_ _ | refine Ext.drew ?_ | refine Ext.drewN ?_ _ | refine Ext.upF ?_ | refine Ext.upFF (by first | omega | simp) ?_ | refine Ext.setCellsF _ _ _ (by first | omega | simp) ?_ | refine Ext.setCellF _ _ _ (by first | omega | simp) ?_ | refine Ext.upFN (by first | omega | simp) ?_ | refine Ext.up1F (by first | omega | simp) ?_ | refine Ext.up1N (by first | omega | simp) ?_) | refine Ext.alloc ?_ _ | refine Ext.setCellF _ _ _ (by first | omega | simp) ?_ | refine Ext.setCell ?_ (.inr (by first | omega | simp)) _))⟩
    · cases hb2 : (e2 == 0)
      all_goals
        have B1 := Go.Lib.hid hb1; have B2 := Go.Lib.hid hb2; have B3 := Go.Lib.hid hb3
        go_wp2
        go_ret
        exact ⟨ret_bool (by rw [← DS.out, B1.out, B2.out, B3.out]; rfl), by (repeat (first | with_reducible (first | exact Ext.refl _ _ | assumption | refine Ext.upN ?_ | refine Ext.alloc ?_ _ | refine Ext.drew ?_ | refine Ext.drewN ?_ _ | refine Ext.upF ?_ | refine Ext.upFF (by first | omega | simp) ?_ | refine Ext.setCellsF _ _ _ (by first | omega | simp) ?_ | refine Ext.setCellF _ _ _ (by first | omega | simp) ?_ | refine Ext.upFN (by first | omega | simp) ?_ | refine Ext.up1F (by first | omega | simp) ?_ | refine Ext.up1N (by first | omega | simp) ?_) | refine Ext.alloc ?_ _ | refine Ext.setCellF _ _ _ (by first | omega | simp) ?_ | refine Ext.setCell ?_ (.inr (by first | omega | simp)) _))⟩
/-- How votes lie in a map. -/
def vtV (v : Vt) : Value := .agg #[.int .i64 v.req.client, .int .i64 v.req.stamp, .int .i64 v.req.op.kind, .string v.req.op.key, .float .f64 v.req.op.real, .int .i64 v.req.op.id, .int .i64 v.by_, .string v.text]
def vtE : MEnc Int Vt := ⟨.int .i64, .int .i64, vtV, fun _ => rfl, fun a b h => by injection h⟩
theorem zero_vote (w : World) : (zeroValue 143).run Try.prog w = .ok (vtV zeroV) w := by kernel_rfl
def ptV (q : Option Nat) : Value := .pointer (q.map fun k => ⟨k, 0, none⟩)
/-- What a pointer to a request points to. -/
def PtrR (w : World) (F : Nat → Prop) (q : Option Nat) (o : Option Req) : Prop :=
  (q = none ∧ o = none) ∨ ∃ k r, q = some k ∧ o = some r ∧ F k ∧ ReqOk r ∧ Bx w k r.cells 49
def VtsOk (l : List (Int × Vt)) : Prop := ∀ p ∈ l, p.2.ok
theorem vts_get {l : List (Int × Vt)} (h : VtsOk l) (k : Int) : ((getG l k).getD zeroV).ok := by
  cases hg : getG l k with
  | none => exact zeroV_ok
  | some v => exact h _ (getG_mem hg)
theorem sigFor_has {l : List (Int × Vt)} {r : Req} {k : Int} : sigFor l r k = if hasG l k = true then (if sameT ((getG l k).getD zeroV).req r = true then some ⟨((getG l k).getD zeroV).by_, ((getG l k).getD zeroV).text⟩ else none) else none := by
  unfold sigFor hasG
  cases getG l k <;> rfl
theorem agreeG_ok {l : List (Int × Vt)} (h : VtsOk l) (r : Req) (ms : List Int) : ∀ s ∈ agreeG l r ms, I64 s.by_ ∧ s.text.size ≤ 9223372036854775807 := by
  intro s hs
  unfold agreeG at hs
  obtain ⟨m, hm, e⟩ := List.mem_filterMap.1 hs
  unfold sigFor at e
  cases hg : getG l m with
  | none => rw [hg] at e; cases e
  | some v =>
    rw [hg] at e
    simp only at e
    split at e
    · injection e with e; subst e; have := h _ (getG_mem hg); exact ⟨this.2.1, this.2.2⟩
    · cases e
theorem agreeG_len (l : List (Int × Vt)) (r : Req) (ms : List Int) : (agreeG l r ms).length ≤ ms.length := List.length_filterMap_le _ _
set_option maxHeartbeats 4000000 in
set_option maxRecDepth 100000 in
theorem slots_agree (b o : Nat) (a : Option Addr) (c : Nat) (mem : List Int) (hml : mem.length ≤ 1000) (m : Nat) (votes : List (Int × Vt)) (hok : VtsOk votes) (F : Nat → Prop) (q : Option Nat) (rq : Option Req) (w : World)
    (h1 : w.cell? ⟨b, 1, none⟩ = some (.slice a mem.length c)) (hi : Ints w a c mem) (h2 : w.cell? ⟨b, o, none⟩ = some (ptV q)) (hr : PtrR w F q rq) (hv : MapG vtE w m votes) :
    Calls Try.prog 101 #[.pointer (some ⟨b, 0, none⟩), .pointer (some ⟨b, o, none⟩), .map (some m)] w fun e w' =>
    ∃ sa scap, e = .returned (.slice sa (agreeO votes rq mem).length scap) ∧ Sigs w' sa scap (agreeO votes rq mem) ∧ Ext Non w w' ∧ (∀ b o, sa = some ⟨b, o, none⟩ → w.heap.size ≤ b) := by
  have HI := Go.Lib.hid hi; have HV := Go.Lib.hid hv; have HOk := Go.Lib.hid hok
  have g1 := hi.small; have g2 := hi.le
  clear hi hv hok
  rcases hr with ⟨rfl, rfl⟩ | ⟨kr, ⟨rc, rs, ⟨rk, rkey, rx, rid⟩⟩, rfl, rfl, -, hro, hbr⟩
  · have h2' : w.cell? ⟨b, o, none⟩ = some (.pointer none) := h2
    clear h2
    go_enter Try.func101, Try.ntmps101
    go_wp2
    go_ret
    exact ⟨none, 0, rfl, ⟨Nat.zero_le _, by omega, fun j hj => absurd hj (Nat.not_lt_zero _)⟩, by (repeat (first | with_reducible (first | exact Ext.refl _ _ | assumption | refine Ext.upN ?_ | refine Ext.alloc ?_ _ | refine Ext.drew ?_ | refine Ext.drewN ?_ _ | refine Ext.upF ?_ | refine Ext.upFF (by first | omega | simp) ?_ | refine Ext.setCellsF _ _ _ (by first | omega | simp) ?_ | refine Ext.setCellF _ _ _ (by first | omega | simp) ?_ | refine Ext.upFN (by first | omega | simp) ?_ | refine Ext.up1F (by first | omega | simp) ?_ | refine Ext.up1N (by first | omega | simp) ?_) | refine Ext.alloc ?_ _ | refine Ext.setCellF _ _ _ (by first | omega | simp) ?_ | refine Ext.setCell ?_ (.inr (by first | omega | simp)) _)), fun b o e => by cases e⟩
  · have h2' : w.cell? ⟨b, o, none⟩ = some (.pointer (some ⟨kr, 0, none⟩)) := h2
    have HRo := Go.Lib.hid hro
    have n0 : w.cell? ⟨kr, 0, none⟩ = some (.int .i64 rc) := hbr.cell rfl
    have n1 : w.cell? ⟨kr, 1, none⟩ = some (.int .i64 rs) := hbr.cell rfl
    have n2 : w.cell? ⟨kr, 2, none⟩ = some (.int .i64 rk) := hbr.cell rfl
    have n3 : w.cell? ⟨kr, 3, none⟩ = some (.string rkey) := hbr.cell rfl
    have n4 : w.cell? ⟨kr, 4, none⟩ = some (.float .f64 rx) := hbr.cell rfl
    have n5 : w.cell? ⟨kr, 5, none⟩ = some (.int .i64 rid) := hbr.cell rfl
    clear h2 hro hbr
    have HO0 : Hid (w.ownsRow w.heap.size 24 2 (.slice none 0 0) 0 []) := Go.Lib.hid (World.ownsRow_nil _ _ _ _)
    go_enter Try.func101, Try.ntmps101
    go_wp2_with fail
    go_loopg [7, 24] mem.length (fun g ov iv wr => ∃ (i : Nat) (va : Option Addr) (vc : Nat) (z : EW Non w), i ≤ mem.length ∧ g = mem.length - i ∧ ov = .slice va (agreeG votes ⟨rc, rs, ⟨rk, rkey, rx, rid⟩⟩ (mem.take i)).length vc ∧ iv = .int .i64 i ∧ wr = z.on ∧ Hid (wr.ownsRow w.heap.size 24 2 (.slice va (agreeG votes ⟨rc, rs, ⟨rk, rkey, rx, rid⟩⟩ (mem.take i)).length vc) (agreeG votes ⟨rc, rs, ⟨rk, rkey, rx, rid⟩⟩ (mem.take i)).length (sigCells (agreeG votes ⟨rc, rs, ⟨rk, rkey, rx, rid⟩⟩ (mem.take i)))))
    case atStart => exact ⟨0, none, 0, ⟨_, by (repeat (first | with_reducible (first | exact Ext.refl _ _ | assumption | refine Ext.upN ?_ | refine Ext.alloc ?_ _ | refine Ext.drew ?_ | refine Ext.drewN ?_ _ | refine Ext.upF ?_ | refine Ext.upFF (by first | omega | simp) ?_ | refine Ext.setCellsF _ _ _ (by first | omega | simp) ?_ | refine Ext.setCellF _ _ _ (by first | omega | simp) ?_ | refine Ext.upFN (by first | omega | simp) ?_ | refine Ext.up1F (by first | omega | simp) ?_ | refine Ext.up1N (by first | omega | simp) ?_) | refine Ext.alloc ?_ _ | refine Ext.setCellF _ _ _ (by first | omega | simp) ?_ | refine Ext.setCell ?_ (.inr (by first | omega | simp)) _))⟩, Nat.zero_le _, rfl, rfl, rfl, rfl, HO0⟩
    case round =>
      clear HO0
      obtain ⟨i, va, vc, z, hi, hg, rfl, rfl, rfl, HO⟩ := hrel
      have HG := Go.Lib.hid hg; clear hg
      by_cases hlt : i < mem.length
      · obtain ⟨mb, mo, rfl, hc0, hc1⟩ := HI.out.at_ i hlt
        have HS := Go.Lib.hid (agreeG_snoc votes ⟨rc, rs, ⟨rk, rkey, rx, rid⟩⟩ mem i hlt)
        have hal : (agreeG votes ⟨rc, rs, ⟨rk, rkey, rx, rid⟩⟩ (mem.take i)).length ≤ 1000 := by have := agreeG_len votes ⟨rc, rs, ⟨rk, rkey, rx, rid⟩⟩ (mem.take i); simp at this; omega
        generalize mem[i] = mm at *
        generalize agreeG votes ⟨rc, rs, ⟨rk, rkey, rx, rid⟩⟩ (mem.take i) = al at *
        have HSF := Go.Lib.hid (sigFor_has (l := votes) (r := ⟨rc, rs, ⟨rk, rkey, rx, rid⟩⟩) (k := mm))
        have hlk : (Instr.lookup 123 (.map (some m)) (.int .i64 mm) true).run Try.prog z.on = .ok (.tuple #[vtV ((getG votes mm).getD zeroV), .bool (hasG votes mm)]) z.on :=
          MapG.lookup (E := vtE) Try.underlying123 Try.underlying3 (zero_vote _) (HV.out.extN z.ext) mm
        have HVo := Go.Lib.hid (vts_get HOk.out mm)
        generalize (getG votes mm).getD zeroV = vt at *
        obtain ⟨⟨tc, ts, ⟨tk, tkey, tx, tid⟩⟩, tby, ttx⟩ := vt
        unfold vtV at hlk
        simp only at hlk
        go_upto_region 8 with fail
        cases hh : hasG votes mm
        · have HH := Go.Lib.hid hh
          have HA : Hid (agreeG votes ⟨rc, rs, ⟨rk, rkey, rx, rid⟩⟩ (mem.take (i + 1)) = al) := Go.Lib.hid (by rw [HS.out, HSF.out, if_neg (by rw [HH.out]; simp)]; simp)
          clear hh
          (refine wp_region_ext_lit (by kernel_rfl) (by kernel_rfl) ?_; (repeat (go_big_quiet_step (fail))); refine wpQuiet_nil ?_; intro _ hw'; obtain ⟨xq, hw''⟩ := hw'; subst hw'')
          go_wp2_with fail
          go_roundg (mem.length - (i + 1))
          case measure => have := HG.out; omega
          case rel => exact ⟨i + 1, va, vc, ⟨_, by (repeat (first | with_reducible (first | exact Ext.refl _ _ | assumption | refine Ext.upN ?_ | refine Ext.alloc ?_ _ | refine Ext.drew ?_ | refine Ext.drewN ?_ _ | refine Ext.upF ?_ | refine Ext.upFF (by first | omega | simp) ?_ | refine Ext.setCellsF _ _ _ (by first | omega | simp) ?_ | refine Ext.setCellF _ _ _ (by first | omega | simp) ?_ | refine Ext.upFN (by first | omega | simp) ?_ | refine Ext.up1F (by first | omega | simp) ?_ | refine Ext.up1N (by first | omega | simp) ?_) | refine Ext.alloc ?_ _ | refine Ext.setCellF _ _ _ (by first | omega | simp) ?_ | refine Ext.setCell ?_ (.inr (by first | omega | simp)) _))⟩, hlt, rfl, by rw [HA.out], by go_num, rfl, Go.Lib.hid (by rw [HA.out]; exact ownR_extN HO.out (by (repeat (first | with_reducible (first | exact Ext.refl _ _ | assumption | refine Ext.upN ?_ | refine Ext.alloc ?_ _ | refine Ext.drew ?_ | refine Ext.drewN ?_ _ | refine Ext.upF ?_ | refine Ext.upFF (by first | omega | simp) ?_ | refine Ext.setCellsF _ _ _ (by first | omega | simp) ?_ | refine Ext.setCellF _ _ _ (by first | omega | simp) ?_ | refine Ext.upFN (by first | omega | simp) ?_ | refine Ext.up1F (by first | omega | simp) ?_ | refine Ext.up1N (by first | omega | simp) ?_) | refine Ext.alloc ?_ _ | refine Ext.setCellF _ _ _ (by first | omega | simp) ?_ | refine Ext.setCell ?_ (.inr (by first | omega | simp)) _))))⟩
        · have HH := Go.Lib.hid hh
          clear hh
          cases hw : sameT ⟨tc, ts, ⟨tk, tkey, tx, tid⟩⟩ ⟨rc, rs, ⟨rk, rkey, rx, rid⟩⟩
          · have HW := Go.Lib.hid hw
            have HA : Hid (agreeG votes ⟨rc, rs, ⟨rk, rkey, rx, rid⟩⟩ (mem.take (i + 1)) = al) := Go.Lib.hid (by rw [HS.out, HSF.out, if_pos HH.out, if_neg (by rw [HW.out]; simp)]; simp)
            clear hw
            (refine wp_region_ext_lit (by kernel_rfl) (by kernel_rfl) ?_; (repeat (go_big_quiet_step ((go_at_call 98; exact Calls.ext_ofv (deeds_Same tc ts tk tkey tx tid rc rs rk rkey rx rid HVo.out.1 HRo.out _) (congrArg Value.bool HW.out))))); refine wpQuiet_nil ?_; intro _ hw'; obtain ⟨xq, hw''⟩ := hw'; subst hw'')
            go_wp2_with fail
            go_roundg (mem.length - (i + 1))
            case measure => have := HG.out; omega
            case rel => exact ⟨i + 1, va, vc, ⟨_, by (repeat (first | with_reducible (first | exact Ext.refl _ _ | assumption | refine Ext.upN ?_ | refine Ext.alloc ?_ _ | refine Ext.drew ?_ | refine Ext.drewN ?_ _ | refine Ext.upF ?_ | refine Ext.upFF (by first | omega | simp) ?_ | refine Ext.setCellsF _ _ _ (by first | omega | simp) ?_ | refine Ext.setCellF _ _ _ (by first | omega | simp) ?_ | refine Ext.upFN (by first | omega | simp) ?_ | refine Ext.up1F (by first | omega | simp) ?_ | refine Ext.up1N (by first | omega | simp) ?_) | refine Ext.alloc ?_ _ | refine Ext.setCellF _ _ _ (by first | omega | simp) ?_ | refine Ext.setCell ?_ (.inr (by first | omega | simp)) _))⟩, hlt, rfl, by rw [HA.out], by go_num, rfl, Go.Lib.hid (by rw [HA.out]; exact ownR_extN HO.out (by (repeat (first | with_reducible (first | exact Ext.refl _ _ | assumption | refine Ext.upN ?_ | refine Ext.alloc ?_ _ | refine Ext.drew ?_ | refine Ext.drewN ?_ _ | refine Ext.upF ?_ | refine Ext.upFF (by first | omega | simp) ?_ | refine Ext.setCellsF _ _ _ (by first | omega | simp) ?_ | refine Ext.setCellF _ _ _ (by first | omega | simp) ?_ | refine Ext.upFN (by first | omega | simp) ?_ | refine Ext.up1F (by first | omega | simp) ?_ | refine Ext.up1N (by first | omega | simp) ?_) | refine Ext.alloc ?_ _ | refine Ext.setCellF _ _ _ (by first | omega | simp) ?_ | refine Ext.setCell ?_ (.inr (by first | omega | simp)) _))))⟩
          · have HW := Go.Lib.hid hw
            have HA : Hid (agreeG votes ⟨rc, rs, ⟨rk, rkey, rx, rid⟩⟩ (mem.take (i + 1)) = al ++ [⟨tby, ttx⟩]) := Go.Lib.hid (by rw [HS.out, HSF.out, if_pos HH.out, if_pos HW.out]; rfl)
            clear hw
            (refine wp_region_ext_lit (by kernel_rfl) (by kernel_rfl) ?_; (repeat (go_big_quiet_step ((go_at_call 98; exact Calls.ext_ofv (deeds_Same tc ts tk tkey tx tid rc rs rk rkey rx rid HVo.out.1 HRo.out _) (congrArg Value.bool HW.out))))); refine wpQuiet_nil ?_; intro _ hw'; obtain ⟨xq, hw''⟩ := hw'; subst hw'')
            have hws : w.heap.size ≤ xq.on.heap.size := by have h1 := xq.ext.size; have h2 := z.ext.size; simp at h1; omega
            go_wp2_with (at_builtin; refine wpList_append_ew rfl _ _ 50 rfl w.heap.size 24 2 24 _ Try.underlying50 info_sig (by rfl) (by omega) (by omega) _ al.length _ rfl (ownR_extN HO.out (by (repeat (first | with_reducible (first | exact Ext.refl _ _ | assumption | refine Ext.upN ?_ | refine Ext.alloc ?_ _ | refine Ext.drew ?_ | refine Ext.drewN ?_ _ | refine Ext.upF ?_ | refine Ext.upFF (by first | omega | simp) ?_ | refine Ext.setCellsF _ _ _ (by first | omega | simp) ?_ | refine Ext.setCellF _ _ _ (by first | omega | simp) ?_ | refine Ext.upFN (by first | omega | simp) ?_ | refine Ext.up1F (by first | omega | simp) ?_ | refine Ext.up1N (by first | omega | simp) ?_) | refine Ext.alloc ?_ _ | refine Ext.setCellF _ _ _ (by first | omega | simp) ?_ | refine Ext.setCell ?_ (.inr (by first | omega | simp)) _)))) xq.on.heap.size [.int .i64 tby, .string ttx] 24 rfl (Bx.newAt _ _ _ _ rfl) rfl (by simp [Value.oneCell']) (by omega) (by simp; omega) (fun v' W2 hO => ?_); obtain ⟨g, gc, rfl, hgg⟩ := ownR_some hO; have HO2 := Go.Lib.hid hO; clear hO)
            go_roundg (mem.length - (i + 1))
            case measure => have := HG.out; omega
            case rel => exact ⟨i + 1, some ⟨g, 0, none⟩, gc, ⟨_, by (repeat (first | with_reducible (first | exact Ext.refl _ _ | assumption | refine Ext.upN ?_ | refine Ext.alloc ?_ _ | refine Ext.drew ?_ | refine Ext.drewN ?_ _ | refine Ext.upF ?_ | refine Ext.upFF (by first | omega | simp) ?_ | refine Ext.setCellsF _ _ _ (by first | omega | simp) ?_ | refine Ext.setCellF _ _ _ (by first | omega | simp) ?_ | refine Ext.upFN (by first | omega | simp) ?_ | refine Ext.up1F (by first | omega | simp) ?_ | refine Ext.up1N (by first | omega | simp) ?_) | refine Ext.alloc ?_ _ | refine Ext.setCellF _ _ _ (by first | omega | simp) ?_ | refine Ext.setCell ?_ (.inr (by first | omega | simp)) _))⟩, hlt, rfl, by rw [HA.out]; simp, by go_num, rfl, Go.Lib.hid (by rw [HA.out, List.length_append, sigCells_snoc]; exact HO2.out)⟩
      · have hN : mem.take i = mem := List.take_of_length_le (by omega)
        rw [hN] at HO ⊢
        obtain ⟨sa, scap, e1, hS⟩ := sigs_of_own HO.out rfl (agreeG_ok HOk.out _ _)
        injection e1 with e1 e2 e3
        subst e1; subst e3
        have HSg := Go.Lib.hid hS
        have HFr : Hid (∀ b o, va = some ⟨b, o, none⟩ → w.heap.size ≤ b) := Go.Lib.hid (fun b o e => (HO.out.lt b (by rw [e]; rfl)).1)
        clear hS hN
        go_wp2
        go_ret
        exact ⟨va, vc, rfl, HSg.out.extN (by (repeat (first | with_reducible (first | exact Ext.refl _ _ | assumption | refine Ext.upN ?_ | refine Ext.alloc ?_ _ | refine Ext.drew ?_ | refine Ext.drewN ?_ _ | refine Ext.upF ?_ | refine Ext.upFF (by first | omega | simp) ?_ | refine Ext.setCellsF _ _ _ (by first | omega | simp) ?_ | refine Ext.setCellF _ _ _ (by first | omega | simp) ?_ | refine Ext.upFN (by first | omega | simp) ?_ | refine Ext.up1F (by first | omega | simp) ?_ | refine Ext.up1N (by first | omega | simp) ?_) | refine Ext.alloc ?_ _ | refine Ext.setCellF _ _ _ (by first | omega | simp) ?_ | refine Ext.setCell ?_ (.inr (by first | omega | simp)) _))), by (repeat (first | with_reducible (first | exact Ext.refl _ _ | assumption | refine Ext.upN ?_ | refine Ext.alloc ?_ _ | refine Ext.drew ?_ | refine Ext.drewN ?_ _ | refine Ext.upF ?_ | refine Ext.upFF (by first | omega | simp) ?_ | refine Ext.setCellsF _ _ _ (by first | omega | simp) ?_ | refine Ext.setCellF _ _ _ (by first | omega | simp) ?_ | refine Ext.upFN (by first | omega | simp) ?_ | refine Ext.up1F (by first | omega | simp) ?_ | refine Ext.up1N (by first | omega | simp) ?_) | refine Ext.alloc ?_ _ | refine Ext.setCellF _ _ _ (by first | omega | simp) ?_ | refine Ext.setCell ?_ (.inr (by first | omega | simp)) _)), HFr.out⟩
set_option maxRecDepth 100000 in
theorem slots_enough (b : Nat) (a : Option Addr) (c : Nat) (mem : List Int) (hml : mem.length ≤ 1000) (sa : Option Addr) (n scap : Nat) (w : World) (h1 : w.cell? ⟨b, 1, none⟩ = some (.slice a mem.length c)) :
    Calls Try.prog 100 #[.pointer (some ⟨b, 0, none⟩), .slice sa n scap] w fun e w' => e = .returned (.bool (enoughB mem n)) ∧ w = w' := by
  have DE : Hid (enoughB mem n = decide (quorumI mem.length ≤ (n : Int))) := Go.Lib.hid rfl
  go_enter Try.func100, Try.ntmps100
  go_wp2_with fail
  refine (council_Quorum (mem.length : Int) (by omega) (by omega) _).mono ?_
  rintro e _ ⟨rfl, rfl⟩
  generalize quorumI mem.length = qq at *
  go_wp2
  go_ret
  exact ⟨ret_bool DE.out.symm, rfl⟩
end Go.Proofs.Ytakbkpklfihfiaa
