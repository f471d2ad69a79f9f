/- Joined texts: Slots1, Slots2. What each proves stands at its head; no conditions beside those in its theorems. -/
import Derived.Test.YtflpkoafebjfdaaGreatPjAR
import Derived.Test.YtflpkoafebjfdaaGreatPjAS
/- Contracts of layer 14: deeds.Same, Log.agree, Log.enough. -/
namespace Go.Proofs.YtflpkoafebjfdaaGreat
open Go.RowKit Go.Lib F64
set_option linter.unusedSimpArgs false
set_option linter.unusedVariables false
attribute [local go_sem] run_store_float
attribute [local go_sem low] EW.cellN EW.frozN alloc_cell_or alloc_froz_or EW.cellF EW.frozF EW.cell1 EW.froz1
attribute [local go_sem] relAt relUpon
theorem sameT_comm (a b : Req) : (((reqS a).toList == (reqS b).toList) && (reqE a == 0) && (reqE b == 0)) = sameT a b := by
  unfold sameT
  cases (reqE a == 0) <;> cases (reqE b == 0) <;> cases ((reqS a).toList == (reqS b).toList) <;> rfl
set_option maxHeartbeats 1000000 in
set_option maxRecDepth 100000 in
theorem deeds_Same (c1 s1 k1 : Int) (key1 : ByteArray) (x1 : Nat) (id1 : Int) (c2 s2 k2 : Int) (key2 : ByteArray) (x2 : Nat) (id2 : Int) (h1 : ReqOk ⟨c1, s1, ⟨k1, key1, x1, id1⟩⟩) (h2 : ReqOk ⟨c2, s2, ⟨k2, key2, x2, id2⟩⟩) (w : World) :
    Calls Tryz.prog 271 #[.agg #[.int .i64 c1, .int .i64 s1, .int .i64 k1, .string key1, .float .f64 x1, .int .i64 id1], .agg #[.int .i64 c2, .int .i64 s2, .int .i64 k2, .string key2, .float .f64 x2, .int .i64 id2]] w fun e w' =>
    e = .returned (.bool (sameT ⟨c1, s1, ⟨k1, key1, x1, id1⟩⟩ ⟨c2, s2, ⟨k2, key2, x2, id2⟩⟩)) ∧ Ext Non w w' := by
  have H1 := Go.Lib.hid h1; have H2 := Go.Lib.hid h2
  have DS := Go.Lib.hid (sameT_comm ⟨c1, s1, ⟨k1, key1, x1, id1⟩⟩ ⟨c2, s2, ⟨k2, key2, x2, id2⟩⟩)
  clear h1 h2
  go_enter Tryz.func271, Tryz.ntmps271
  go_wp2_with fail
  refine Calls.ew (deeds_Text c1 s1 k1 key1 x1 id1 H1.out.c H1.out.s H1.out.k H1.out.id H1.out.x H1.out.key _) ?_
  rintro e y1 rfl
  go_wp2_with fail
  refine Calls.ew (deeds_Text c2 s2 k2 key2 x2 id2 H2.out.c H2.out.s H2.out.k H2.out.id H2.out.x H2.out.key _) ?_
  rintro e y2 rfl
  generalize hs1 : reqS ⟨c1, s1, ⟨k1, key1, x1, id1⟩⟩ = t1 at *
  generalize hs2 : reqS ⟨c2, s2, ⟨k2, key2, x2, id2⟩⟩ = t2 at *
  generalize he1 : reqE ⟨c1, s1, ⟨k1, key1, x1, id1⟩⟩ = e1 at *
  generalize he2 : reqE ⟨c2, s2, ⟨k2, key2, x2, id2⟩⟩ = e2 at *
  clear hs1 hs2 he1 he2
  cases hb3 : (t1.toList == t2.toList)
  · as_aux_lemma =>
    have B3 := Go.Lib.hid hb3
    go_wp2
    go_ret
    exact ⟨ret_bool (by rw [← DS.out, B3.out]; rfl), by (repeat (first | with_reducible (first | exact Ext.refl _ _ | assumption | refine Ext.upN ?_ | refine Ext.alloc ?_ _ | refine Ext.drew ?_ | refine Ext.drewN ?_ _ | refine Ext.upF ?_ | refine Ext.upFF (by first | omega | simp) ?_ | refine Ext.setCellsF _ _ _ (by first | omega | simp) ?_ | refine Ext.setCellF _ _ _ (by first | omega | simp) ?_ | refine Ext.upFN (by first | omega | simp) ?_ | refine Ext.up1F (by first | omega | simp) ?_ | refine Ext.up1N (by first | omega | simp) ?_) | refine Ext.alloc ?_ _ | refine Ext.setCellF _ _ _ (by first | omega | simp) ?_ | refine Ext.setCell ?_ (.inr (by first | omega | simp)) _))⟩
  · cases hb1 : (e1 == 0)
    · as_aux_lemma =>
      have B1 := Go.Lib.hid hb1; have B3 := Go.Lib.hid hb3
      go_wp2
      go_ret
      exact ⟨ret_bool (by rw [← DS.out, B3.out, B1.out]; rfl), by (repeat (first | with_reducible (first | exact Ext.refl _ _ | assumption | refine Ext.upN ?_ | refine Ext.alloc ?_ _ | refine Ext.drew ?_ | refine Ext.drewN ?_ _ | refine Ext.upF ?_ | refine Ext.upFF (by first | omega | simp) ?_ | refine Ext.setCellsF _ _ _ (by first | omega | simp) ?_ | refine Ext.setCellF _ _ _ (by first | omega | simp) ?_ | refine Ext.upFN (by first | omega | simp) ?_ | refine Ext.up1F (by first | omega | simp) ?_ | refine Ext.up1N (by first | omega | simp) ?_) | refine Ext.alloc ?_ _ | refine Ext.setCellF _ _ _ (by first | omega | simp) ?_ | refine Ext.setCell ?_ (.inr (by first | omega | simp)) _))⟩
    · cases hb2 : (e2 == 0)
      all_goals
        have B1 := Go.Lib.hid hb1; have B2 := Go.Lib.hid hb2; have B3 := Go.Lib.hid hb3
        go_wp2
        go_ret
        exact ⟨ret_bool (by rw [← DS.out, B1.out, B2.out, B3.out]; rfl), by (repeat (first | with_reducible (first | exact Ext.refl _ _ | assumption | refine Ext.upN ?_ | refine Ext.alloc ?_ _ | refine Ext.drew ?_ | refine Ext.drewN ?_ _ | refine Ext.upF ?_ | refine Ext.upFF (by first | omega | simp) ?_ | refine Ext.setCellsF _ _ _ (by first | omega | simp) ?_ | refine Ext.setCellF _ _ _ (by first | omega | simp) ?_ | refine Ext.upFN (by first | omega | simp) ?_ | refine Ext.up1F (by first | omega | simp) ?_ | refine Ext.up1N (by first | omega | simp) ?_) | refine Ext.alloc ?_ _ | refine Ext.setCellF _ _ _ (by first | omega | simp) ?_ | refine Ext.setCell ?_ (.inr (by first | omega | simp)) _))⟩
/-- How votes lie in a map. -/
def vtV (v : Vt) : Value := .agg #[.int .i64 v.req.client, .int .i64 v.req.stamp, .int .i64 v.req.op.kind, .string v.req.op.key, .float .f64 v.req.op.real, .int .i64 v.req.op.id, .int .i64 v.by_, .string v.text]
def vtE : MEnc Int Vt := ⟨.int .i64, .int .i64, vtV, fun _ => rfl, fun a b h => by injection h⟩
theorem zero_vote (w : World) : (zeroValue 313).run Tryz.prog w = .ok (vtV zeroV) w := by kernel_rfl
def ptV (q : Option Nat) : Value := .pointer (q.map fun k => ⟨k, 0, none⟩)
/-- What a pointer to a request points to. -/
def PtrR (w : World) (F : Nat → Prop) (q : Option Nat) (o : Option Req) : Prop :=
  (q = none ∧ o = none) ∨ ∃ k r, q = some k ∧ o = some r ∧ F k ∧ ReqOk r ∧ Bx w k r.cells 37
def VtsOk (l : List (Int × Vt)) : Prop := ∀ p ∈ l, p.2.ok
theorem vts_get {l : List (Int × Vt)} (h : VtsOk l) (k : Int) : ((getG l k).getD zeroV).ok := by
  cases hg : getG l k with
  | none => exact zeroV_ok
  | some v => exact h _ (getG_mem hg)
theorem sigFor_has {l : List (Int × Vt)} {r : Req} {k : Int} : sigFor l r k = if hasG l k = true then (if sameT ((getG l k).getD zeroV).req r = true then some ⟨((getG l k).getD zeroV).by_, ((getG l k).getD zeroV).text⟩ else none) else none := by
  unfold sigFor hasG
  cases getG l k <;> rfl
theorem agreeG_ok {l : List (Int × Vt)} (h : VtsOk l) (r : Req) (ms : List Int) : ∀ s ∈ agreeG l r ms, I64 s.by_ ∧ s.text.size ≤ 9223372036854775807 := by
  intro s hs
  unfold agreeG at hs
  obtain ⟨m, hm, e⟩ := List.mem_filterMap.1 hs
  unfold sigFor at e
  cases hg : getG l m with
  | none => rw [hg] at e; cases e
  | some v =>
    rw [hg] at e
    simp only at e
    split at e
    · injection e with e; subst e; have := h _ (getG_mem hg); exact ⟨this.2.1, this.2.2⟩
    · cases e
theorem agreeG_len (l : List (Int × Vt)) (r : Req) (ms : List Int) : (agreeG l r ms).length ≤ ms.length := List.length_filterMap_le _ _
set_option maxHeartbeats 4000000 in
set_option maxRecDepth 100000 in
theorem slots_agree (b o : Nat) (a : Option Addr) (c : Nat) (mem : List Int) (hml : mem.length ≤ 1000) (m : Nat) (votes : List (Int × Vt)) (hok : VtsOk votes) (F : Nat → Prop) (q : Option Nat) (rq : Option Req) (w : World)
    (h1 : w.cell? ⟨b, 1, none⟩ = some (.slice a mem.length c)) (hi : Ints w a c mem) (h2 : w.cell? ⟨b, o, none⟩ = some (ptV q)) (hr : PtrR w F q rq) (hv : MapG vtE w m votes) :
    Calls Tryz.prog 319 #[.pointer (some ⟨b, 0, none⟩), .pointer (some ⟨b, o, none⟩), .map (some m)] w fun e w' =>
    ∃ sa scap, e = .returned (.slice sa (agreeO votes rq mem).length scap) ∧ Sigs w' sa scap (agreeO votes rq mem) ∧ Ext Non w w' ∧ (∀ b o, sa = some ⟨b, o, none⟩ → w.heap.size ≤ b) := by
  have HI := Go.Lib.hid hi; have HV := Go.Lib.hid hv; have HOk := Go.Lib.hid hok
  have g1 := hi.small; have g2 := hi.le
  clear hi hv hok
  rcases hr with ⟨rfl, rfl⟩ | ⟨kr, ⟨rc, rs, ⟨rk, rkey, rx, rid⟩⟩, rfl, rfl, -, hro, hbr⟩
  · have h2' : w.cell? ⟨b, o, none⟩ = some (.pointer none) := h2
    clear h2
    go_enter Tryz.func319, Tryz.ntmps319
    go_wp2
    go_ret
    exact ⟨none, 0, rfl, ⟨Nat.zero_le _, by omega, fun j hj => absurd hj (Nat.not_lt_zero _)⟩, by (repeat (first | with_reducible (first | exact Ext.refl _ _ | assumption | refine Ext.upN ?_ | refine Ext.alloc ?_ _ | refine Ext.drew ?_ | refine Ext.drewN ?_ _ | refine Ext.upF ?_ | refine Ext.upFF (by first | omega | simp) ?_ | refine Ext.setCellsF _ _ _ (by first | omega | simp) ?_ | refine Ext.setCellF _ _ _ (by first | omega | simp) ?_ | refine Ext.upFN (by first | omega | simp) ?_ | refine Ext.up1F (by first | omega | simp) ?_ | refine Ext.up1N (by first | omega | simp) ?_) | refine Ext.alloc ?_ _ | refine Ext.setCellF _ _ _ (by first | omega | simp) ?_ | refine Ext.setCell ?_ (.inr (by first | omega | simp)) _)), fun b o e => by cases e⟩
  · have h2' : w.cell? ⟨b, o, none⟩ = some (.pointer (some ⟨kr, 0, none⟩)) := h2
    have HRo := Go.Lib.hid hro
    have n0 : w.cell? ⟨kr, 0, none⟩ = some (.int .i64 rc) := hbr.cell rfl
    have n1 : w.cell? ⟨kr, 1, none⟩ = some (.int .i64 rs) := hbr.cell rfl
    have n2 : w.cell? ⟨kr, 2, none⟩ = some (.int .i64 rk) := hbr.cell rfl
    have n3 : w.cell? ⟨kr, 3, none⟩ = some (.string rkey) := hbr.cell rfl
    have n4 : w.cell? ⟨kr, 4, none⟩ = some (.float .f64 rx) := hbr.cell rfl
    have n5 : w.cell? ⟨kr, 5, none⟩ = some (.int .i64 rid) := hbr.cell rfl
    clear h2 hro hbr
    have HO0 : Hid (w.ownsRow w.heap.size 48 2 (.slice none 0 0) 0 []) := Go.Lib.hid (World.ownsRow_nil _ _ _ _)
    go_enter Tryz.func319, Tryz.ntmps319
    go_wp2_with fail
    go_loopg [7, 24] mem.length (fun g ov iv wr => ∃ (i : Nat) (va : Option Addr) (vc : Nat) (z : EW Non w), i ≤ mem.length ∧ g = mem.length - i ∧ ov = .slice va (agreeG votes ⟨rc, rs, ⟨rk, rkey, rx, rid⟩⟩ (mem.take i)).length vc ∧ iv = .int .i64 i ∧ wr = z.on ∧ Hid (wr.ownsRow w.heap.size 48 2 (.slice va (agreeG votes ⟨rc, rs, ⟨rk, rkey, rx, rid⟩⟩ (mem.take i)).length vc) (agreeG votes ⟨rc, rs, ⟨rk, rkey, rx, rid⟩⟩ (mem.take i)).length (sigCells (agreeG votes ⟨rc, rs, ⟨rk, rkey, rx, rid⟩⟩ (mem.take i)))))
    case atStart => exact ⟨0, none, 0, ⟨_, by (repeat (first | with_reducible (first | exact Ext.refl _ _ | assumption | refine Ext.upN ?_ | refine Ext.alloc ?_ _ | refine Ext.drew ?_ | refine Ext.drewN ?_ _ | refine Ext.upF ?_ | refine Ext.upFF (by first | omega | simp) ?_ | refine Ext.setCellsF _ _ _ (by first | omega | simp) ?_ | refine Ext.setCellF _ _ _ (by first | omega | simp) ?_ | refine Ext.upFN (by first | omega | simp) ?_ | refine Ext.up1F (by first | omega | simp) ?_ | refine Ext.up1N (by first | omega | simp) ?_) | refine Ext.alloc ?_ _ | refine Ext.setCellF _ _ _ (by first | omega | simp) ?_ | refine Ext.setCell ?_ (.inr (by first | omega | simp)) _))⟩, Nat.zero_le _, rfl, rfl, rfl, rfl, HO0⟩
    case round =>
      clear HO0
      obtain ⟨i, va, vc, z, hi, hg, rfl, rfl, rfl, HO⟩ := hrel
      have HG := Go.Lib.hid hg; clear hg
      by_cases hlt : i < mem.length
      · obtain ⟨mb, mo, rfl, hc0, hc1⟩ := HI.out.at_ i hlt
        have HS := Go.Lib.hid (agreeG_snoc votes ⟨rc, rs, ⟨rk, rkey, rx, rid⟩⟩ mem i hlt)
        have hal : (agreeG votes ⟨rc, rs, ⟨rk, rkey, rx, rid⟩⟩ (mem.take i)).length ≤ 1000 := by have := agreeG_len votes ⟨rc, rs, ⟨rk, rkey, rx, rid⟩⟩ (mem.take i); simp at this; omega
        generalize mem[i] = mm at *
        generalize agreeG votes ⟨rc, rs, ⟨rk, rkey, rx, rid⟩⟩ (mem.take i) = al at *
        have HSF := Go.Lib.hid (sigFor_has (l := votes) (r := ⟨rc, rs, ⟨rk, rkey, rx, rid⟩⟩) (k := mm))
        have hlk : (Instr.lookup 187 (.map (some m)) (.int .i64 mm) true).run Tryz.prog z.on = .ok (.tuple #[vtV ((getG votes mm).getD zeroV), .bool (hasG votes mm)]) z.on :=
          MapG.lookup (E := vtE) Tryz.underlying187 Tryz.underlying3 (zero_vote _) (HV.out.extN z.ext) mm
        have HVo := Go.Lib.hid (vts_get HOk.out mm)
        generalize (getG votes mm).getD zeroV = vt at *
        obtain ⟨⟨tc, ts, ⟨tk, tkey, tx, tid⟩⟩, tby, ttx⟩ := vt
        unfold vtV at hlk
        simp only at hlk
        go_upto_region 8 with fail
        cases hh : hasG votes mm
        · have HH := Go.Lib.hid hh
          have HA : Hid (agreeG votes ⟨rc, rs, ⟨rk, rkey, rx, rid⟩⟩ (mem.take (i + 1)) = al) := Go.Lib.hid (by rw [HS.out, HSF.out, if_neg (by rw [HH.out]; simp)]; simp)
          clear hh
          (refine wp_region_ext_lit (by kernel_rfl) (by kernel_rfl) ?_; (repeat (go_big_quiet_step (fail))); refine wpQuiet_nil ?_; intro _ hw'; obtain ⟨xq, hw''⟩ := hw'; subst hw'')
          go_wp2_with fail
          go_roundg (mem.length - (i + 1))
          case measure => have := HG.out; omega
          case rel => exact ⟨i + 1, va, vc, ⟨_, by (repeat (first | with_reducible (first | exact Ext.refl _ _ | assumption | refine Ext.upN ?_ | refine Ext.alloc ?_ _ | refine Ext.drew ?_ | refine Ext.drewN ?_ _ | refine Ext.upF ?_ | refine Ext.upFF (by first | omega | simp) ?_ | refine Ext.setCellsF _ _ _ (by first | omega | simp) ?_ | refine Ext.setCellF _ _ _ (by first | omega | simp) ?_ | refine Ext.upFN (by first | omega | simp) ?_ | refine Ext.up1F (by first | omega | simp) ?_ | refine Ext.up1N (by first | omega | simp) ?_) | refine Ext.alloc ?_ _ | refine Ext.setCellF _ _ _ (by first | omega | simp) ?_ | refine Ext.setCell ?_ (.inr (by first | omega | simp)) _))⟩, hlt, rfl, by rw [HA.out], by go_num, rfl, Go.Lib.hid (by rw [HA.out]; exact ownR_extN HO.out (by (repeat (first | with_reducible (first | exact Ext.refl _ _ | assumption | refine Ext.upN ?_ | refine Ext.alloc ?_ _ | refine Ext.drew ?_ | refine Ext.drewN ?_ _ | refine Ext.upF ?_ | refine Ext.upFF (by first | omega | simp) ?_ | refine Ext.setCellsF _ _ _ (by first | omega | simp) ?_ | refine Ext.setCellF _ _ _ (by first | omega | simp) ?_ | refine Ext.upFN (by first | omega | simp) ?_ | refine Ext.up1F (by first | omega | simp) ?_ | refine Ext.up1N (by first | omega | simp) ?_) | refine Ext.alloc ?_ _ | refine Ext.setCellF _ _ _ (by first | omega | simp) ?_ | refine Ext.setCell ?_ (.inr (by first | omega | simp)) _))))⟩
        · have HH := Go.Lib.hid hh
          clear hh
          cases hw : sameT ⟨tc, ts, ⟨tk, tkey, tx, tid⟩⟩ ⟨rc, rs, ⟨rk, rkey, rx, rid⟩⟩
          · have HW := Go.Lib.hid hw
            have HA : Hid (agreeG votes ⟨rc, rs, ⟨rk, rkey, rx, rid⟩⟩ (mem.take (i + 1)) = al) := Go.Lib.hid (by rw [HS.out, HSF.out, if_pos HH.out, if_neg (by rw [HW.out]; simp)]; simp)
            clear hw
            (refine wp_region_ext_lit (by kernel_rfl) (by kernel_rfl) ?_; (repeat (go_big_quiet_step ((go_at_call 271; exact Calls.ext_ofv (deeds_Same tc ts tk tkey tx tid rc rs rk rkey rx rid HVo.out.1 HRo.out _) (congrArg Value.bool HW.out))))); refine wpQuiet_nil ?_; intro _ hw'; obtain ⟨xq, hw''⟩ := hw'; subst hw'')
            go_wp2_with fail
            go_roundg (mem.length - (i + 1))
            case measure => have := HG.out; omega
            case rel => exact ⟨i + 1, va, vc, ⟨_, by (repeat (first | with_reducible (first | exact Ext.refl _ _ | assumption | refine Ext.upN ?_ | refine Ext.alloc ?_ _ | refine Ext.drew ?_ | refine Ext.drewN ?_ _ | refine Ext.upF ?_ | refine Ext.upFF (by first | omega | simp) ?_ | refine Ext.setCellsF _ _ _ (by first | omega | simp) ?_ | refine Ext.setCellF _ _ _ (by first | omega | simp) ?_ | refine Ext.upFN (by first | omega | simp) ?_ | refine Ext.up1F (by first | omega | simp) ?_ | refine Ext.up1N (by first | omega | simp) ?_) | refine Ext.alloc ?_ _ | refine Ext.setCellF _ _ _ (by first | omega | simp) ?_ | refine Ext.setCell ?_ (.inr (by first | omega | simp)) _))⟩, hlt, rfl, by rw [HA.out], by go_num, rfl, Go.Lib.hid (by rw [HA.out]; exact ownR_extN HO.out (by (repeat (first | with_reducible (first | exact Ext.refl _ _ | assumption | refine Ext.upN ?_ | refine Ext.alloc ?_ _ | refine Ext.drew ?_ | refine Ext.drewN ?_ _ | refine Ext.upF ?_ | refine Ext.upFF (by first | omega | simp) ?_ | refine Ext.setCellsF _ _ _ (by first | omega | simp) ?_ | refine Ext.setCellF _ _ _ (by first | omega | simp) ?_ | refine Ext.upFN (by first | omega | simp) ?_ | refine Ext.up1F (by first | omega | simp) ?_ | refine Ext.up1N (by first | omega | simp) ?_) | refine Ext.alloc ?_ _ | refine Ext.setCellF _ _ _ (by first | omega | simp) ?_ | refine Ext.setCell ?_ (.inr (by first | omega | simp)) _))))⟩
          · have HW := Go.Lib.hid hw
            have HA : Hid (agreeG votes ⟨rc, rs, ⟨rk, rkey, rx, rid⟩⟩ (mem.take (i + 1)) = al ++ [⟨tby, ttx⟩]) := Go.Lib.hid (by rw [HS.out, HSF.out, if_pos HH.out, if_pos HW.out]; rfl)
            clear hw
            (refine wp_region_ext_lit (by kernel_rfl) (by kernel_rfl) ?_; (repeat (go_big_quiet_step ((go_at_call 271; exact Calls.ext_ofv (deeds_Same tc ts tk tkey tx tid rc rs rk rkey rx rid HVo.out.1 HRo.out _) (congrArg Value.bool HW.out))))); refine wpQuiet_nil ?_; intro _ hw'; obtain ⟨xq, hw''⟩ := hw'; subst hw'')
            have hws : w.heap.size ≤ xq.on.heap.size := by have h1 := xq.ext.size; have h2 := z.ext.size; simp at h1; omega
            go_wp2_with (at_builtin; refine wpList_append_ew rfl _ _ 31 rfl w.heap.size 48 2 24 _ Tryz.underlying31 info_sig (by rfl) (by omega) (by omega) _ al.length _ rfl (ownR_extN HO.out (by (repeat (first | with_reducible (first | exact Ext.refl _ _ | assumption | refine Ext.upN ?_ | refine Ext.alloc ?_ _ | refine Ext.drew ?_ | refine Ext.drewN ?_ _ | refine Ext.upF ?_ | refine Ext.upFF (by first | omega | simp) ?_ | refine Ext.setCellsF _ _ _ (by first | omega | simp) ?_ | refine Ext.setCellF _ _ _ (by first | omega | simp) ?_ | refine Ext.upFN (by first | omega | simp) ?_ | refine Ext.up1F (by first | omega | simp) ?_ | refine Ext.up1N (by first | omega | simp) ?_) | refine Ext.alloc ?_ _ | refine Ext.setCellF _ _ _ (by first | omega | simp) ?_ | refine Ext.setCell ?_ (.inr (by first | omega | simp)) _)))) xq.on.heap.size [.int .i64 tby, .string ttx] 48 rfl (Bx.newAt _ _ _ _ rfl) rfl (by simp [Value.oneCell']) (by omega) (by simp; omega) (fun v' W2 hO => ?_); obtain ⟨g, gc, rfl, hgg⟩ := ownR_some hO; have HO2 := Go.Lib.hid hO; clear hO)
            go_roundg (mem.length - (i + 1))
            case measure => have := HG.out; omega
            case rel => exact ⟨i + 1, some ⟨g, 0, none⟩, gc, ⟨_, by (repeat (first | with_reducible (first | exact Ext.refl _ _ | assumption | refine Ext.upN ?_ | refine Ext.alloc ?_ _ | refine Ext.drew ?_ | refine Ext.drewN ?_ _ | refine Ext.upF ?_ | refine Ext.upFF (by first | omega | simp) ?_ | refine Ext.setCellsF _ _ _ (by first | omega | simp) ?_ | refine Ext.setCellF _ _ _ (by first | omega | simp) ?_ | refine Ext.upFN (by first | omega | simp) ?_ | refine Ext.up1F (by first | omega | simp) ?_ | refine Ext.up1N (by first | omega | simp) ?_) | refine Ext.alloc ?_ _ | refine Ext.setCellF _ _ _ (by first | omega | simp) ?_ | refine Ext.setCell ?_ (.inr (by first | omega | simp)) _))⟩, hlt, rfl, by rw [HA.out]; simp, by go_num, rfl, Go.Lib.hid (by rw [HA.out, List.length_append, sigCells_snoc]; exact HO2.out)⟩
      · have hN : mem.take i = mem := List.take_of_length_le (by omega)
        rw [hN] at HO ⊢
        obtain ⟨sa, scap, e1, hS⟩ := sigs_of_own HO.out rfl (agreeG_ok HOk.out _ _)
        injection e1 with e1 e2 e3
        subst e1; subst e3
        have HSg := Go.Lib.hid hS
        have HFr : Hid (∀ b o, va = some ⟨b, o, none⟩ → w.heap.size ≤ b) := Go.Lib.hid (fun b o e => (HO.out.lt b (by rw [e]; rfl)).1)
        clear hS hN
        go_wp2
        go_ret
        exact ⟨va, vc, rfl, HSg.out.extN (by (repeat (first | with_reducible (first | exact Ext.refl _ _ | assumption | refine Ext.upN ?_ | refine Ext.alloc ?_ _ | refine Ext.drew ?_ | refine Ext.drewN ?_ _ | refine Ext.upF ?_ | refine Ext.upFF (by first | omega | simp) ?_ | refine Ext.setCellsF _ _ _ (by first | omega | simp) ?_ | refine Ext.setCellF _ _ _ (by first | omega | simp) ?_ | refine Ext.upFN (by first | omega | simp) ?_ | refine Ext.up1F (by first | omega | simp) ?_ | refine Ext.up1N (by first | omega | simp) ?_) | refine Ext.alloc ?_ _ | refine Ext.setCellF _ _ _ (by first | omega | simp) ?_ | refine Ext.setCell ?_ (.inr (by first | omega | simp)) _))), by (repeat (first | with_reducible (first | exact Ext.refl _ _ | assumption | refine Ext.upN ?_ | refine Ext.alloc ?_ _ | refine Ext.drew ?_ | refine Ext.drewN ?_ _ | refine Ext.upF ?_ | refine Ext.upFF (by first | omega | simp) ?_ | refine Ext.setCellsF _ _ _ (by first | omega | simp) ?_ | refine Ext.setCellF _ _ _ (by first | omega | simp) ?_ | refine Ext.upFN (by first | omega | simp) ?_ | refine Ext.up1F (by first | omega | simp) ?_ | refine Ext.up1N (by first | omega | simp) ?_) | refine Ext.alloc ?_ _ | refine Ext.setCellF _ _ _ (by first | omega | simp) ?_ | refine Ext.setCell ?_ (.inr (by first | omega | simp)) _)), HFr.out⟩
set_option maxRecDepth 100000 in
theorem slots_enough (b : Nat) (a : Option Addr) (c : Nat) (mem : List Int) (hml : mem.length ≤ 1000) (sa : Option Addr) (n scap : Nat) (w : World) (h1 : w.cell? ⟨b, 1, none⟩ = some (.slice a mem.length c)) :
    Calls Tryz.prog 320 #[.pointer (some ⟨b, 0, none⟩), .slice sa n scap] w fun e w' => e = .returned (.bool (enoughB mem n)) ∧ w = w' := by
  have DE : Hid (enoughB mem n = decide (quorumI mem.length ≤ (n : Int))) := Go.Lib.hid rfl
  go_enter Tryz.func320, Tryz.ntmps320
  go_wp2_with fail
  refine (council_Quorum (mem.length : Int) (by omega) (by omega) _).mono ?_
  rintro e _ ⟨rfl, rfl⟩
  generalize quorumI mem.length = qq at *
  go_wp2
  go_ret
  exact ⟨ret_bool DE.out.symm, rfl⟩
end Go.Proofs.YtflpkoafebjfdaaGreat

/- Layer 14: what a log is in memory. -/
namespace Go.Proofs.YtflpkoafebjfdaaGreat
open Go.RowKit Go.Lib F64
set_option linter.unusedSimpArgs false
set_option linter.unusedVariables false

/-- What a pointer to a certificate points to. -/
def PtrC (w : World) (F : Nat → Prop) (q : Option Nat) (o : Option Ct) : Prop :=
  (q = none ∧ o = none) ∨ ∃ k x sa scap, q = some k ∧ o = some x ∧ F k ∧ ReqOk x.req ∧ I64 x.view ∧ I64 x.slot ∧ Bx w k (x.cells sa scap) 113 ∧ Sigs w sa scap x.sigs ∧ ∀ b o, sa = some ⟨b, o, none⟩ → F b
/-- The addresses of a slot. -/
structure Pt where
  pp : Option Nat
  m1 : Nat
  m2 : Nat
  pc : Option Nat
  pd : Option Nat
def Pt.row (p : Pt) : List Value := [ptV p.pp, .map (some p.m1), .map (some p.m2), ptV p.pc, ptV p.pd]
def rowLo (ep : Int) (a : Option Addr) (n c : Nat) (view : Int) (pt : Nat → Pt) : List Value := .int .i64 ep :: .slice a n c :: .int .i64 view :: ((pt 0).row ++ ((pt 1).row ++ ((pt 2).row ++ (pt 3).row)))
def updP (pt : Nat → Pt) (i : Nat) (p : Pt) : Nat → Pt := fun j => if j = i then p else pt j
theorem updP_same (pt : Nat → Pt) (i : Nat) (p : Pt) : updP pt i p i = p := if_pos rfl
theorem updP_other (pt : Nat → Pt) {i j : Nat} (p : Pt) (h : j ≠ i) : updP pt i p j = pt j := if_neg h
theorem rowLo_get {ep : Int} {a : Option Addr} {n c : Nat} {view : Int} {pt : Nat → Pt} {i j : Nat} (hi : i < 4) (hj : j < 5) : (rowLo ep a n c view pt)[3 + i * 5 + j]? = (pt i).row[j]? := by
  have h4 : i = 0 ∨ i = 1 ∨ i = 2 ∨ i = 3 := by omega
  have h5 : j = 0 ∨ j = 1 ∨ j = 2 ∨ j = 3 ∨ j = 4 := by omega
  rcases h4 with rfl | rfl | rfl | rfl <;> rcases h5 with rfl | rfl | rfl | rfl | rfl <;> rfl
theorem rowLo_set {ep : Int} {a : Option Addr} {n c : Nat} {view : Int} {pt : Nat → Pt} {i j : Nat} (hi : i < 4) (hj : j < 5) (v : Value) (p : Pt) (hp : (pt i).row.set j v = p.row) : (rowLo ep a n c view pt).set (3 + i * 5 + j) v = rowLo ep a n c view (updP pt i p) := by
  have h4 : i = 0 ∨ i = 1 ∨ i = 2 ∨ i = 3 := by omega
  have h5 : j = 0 ∨ j = 1 ∨ j = 2 ∨ j = 3 ∨ j = 4 := by omega
  have hr : updP pt i p i = p := updP_same _ _ _
  rcases h4 with rfl | rfl | rfl | rfl <;> rcases h5 with rfl | rfl | rfl | rfl | rfl <;> simp [rowLo, updP, Pt.row] at hp ⊢ <;> exact hp
/-- A slot: votes and pointees lie in F. -/
structure SlW (w : World) (F : Nat → Prop) (p : Pt) (s : Sl) : Prop where
  prop : PtrR w F p.pp s.prop
  prep : MapG vtE w p.m1 s.prep
  com : MapG vtE w p.m2 s.com
  cert : PtrC w F p.pc s.cert
  done : PtrR w F p.pd s.done
  f1 : F p.m1
  f2 : F p.m2
  ok1 : VtsOk s.prep
  ok2 : VtsOk s.com
theorem PtrR.ext {S F F' : Nat → Prop} {w w' : World} {q : Option Nat} {o : Option Req} (h : PtrR w F q o) (x : Ext S w w') (hs : ∀ k vs t, F k → Bx w k vs t → ¬ S k) (hf : ∀ k, F k → F' k) : PtrR w' F' q o := by
  rcases h with h | ⟨k, r, h1, h2, h3, h4, h5⟩
  · exact .inl h
  · exact .inr ⟨k, r, h1, h2, hf k h3, h4, h5.ext x (hs k _ _ h3 h5)⟩
theorem PtrC.ext {S F F' : Nat → Prop} {w w' : World} {q : Option Nat} {o : Option Ct} (h : PtrC w F q o) (x : Ext S w w') (hs : ∀ k vs t, F k → Bx w k vs t → ¬ S k) (hc : ∀ k i v, F k → w.cell? ⟨k, i, none⟩ = some v → ¬ S k) (hf : ∀ k, F k → F' k) : PtrC w' F' q o := by
  rcases h with h | ⟨k, y, sa, scap, h1, h2, h3, h4, h5, h6, h7, h8, h9⟩
  · exact .inl h
  · refine .inr ⟨k, y, sa, scap, h1, h2, hf k h3, h4, h5, h6, h7.ext x (hs k _ _ h3 h7), ⟨h8.le, h8.small, fun j hj => ?_⟩, fun b o e => hf b (h9 b o e)⟩
    obtain ⟨b, o, e, hb, c0, c1, r⟩ := h8.at_ j hj
    have hn : ¬ S b := hc b _ _ (h9 b o e) c0
    exact ⟨b, o, e, Nat.lt_of_lt_of_le hb x.size, (x.cell (p := ⟨b, o + j * 2, none⟩) hb hn).trans c0, (x.cell (p := ⟨b, o + j * 2 + 1, none⟩) hb hn).trans c1, r⟩
/-- Two maps of a log are never one. -/
def PtD (pt : Nat → Pt) : Prop := ∀ i j, i < 4 → j < 4 → ((pt i).m1 = (pt j).m1 → i = j) ∧ ((pt i).m2 = (pt j).m2 → i = j) ∧ (pt i).m1 ≠ (pt j).m2
/-- A log: block b; G: all the other blocks that it holds. -/
structure LoW (w : World) (b : Nat) (G : Nat → Prop) (g : Lo) : Prop where
  ex : ∃ a c pt, w.heap[b]? = some (.cells (rowLo g.ep a g.mem.length c g.view pt).toArray 193 (0, 0)) ∧ Ints w a c g.mem ∧ (∀ b' o, a = some ⟨b', o, none⟩ → G b') ∧ (∀ i, i < 4 → SlW w G (pt i) (g.sl i)) ∧ PtD pt
  nb : ¬ G b
  lt : ∀ k, G k → k < w.heap.size
  conf : confB g.ep g.mem = true
  vw : 0 ≤ g.view ∧ g.view ≤ 15
def LoF (b : Nat) (G : Nat → Prop) : Nat → Prop := fun k => k = b ∨ G k
theorem LoW.bl {w : World} {b : Nat} {G : Nat → Prop} {g : Lo} (h : LoW w b G g) : b < w.heap.size := by
  obtain ⟨_, _, _, hh, _⟩ := h.ex
  exact (Array.getElem?_eq_some_iff.1 hh).1
theorem LoW.ext {S : Nat → Prop} {w w' : World} {b : Nat} {G : Nat → Prop} {g : Lo} (h : LoW w b G g) (x : Ext S w w') (hs : ∀ k, LoF b G k → ¬ S k) : LoW w' b G g := by
  have hb := h.bl
  obtain ⟨a, c, pt, hh, hi, ha, hsl, hd⟩ := h.ex
  refine ⟨⟨a, c, pt, (x.block b hb (hs b (.inl rfl))).trans hh, hi.ext x (fun b' o e => hs b' (.inr (ha b' o e))), ha, fun i h4 => ?_, hd⟩, h.nb, fun k hk => Nat.lt_of_lt_of_le (h.lt k hk) x.size, h.conf, h.vw⟩
  have q := hsl i h4
  exact ⟨q.prop.ext x (fun k _ _ hk _ => hs k (.inr hk)) (fun _ h => h), q.prep.ext x (hs _ (.inr q.f1)), q.com.ext x (hs _ (.inr q.f2)), q.cert.ext x (fun k _ _ hk _ => hs k (.inr hk)) (fun k _ _ hk _ => hs k (.inr hk)) (fun _ h => h), q.done.ext x (fun k _ _ hk _ => hs k (.inr hk)) (fun _ h => h), q.f1, q.f2, q.ok1, q.ok2⟩
theorem LoW.extN {w w' : World} {b : Nat} {G : Nat → Prop} {g : Lo} (h : LoW w b G g) (x : Ext Non w w') : LoW w' b G g := h.ext x fun _ _ f => f
theorem map_no_cell {w : World} {m : Nat} {ks : List (Int × Vt)} (h : MapG vtE w m ks) (i : Nat) (v : Value) : w.cell? ⟨m, i, none⟩ ≠ some v := by
  obtain ⟨es, c, hb, _⟩ := h.ex
  simp [World.cell?, hb]
theorem map_no_box {w : World} {m k : Nat} {ks : List (Int × Vt)} (h : MapG vtE w m ks) {vs : List Value} {t : TypeId} (hb : Bx w k vs t) : k ≠ m := by
  obtain ⟨es, c, hm, _⟩ := h.ex
  intro e
  rw [e] at hb
  have := hb.h
  rw [hm] at this
  cases this
/-- The parts of a log, for a walk. -/
structure LoP (w : World) (b : Nat) (G : Nat → Prop) (g : Lo) (a : Option Addr) (c : Nat) (pt : Nat → Pt) : Prop where
  h : w.heap[b]? = some (.cells (rowLo g.ep a g.mem.length c g.view pt).toArray 193 (0, 0))
  ints : Ints w a c g.mem
  ia : ∀ b' o, a = some ⟨b', o, none⟩ → G b'
  sl : ∀ i, i < 4 → SlW w G (pt i) (g.sl i)
  d : PtD pt
theorem LoP.c0 {w : World} {b : Nat} {G : Nat → Prop} {g : Lo} {a : Option Addr} {c : Nat} {pt : Nat → Pt} (h : LoP w b G g a c pt) : w.cell? ⟨b, 0, none⟩ = some (.int .i64 g.ep) := cell_of_heap h.h rfl
theorem LoP.c1 {w : World} {b : Nat} {G : Nat → Prop} {g : Lo} {a : Option Addr} {c : Nat} {pt : Nat → Pt} (h : LoP w b G g a c pt) : w.cell? ⟨b, 1, none⟩ = some (.slice a g.mem.length c) := cell_of_heap h.h rfl
theorem LoP.c2 {w : World} {b : Nat} {G : Nat → Prop} {g : Lo} {a : Option Addr} {c : Nat} {pt : Nat → Pt} (h : LoP w b G g a c pt) : w.cell? ⟨b, 2, none⟩ = some (.int .i64 g.view) := cell_of_heap h.h rfl
theorem LoP.cs {w : World} {b : Nat} {G : Nat → Prop} {g : Lo} {a : Option Addr} {c : Nat} {pt : Nat → Pt} (h : LoP w b G g a c pt) {i j : Nat} (hi : i < 4) (hj : j < 5) {v : Value} (hv : (pt i).row[j]? = some v) : w.cell? ⟨b, 3 + i * 5 + j, none⟩ = some v := cell_of_heap h.h ((rowLo_get hi hj).trans hv)
theorem LoP.fz {w : World} {b : Nat} {G : Nat → Prop} {g : Lo} {a : Option Addr} {c : Nat} {pt : Nat → Pt} (h : LoP w b G g a c pt) (k : Nat) : w.frozen? ⟨b, k, none⟩ = false := froz_of_heap h.h
theorem LoW.parts {w : World} {b : Nat} {G : Nat → Prop} {g : Lo} (h : LoW w b G g) : ∃ a c pt, LoP w b G g a c pt := by
  obtain ⟨a, c, pt, h1, h2, h3, h4, h5⟩ := h.ex
  exact ⟨a, c, pt, h1, h2, h3, h4, h5⟩
theorem conf_len10 {ep : Int} {xs : List Int} (h : confB ep xs = true) : 4 ≤ xs.length ∧ xs.length ≤ 10 := by
  unfold confB at h
  simp only [Bool.and_eq_true] at h
  exact ⟨(members_facts h.2).2.2.1, (members_facts h.2).2.2.2⟩
theorem LoW.len {w : World} {b : Nat} {G : Nat → Prop} {g : Lo} (h : LoW w b G g) : 4 ≤ g.mem.length ∧ g.mem.length ≤ 10 := conf_len10 h.conf
theorem LoW.epb {w : World} {b : Nat} {G : Nat → Prop} {g : Lo} (h : LoW w b G g) : 0 ≤ g.ep ∧ g.ep ≤ 60 := conf_ep h.conf
/-- A cell of a slot is written: the others stand. -/
theorem LoW.put {w : World} {b : Nat} {G G' : Nat → Prop} {g : Lo} {a : Option Addr} {c : Nat} {pt : Nat → Pt} (h : LoW w b G g) (hp : LoP w b G g a c pt) {i j : Nat} (hi : i < 4) (hj : j < 5) (v : Value) (p : Pt) (s : Sl) (hv : (pt i).row.set j v = p.row)
    (hm : p.m1 = (pt i).m1 ∧ p.m2 = (pt i).m2) (hG : ∀ k, G k → G' k) (hb : ¬ G' b) (hl : ∀ k, G' k → k < w.heap.size) (hs : SlW (w.setCell ⟨b, 3 + i * 5 + j, none⟩ v) G' p s) : LoW (w.setCell ⟨b, 3 + i * 5 + j, none⟩ v) b G' (putS g i s) := by
  have x : Ext (One b) w (w.setCell ⟨b, 3 + i * 5 + j, none⟩ v) := (Ext.refl _ _).set1 _
  have hno : ∀ k, G k → ¬ One b k := fun k hk e => by unfold One at e; subst e; exact h.nb hk
  refine ⟨⟨a, c, updP pt i p, ?_, hp.ints.ext x (fun b' o e => hno _ (hp.ia b' o e)), fun b' o e => hG _ (hp.ia b' o e), fun k hk => ?_, ?_⟩, hb, fun k hk => ?_, h.conf, h.vw⟩
  · have := heap_set_same (k := 3 + i * 5 + j) hp.h v
    rw [rowLo_set hi hj v p hv] at this
    exact this
  · by_cases e : k = i
    · subst e
      rw [updP_same]
      show SlW _ G' p (if k = k then s else g.sl k)
      rw [if_pos rfl]; exact hs
    · rw [updP_other pt p e]
      show SlW _ G' (pt k) (if k = i then s else g.sl k)
      rw [if_neg e]
      have q := hp.sl k hk
      exact ⟨q.prop.ext x (fun k _ _ hk _ => hno k hk) hG, q.prep.ext x (hno _ q.f1), q.com.ext x (hno _ q.f2), q.cert.ext x (fun k _ _ hk _ => hno k hk) (fun k _ _ hk _ => hno k hk) hG, q.done.ext x (fun k _ _ hk _ => hno k hk) hG, hG _ q.f1, hG _ q.f2, q.ok1, q.ok2⟩
  · intro k l hk hl'
    have d := hp.d
    have e : ∀ k, k < 4 → (updP pt i p k).m1 = (pt k).m1 ∧ (updP pt i p k).m2 = (pt k).m2 := fun k hk => by
      by_cases e : k = i
      · subst e; rw [updP_same]; exact hm
      · rw [updP_other pt p e]; exact ⟨rfl, rfl⟩
    rw [(e k hk).1, (e k hk).2, (e l hl').1, (e l hl').2]
    exact d k l hk hl'
  · have := x.size; exact Nat.lt_of_lt_of_le (hl k hk) this
/-- What a slot holds stands when a cell of the log is written. -/
theorem SlW.set {w : World} {b k : Nat} {G G' : Nat → Prop} {p : Pt} {s : Sl} (q : SlW w G p s) (hb : ¬ G b) (hG : ∀ k, G k → G' k) (v : Value) : SlW (w.setCell ⟨b, k, none⟩ v) G' p s := by
  have x : Ext (One b) w (w.setCell ⟨b, k, none⟩ v) := (Ext.refl _ _).set1 _
  have hno : ∀ k, G k → ¬ One b k := fun k hk e => by unfold One at e; subst e; exact hb hk
  exact ⟨q.prop.ext x (fun k _ _ hk _ => hno k hk) hG, q.prep.ext x (hno _ q.f1), q.com.ext x (hno _ q.f2), q.cert.ext x (fun k _ _ hk _ => hno k hk) (fun k _ _ hk _ => hno k hk) hG, q.done.ext x (fun k _ _ hk _ => hno k hk) hG, hG _ q.f1, hG _ q.f2, q.ok1, q.ok2⟩
end Go.Proofs.YtflpkoafebjfdaaGreat
