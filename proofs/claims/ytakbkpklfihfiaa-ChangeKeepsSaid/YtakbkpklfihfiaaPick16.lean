/- Contracts of layer 16: change.Pick. -/
import Derived.Test.YtakbkpklfihfiaaPickW
namespace Go.Proofs.Ytakbkpklfihfiaa
open Go.RowKit Go.Lib F64
set_option linter.unusedSimpArgs false
set_option linter.unusedVariables false
attribute [local go_sem] run_store_float
attribute [local go_sem low] EW.cellN EW.frozN alloc_cell_or alloc_froz_or EW.cellF EW.frozF EW.cell1 EW.froz1
theorem max_val (a b : Nat) : Value.int .i64 (if (a : Int) < (b : Int) + 1 then (b : Int) + 1 else (a : Int)) = Value.int .i64 ((max a (b + 1) : Nat) : Int) := by
  congr 1
  split <;> omega
abbrev zero36 : List Value := (default : Ct).cells none 0 ++ ((default : Ct).cells none 0 ++ ((default : Ct).cells none 0 ++ (default : Ct).cells none 0))
theorem zero36_one : ∀ v ∈ zero36, v.oneCell' = true := by simp [zero36, Ct.cells, Value.oneCell']
theorem info_arr : (Try.prog.info? 112).map (·.size) = some 36 := by kernel_rfl
set_option maxHeartbeats 4000000 in
set_option maxRecDepth 100000 in
theorem change_Pick (ep : Int) (a : Option Addr) (cap : Nat) (xs : List Int) (view : Int) (la : Option Addr) (lcap : Nat) (l : List Ch) (hie : I64 ep) (w : World) (hi : Ints w a cap xs) (h : Chs w la lcap l) :
    Calls Try.prog 19 #[.agg #[.int .i64 ep, .slice a xs.length cap], .int .i64 view, .slice la l.length lcap] w fun e w' =>
    ∃ v, e = .returned (.tuple #[v, .int .i64 (checkE ep xs view l)]) ∧ w'.ownsRow w.heap.size 49 6 v (pickL ep xs view l).length (reqCells (pickL ep xs view l)) ∧ Ext Non w w' := by
  have HH := Go.Lib.hid h; have HI := Go.Lib.hid hi
  have HE := Go.Lib.hid hie
  have hsm := h.small; have hsl := h.le
  have DF : Hid (pickL ep xs view l = if checkE ep xs view l = 0 then pickR ep l else []) := Go.Lib.hid rfl
  have CK := Go.Lib.hid (fun h => check_parts (ep := ep) (xs := xs) (view := view) (l := l) h)
  have CS := Go.Lib.hid (fun h => check_slots (ep := ep) (xs := xs) (view := view) (l := l) h)
  clear h hi hie
  go_enter Try.func19, Try.ntmps19
  go_wp2_with fail
  refine Calls.ew (change_check ep a cap xs view la lcap l HE.out _ (HI.out.extN (by (repeat (first | with_reducible exact Ext.refl _ _ | assumption | with_reducible refine Ext.upN ?_ | with_reducible refine Ext.alloc ?_ _ | with_reducible refine Ext.upA (by assumption) ?_ | with_reducible refine Ext.upW ?_ | with_reducible refine Ext.drew ?_ | with_reducible refine Ext.drewN ?_ _ | with_reducible refine Ext.upF ?_ | with_reducible refine Ext.upFF (by first | omega | simp) ?_ | with_reducible refine Ext.setCellsF _ _ _ (by first | omega | simp) ?_ | with_reducible refine Ext.setCellF _ _ _ (by first | omega | simp) ?_ | with_reducible refine Ext.upFN (by first | omega | simp) ?_ | with_reducible refine Ext.up1F (by first | omega | simp) ?_ | with_reducible refine Ext.up1N (by first | omega | simp) ?_ | with_reducible refine Ext.setCell ?_ (.inr (by first | omega | simp)) _ | refine Ext.alloc ?_ _ | refine Ext.setCellF _ _ _ (by first | omega | simp) ?_ | refine Ext.setCell ?_ (.inr (by first | omega | simp)) _)))) (HH.out.extN (by (repeat (first | with_reducible exact Ext.refl _ _ | assumption | with_reducible refine Ext.upN ?_ | with_reducible refine Ext.alloc ?_ _ | with_reducible refine Ext.upA (by assumption) ?_ | with_reducible refine Ext.upW ?_ | with_reducible refine Ext.drew ?_ | with_reducible refine Ext.drewN ?_ _ | with_reducible refine Ext.upF ?_ | with_reducible refine Ext.upFF (by first | omega | simp) ?_ | with_reducible refine Ext.setCellsF _ _ _ (by first | omega | simp) ?_ | with_reducible refine Ext.setCellF _ _ _ (by first | omega | simp) ?_ | with_reducible refine Ext.upFN (by first | omega | simp) ?_ | with_reducible refine Ext.up1F (by first | omega | simp) ?_ | with_reducible refine Ext.up1N (by first | omega | simp) ?_ | with_reducible refine Ext.setCell ?_ (.inr (by first | omega | simp)) _ | refine Ext.alloc ?_ _ | refine Ext.setCellF _ _ _ (by first | omega | simp) ?_ | refine Ext.setCell ?_ (.inr (by first | omega | simp)) _))))) ?_
  rintro e x1 rfl
  generalize hte : checkE ep xs view l = te at *
  have HTe := Go.Lib.hid hte; clear hte
  by_cases h0 : te = 0
  · subst h0
    have CK0 := CK.out rfl
    have hep := conf_ep CK0.1
    have CSr := Go.Lib.hid (CS.out rfl)
    clear CK CS CK0
    have hsz : w.heap.size < x1.on.heap.size := by have := x1.ext.size; simp at this; omega
    go_wp2_with (refine wpList_store_box rfl 112 _ _ rfl x1.on.heap.size zero36 zero36 112 rfl rfl (Bx.newAt _ _ _ _ rfl) rfl info_arr zero36_one (fun W0 hB => ?_); have B0 := Go.Lib.hid hB; clear hB)
    have hkt : x1.on.heap.size < W0.on.heap.size := by have := W0.ext.size; simp at this; omega
    have hkne : W0.on.heap.size ≠ x1.on.heap.size := by omega
    go_loopw [11, 31] (fun cv iv wr => ∃ (i : Nat) (z : EW (From x1.on.heap.size) x1.on), i ≤ l.length ∧ cv = .int .i64 (lastC ep (certsTo l i 0)) ∧ iv = .int .i64 i ∧ wr = z.on ∧ Hid (BestW ep wr x1.on.heap.size W0.on.heap.size (certsTo l i 0))) (fun _ iv _ => l.length - (intOf iv).toNat)
    case atStart => exact ⟨0, ⟨_, by (repeat (first | with_reducible exact Ext.refl _ _ | assumption | with_reducible refine Ext.upN ?_ | with_reducible refine Ext.alloc ?_ _ | with_reducible refine Ext.upA (by assumption) ?_ | with_reducible refine Ext.upW ?_ | with_reducible refine Ext.drew ?_ | with_reducible refine Ext.drewN ?_ _ | with_reducible refine Ext.upF ?_ | with_reducible refine Ext.upFF (by first | omega | simp) ?_ | with_reducible refine Ext.setCellsF _ _ _ (by first | omega | simp) ?_ | with_reducible refine Ext.setCellF _ _ _ (by first | omega | simp) ?_ | with_reducible refine Ext.upFN (by first | omega | simp) ?_ | with_reducible refine Ext.up1F (by first | omega | simp) ?_ | with_reducible refine Ext.up1N (by first | omega | simp) ?_ | with_reducible refine Ext.setCell ?_ (.inr (by first | omega | simp)) _ | refine Ext.alloc ?_ _ | refine Ext.setCellF _ _ _ (by first | omega | simp) ?_ | refine Ext.setCell ?_ (.inr (by first | omega | simp)) _))⟩, Nat.zero_le _, by rw [lastC_zero]; rfl, rfl, rfl, Go.Lib.hid (by rw [certsTo_zero]; exact BestW.init (B0.out.alloc _) (Bx.newAt _ _ _ _ rfl))⟩
    case round =>
      obtain ⟨i, z, hi, rfl, rfl, rfl, HB⟩ := hrel
      have hlc := lastC_le ep (certsTo l i 0)
      by_cases hlt : i < l.length
      · obtain ⟨lb, lo, ca, ccap, rfl, hlb, hrow, hcs, hif, hiv, hiy, hit⟩ := HH.out.at_ i hlt
        have HCs : Hid (Certs w ca ccap (chAt l i).certs) := Go.Lib.hid hcs
        have HCi := Go.Lib.hid (CSr.out (chAt l i) (by rw [chAt_get hlt]; exact List.getElem_mem hlt))
        generalize hcc : chAt l i = cc at *
        obtain ⟨cf, cvw, cts, cy, ct⟩ := cc
        have HCC := Go.Lib.hid hcc; clear hcc
        have r0 : w.cell? ⟨lb, lo + i * 5, none⟩ = some (.int .i64 cf) := hrow 0 _ rfl
        have r1 : w.cell? ⟨lb, lo + i * 5 + 1, none⟩ = some (.int .i64 cvw) := hrow 1 _ rfl
        have r2 : w.cell? ⟨lb, lo + i * 5 + 2, none⟩ = some (.slice ca cts.length ccap) := hrow 2 _ rfl
        have r3 : w.cell? ⟨lb, lo + i * 5 + 3, none⟩ = some (.int .i64 cy) := hrow 3 _ rfl
        have r4 : w.cell? ⟨lb, lo + i * 5 + 4, none⟩ = some (.string ct) := hrow 4 _ rfl
        have hcsm := hcs.small; have hcsl := hcs.le
        have hlb1 : lb < x1.on.heap.size := by omega
        clear hrow hcs hif hiv hiy hit
        go_wp2_with fail
        clear r0 r1 r2 r3 r4
        go_loopw [11, 38] (fun cv jv wr => ∃ (j : Nat) (z2 : EW (From x1.on.heap.size) z.on), j ≤ cts.length ∧ cv = .int .i64 (lastC ep (certsTo l i j)) ∧ jv = .int .i64 j ∧ wr = z2.on ∧ Hid (BestW ep wr x1.on.heap.size W0.on.heap.size (certsTo l i j))) (fun _ jv _ => cts.length - (intOf jv).toNat)
        case atStart => exact ⟨0, ⟨_, by (repeat (first | with_reducible exact Ext.refl _ _ | assumption | with_reducible refine Ext.upN ?_ | with_reducible refine Ext.alloc ?_ _ | with_reducible refine Ext.upA (by assumption) ?_ | with_reducible refine Ext.upW ?_ | with_reducible refine Ext.drew ?_ | with_reducible refine Ext.drewN ?_ _ | with_reducible refine Ext.upF ?_ | with_reducible refine Ext.upFF (by first | omega | simp) ?_ | with_reducible refine Ext.setCellsF _ _ _ (by first | omega | simp) ?_ | with_reducible refine Ext.setCellF _ _ _ (by first | omega | simp) ?_ | with_reducible refine Ext.upFN (by first | omega | simp) ?_ | with_reducible refine Ext.up1F (by first | omega | simp) ?_ | with_reducible refine Ext.up1N (by first | omega | simp) ?_ | with_reducible refine Ext.setCell ?_ (.inr (by first | omega | simp)) _ | refine Ext.alloc ?_ _ | refine Ext.setCellF _ _ _ (by first | omega | simp) ?_ | refine Ext.setCell ?_ (.inr (by first | omega | simp)) _))⟩, Nat.zero_le _, rfl, rfl, rfl, Go.Lib.hid (HB.out.ext ((Ext.refl Non _).alloc _) (fun f => f) (fun f => f))⟩
        case round =>
          clear HB hlc
          obtain ⟨j, z2, hj, rfl, rfl, rfl, HB⟩ := hrel
          have hlc := lastC_le ep (certsTo l i j)
          by_cases hjl : j < cts.length
          · obtain ⟨cb, co, sa, scap, rfl, hcb, hcells, hsg, hro, hvi, hsi⟩ := HCs.out.at_ j hjl
            have HP := Go.Lib.hid (certsTo_succ l i j (by rw [HCC.out]; exact hjl))
            rw [HCC.out] at HP
            obtain ⟨n0, hn0, hsl0⟩ := HCi.out (ctAt cts j) (by rw [ctAt_get hjl]; exact List.getElem_mem hjl)
            generalize hct : ctAt cts j = ct1 at *
            obtain ⟨cv, cs, ⟨rc, rs, ⟨rk, rkey, rx, rid⟩⟩, sl⟩ := ct1
            clear hct
            have HSl : Hid (cs = slotN ep n0) := Go.Lib.hid hsl0
            have hsl1 : cs = 4 * ep + 1 + n0 := hsl0
            have hw1 : IntKind.i64.wrap (ep * 4) = ep * 4 := IntWalk.i64_in _ (by omega)
            have hw2 : IntKind.i64.wrap (cs - ep * 4) = cs - ep * 4 := IntWalk.i64_in _ (by omega)
            have hw3 : IntKind.i64.wrap (cs - ep * 4 - 1) = (n0 : Int) := by rw [show cs - ep * 4 - 1 = (n0 : Int) by omega]; exact IntWalk.i64_in _ (by omega)
            have hn4 : (n0 : Int) < 4 := by omega
            clear hsl0 hsl1
            have m0 : w.cell? ⟨cb, co + j * 9, none⟩ = some (.int .i64 cv) := hcells 0 _ rfl
            have m1 : w.cell? ⟨cb, co + j * 9 + 1, none⟩ = some (.int .i64 cs) := hcells 1 _ rfl
            have m2 : w.cell? ⟨cb, co + j * 9 + 2, none⟩ = some (.int .i64 rc) := hcells 2 _ rfl
            have m3 : w.cell? ⟨cb, co + j * 9 + 3, none⟩ = some (.int .i64 rs) := hcells 3 _ rfl
            have m4 : w.cell? ⟨cb, co + j * 9 + 4, none⟩ = some (.int .i64 rk) := hcells 4 _ rfl
            have m5 : w.cell? ⟨cb, co + j * 9 + 5, none⟩ = some (.string rkey) := hcells 5 _ rfl
            have m6 : w.cell? ⟨cb, co + j * 9 + 6, none⟩ = some (.float .f64 rx) := hcells 6 _ rfl
            have m7 : w.cell? ⟨cb, co + j * 9 + 7, none⟩ = some (.int .i64 rid) := hcells 7 _ rfl
            have m8 : w.cell? ⟨cb, co + j * 9 + 8, none⟩ = some (.slice sa sl.length scap) := hcells 8 _ rfl
            have hcb1 : cb < x1.on.heap.size := by omega
            have HVS : Hid (I64 cv) := Go.Lib.hid hvi
            clear hcells hsg hro hvi hsi
            obtain ⟨sa', scap', hr⟩ := HB.out.rows n0 hn0
            obtain ⟨hfl, hfz⟩ := HB.out.flag n0 hn0
            have q0 : z2.on.cell? ⟨x1.on.heap.size, n0 * 9, none⟩ = some (.int .i64 (ctOf (bestC (slotN ep n0) (certsTo l i j))).view) := hr 0 _ rfl
            clear hr
            have HSP := Go.Lib.hid (show ∀ o, o = bestC (slotN ep n0) (certsTo l i j) → o = bestC (slotN ep n0) (certsTo l i j) from fun _ h => h)
            generalize hbo : bestC (slotN ep n0) (certsTo l i j) = bo at *
            have HBO := Go.Lib.hid hbo; clear hbo
            go_upto_region 14 with fail
            clear m0 m1 m2 m3 m4 m5 m6 m7 m8 hw1 hw2 hw3
            cases bo with
            | none =>
              as_aux_lemma =>
              (refine wp_region_ext_lit (by kernel_rfl) (by kernel_rfl) ?_; (repeat (go_big_quiet_step (fail))); refine wpQuiet_nil ?_; intro _ hw'; obtain ⟨xq, hw''⟩ := hw'; subst hw'')
              have BB := Go.Lib.hid (HB.out.ext (by (repeat (first | with_reducible exact Ext.refl _ _ | assumption | with_reducible refine Ext.upN ?_ | with_reducible refine Ext.alloc ?_ _ | with_reducible refine Ext.upA (by assumption) ?_ | with_reducible refine Ext.upW ?_ | with_reducible refine Ext.drew ?_ | with_reducible refine Ext.drewN ?_ _ | with_reducible refine Ext.upF ?_ | with_reducible refine Ext.upFF (by first | omega | simp) ?_ | with_reducible refine Ext.setCellsF _ _ _ (by first | omega | simp) ?_ | with_reducible refine Ext.setCellF _ _ _ (by first | omega | simp) ?_ | with_reducible refine Ext.upFN (by first | omega | simp) ?_ | with_reducible refine Ext.up1F (by first | omega | simp) ?_ | with_reducible refine Ext.up1N (by first | omega | simp) ?_ | with_reducible refine Ext.setCell ?_ (.inr (by first | omega | simp)) _ | refine Ext.alloc ?_ _ | refine Ext.setCellF _ _ _ (by first | omega | simp) ?_ | refine Ext.setCell ?_ (.inr (by first | omega | simp)) _)) : Ext Non z2.on xq.on) (fun f => f) (fun f => f))
              go_wp2_with (refine wpList_store_at rfl 52 _ _ rfl x1.on.heap.size (n0 * 9) [.int .i64 cv, .int .i64 cs, .int .i64 rc, .int .i64 rs, .int .i64 rk, .string rkey, .float .f64 rx, .int .i64 rid, .slice sa sl.length scap] rfl rfl (there_sub BB.out.there (Nat.zero_le _) (by simp; omega)) info_cert (by simp [Value.oneCell']) (fun W hR hO hT => ?_); have HR := Go.Lib.hid hR; have HO := Go.Lib.hid hO; have HT := Go.Lib.hid hT; clear hR hO hT)
              go_roundw
              case rel => exact ⟨j + 1, ⟨_, by (repeat (first | with_reducible exact Ext.refl _ _ | assumption | with_reducible refine Ext.upN ?_ | with_reducible refine Ext.alloc ?_ _ | with_reducible refine Ext.upA (by assumption) ?_ | with_reducible refine Ext.upW ?_ | with_reducible refine Ext.drew ?_ | with_reducible refine Ext.drewN ?_ _ | with_reducible refine Ext.upF ?_ | with_reducible refine Ext.upFF (by first | omega | simp) ?_ | with_reducible refine Ext.setCellsF _ _ _ (by first | omega | simp) ?_ | with_reducible refine Ext.setCellF _ _ _ (by first | omega | simp) ?_ | with_reducible refine Ext.upFN (by first | omega | simp) ?_ | with_reducible refine Ext.up1F (by first | omega | simp) ?_ | with_reducible refine Ext.up1N (by first | omega | simp) ?_ | with_reducible refine Ext.setCell ?_ (.inr (by first | omega | simp)) _ | refine Ext.alloc ?_ _ | refine Ext.setCellF _ _ _ (by first | omega | simp) ?_ | refine Ext.setCell ?_ (.inr (by first | omega | simp)) _))⟩, hjl, by rw [HP.out, lastC_snoc ep _ (⟨cv, cs, ⟨rc, rs, ⟨rk, rkey, rx, rid⟩⟩, sl⟩ : Ct) n0 hn0 HSl.out]; exact max_val _ _, by go_num, rfl, Go.Lib.hid (by rw [HP.out]; exact BB.out.put (⟨cv, cs, ⟨rc, rs, ⟨rk, rkey, rx, rid⟩⟩, sl⟩ : Ct) n0 hn0 HSl.out (by rw [HBO.out]; unfold stepB; rw [if_pos HSl.out]) sa scap HR.out HO.out HT.out W.ext (Ne.symm hkne) rfl)⟩
              case measure => simp [intOf]; omega
            | some y =>
              obtain ⟨ov, os, oq, ol⟩ := y
              have q0' : z2.on.cell? ⟨x1.on.heap.size, n0 * 9, none⟩ = some (.int .i64 ov) := q0
              clear q0
              by_cases hv : ov < cv
              · as_aux_lemma =>
                have hbv : decide (ov < cv) = true := decide_eq_true hv
                (refine wp_region_ext_lit (by kernel_rfl) (by kernel_rfl) ?_; (repeat (go_big_quiet_step (fail))); refine wpQuiet_nil ?_; intro _ hw'; obtain ⟨xq, hw''⟩ := hw'; subst hw'')
                have BB := Go.Lib.hid (HB.out.ext (by (repeat (first | with_reducible exact Ext.refl _ _ | assumption | with_reducible refine Ext.upN ?_ | with_reducible refine Ext.alloc ?_ _ | with_reducible refine Ext.upA (by assumption) ?_ | with_reducible refine Ext.upW ?_ | with_reducible refine Ext.drew ?_ | with_reducible refine Ext.drewN ?_ _ | with_reducible refine Ext.upF ?_ | with_reducible refine Ext.upFF (by first | omega | simp) ?_ | with_reducible refine Ext.setCellsF _ _ _ (by first | omega | simp) ?_ | with_reducible refine Ext.setCellF _ _ _ (by first | omega | simp) ?_ | with_reducible refine Ext.upFN (by first | omega | simp) ?_ | with_reducible refine Ext.up1F (by first | omega | simp) ?_ | with_reducible refine Ext.up1N (by first | omega | simp) ?_ | with_reducible refine Ext.setCell ?_ (.inr (by first | omega | simp)) _ | refine Ext.alloc ?_ _ | refine Ext.setCellF _ _ _ (by first | omega | simp) ?_ | refine Ext.setCell ?_ (.inr (by first | omega | simp)) _)) : Ext Non z2.on xq.on) (fun f => f) (fun f => f))
                go_wp2_with (refine wpList_store_at rfl 52 _ _ rfl x1.on.heap.size (n0 * 9) [.int .i64 cv, .int .i64 cs, .int .i64 rc, .int .i64 rs, .int .i64 rk, .string rkey, .float .f64 rx, .int .i64 rid, .slice sa sl.length scap] rfl rfl (there_sub BB.out.there (Nat.zero_le _) (by simp; omega)) info_cert (by simp [Value.oneCell']) (fun W hR hO hT => ?_); have HR := Go.Lib.hid hR; have HO := Go.Lib.hid hO; have HT := Go.Lib.hid hT; clear hR hO hT)
                go_roundw
                case rel => exact ⟨j + 1, ⟨_, by (repeat (first | with_reducible exact Ext.refl _ _ | assumption | with_reducible refine Ext.upN ?_ | with_reducible refine Ext.alloc ?_ _ | with_reducible refine Ext.upA (by assumption) ?_ | with_reducible refine Ext.upW ?_ | with_reducible refine Ext.drew ?_ | with_reducible refine Ext.drewN ?_ _ | with_reducible refine Ext.upF ?_ | with_reducible refine Ext.upFF (by first | omega | simp) ?_ | with_reducible refine Ext.setCellsF _ _ _ (by first | omega | simp) ?_ | with_reducible refine Ext.setCellF _ _ _ (by first | omega | simp) ?_ | with_reducible refine Ext.upFN (by first | omega | simp) ?_ | with_reducible refine Ext.up1F (by first | omega | simp) ?_ | with_reducible refine Ext.up1N (by first | omega | simp) ?_ | with_reducible refine Ext.setCell ?_ (.inr (by first | omega | simp)) _ | refine Ext.alloc ?_ _ | refine Ext.setCellF _ _ _ (by first | omega | simp) ?_ | refine Ext.setCell ?_ (.inr (by first | omega | simp)) _))⟩, hjl, by rw [HP.out, lastC_snoc ep _ (⟨cv, cs, ⟨rc, rs, ⟨rk, rkey, rx, rid⟩⟩, sl⟩ : Ct) n0 hn0 HSl.out]; exact max_val _ _, by go_num, rfl, Go.Lib.hid (by rw [HP.out]; exact BB.out.put (⟨cv, cs, ⟨rc, rs, ⟨rk, rkey, rx, rid⟩⟩, sl⟩ : Ct) n0 hn0 HSl.out (by rw [HBO.out]; unfold stepB; rw [if_pos HSl.out]; dsimp only; rw [if_pos hv]) sa scap HR.out HO.out HT.out W.ext (Ne.symm hkne) rfl)⟩
                case measure => simp [intOf]; omega
              · as_aux_lemma =>
                have hbv : decide (ov < cv) = false := decide_eq_false hv
                have HZ : Hid (BestW ep z2.on x1.on.heap.size W0.on.heap.size (certsTo l i (j + 1))) := Go.Lib.hid (by rw [HP.out]; exact HB.out.same (⟨cv, cs, ⟨rc, rs, ⟨rk, rkey, rx, rid⟩⟩, sl⟩ : Ct) n0 HSl.out (by rw [HBO.out]; unfold stepB; rw [if_pos HSl.out]; dsimp only; rw [if_neg (by omega)]))
                (refine wp_region_ext_lit (by kernel_rfl) (by kernel_rfl) ?_; (repeat (go_big_quiet_step (fail))); refine wpQuiet_nil ?_; intro _ hw'; obtain ⟨xq, hw''⟩ := hw'; subst hw'')
                go_wp2_with fail
                go_roundw
                case rel => exact ⟨j + 1, ⟨_, by (repeat (first | with_reducible exact Ext.refl _ _ | assumption | with_reducible refine Ext.upN ?_ | with_reducible refine Ext.alloc ?_ _ | with_reducible refine Ext.upA (by assumption) ?_ | with_reducible refine Ext.upW ?_ | with_reducible refine Ext.drew ?_ | with_reducible refine Ext.drewN ?_ _ | with_reducible refine Ext.upF ?_ | with_reducible refine Ext.upFF (by first | omega | simp) ?_ | with_reducible refine Ext.setCellsF _ _ _ (by first | omega | simp) ?_ | with_reducible refine Ext.setCellF _ _ _ (by first | omega | simp) ?_ | with_reducible refine Ext.upFN (by first | omega | simp) ?_ | with_reducible refine Ext.up1F (by first | omega | simp) ?_ | with_reducible refine Ext.up1N (by first | omega | simp) ?_ | with_reducible refine Ext.setCell ?_ (.inr (by first | omega | simp)) _ | refine Ext.alloc ?_ _ | refine Ext.setCellF _ _ _ (by first | omega | simp) ?_ | refine Ext.setCell ?_ (.inr (by first | omega | simp)) _))⟩, hjl, by rw [HP.out, lastC_snoc ep _ (⟨cv, cs, ⟨rc, rs, ⟨rk, rkey, rx, rid⟩⟩, sl⟩ : Ct) n0 hn0 HSl.out]; exact max_val _ _, by go_num, rfl, Go.Lib.hid (HZ.out.ext (by (repeat (first | with_reducible exact Ext.refl _ _ | assumption | with_reducible refine Ext.upN ?_ | with_reducible refine Ext.alloc ?_ _ | with_reducible refine Ext.upA (by assumption) ?_ | with_reducible refine Ext.upW ?_ | with_reducible refine Ext.drew ?_ | with_reducible refine Ext.drewN ?_ _ | with_reducible refine Ext.upF ?_ | with_reducible refine Ext.upFF (by first | omega | simp) ?_ | with_reducible refine Ext.setCellsF _ _ _ (by first | omega | simp) ?_ | with_reducible refine Ext.setCellF _ _ _ (by first | omega | simp) ?_ | with_reducible refine Ext.upFN (by first | omega | simp) ?_ | with_reducible refine Ext.up1F (by first | omega | simp) ?_ | with_reducible refine Ext.up1N (by first | omega | simp) ?_ | with_reducible refine Ext.setCell ?_ (.inr (by first | omega | simp)) _ | refine Ext.alloc ?_ _ | refine Ext.setCellF _ _ _ (by first | omega | simp) ?_ | refine Ext.setCell ?_ (.inr (by first | omega | simp)) _)) : Ext Non _ _) (fun f => f) (fun f => f))⟩
                case measure => simp [intOf]; omega
          · have e : certsTo l i j = certsTo l (i + 1) 0 := certsTo_next l i j hlt (by rw [HCC.out]; simp; omega)
            have HB' : Hid (BestW ep z2.on x1.on.heap.size W0.on.heap.size (certsTo l (i + 1) 0)) := Go.Lib.hid (by rw [← e]; exact HB.out)
            have E := Go.Lib.hid e; clear e
            go_wp2_with fail
            go_roundw
            case rel => exact ⟨i + 1, ⟨_, by (repeat (first | with_reducible exact Ext.refl _ _ | assumption | with_reducible refine Ext.upN ?_ | with_reducible refine Ext.alloc ?_ _ | with_reducible refine Ext.upA (by assumption) ?_ | with_reducible refine Ext.upW ?_ | with_reducible refine Ext.drew ?_ | with_reducible refine Ext.drewN ?_ _ | with_reducible refine Ext.upF ?_ | with_reducible refine Ext.upFF (by first | omega | simp) ?_ | with_reducible refine Ext.setCellsF _ _ _ (by first | omega | simp) ?_ | with_reducible refine Ext.setCellF _ _ _ (by first | omega | simp) ?_ | with_reducible refine Ext.upFN (by first | omega | simp) ?_ | with_reducible refine Ext.up1F (by first | omega | simp) ?_ | with_reducible refine Ext.up1N (by first | omega | simp) ?_ | with_reducible refine Ext.setCell ?_ (.inr (by first | omega | simp)) _ | refine Ext.alloc ?_ _ | refine Ext.setCellF _ _ _ (by first | omega | simp) ?_ | refine Ext.setCell ?_ (.inr (by first | omega | simp)) _))⟩, hlt, by rw [E.out], by go_num, rfl, HB'⟩
            case measure => simp [intOf]; omega
      · skip
        have e : certsTo l i 0 = l.flatMap (·.certs) := certsTo_end l i (by omega)
        rw [e] at HB hlc
        have HLn := Go.Lib.hid (pickR_length ep l)
        have HTk := Go.Lib.hid (fun k => pickR_take ep l k)
        have HPk : Hid (pickL ep xs view l = pickR ep l) := Go.Lib.hid (by rw [DF.out]; simp)
        have HRw : Hid (∀ n, n < 4 → ∃ sa scap, z.on.rangeAt x1.on.heap.size (n * 9) ((ctOf (bestC (slotN ep n) (l.flatMap (·.certs)))).cells sa scap)) := Go.Lib.hid HB.out.rows
        have hzs : x1.on.heap.size < z.on.heap.size := by have := HB.out.there 0 (by omega); obtain ⟨u, hu⟩ := Option.isSome_iff_exists.1 this.1; exact lt_of_cell hu
        have hws : w.heap.size < z.on.heap.size := by omega
        rw [e]
        clear e HB
        generalize lastC ep (l.flatMap (·.certs)) = cnt at *
        have hc4 : (cnt : Int) ≤ 4 := by omega
        go_wp2_with (refine wpList_make_ew rfl _ _ 38 rfl 49 6 56 _ Try.underlying38 info_req (by omega) cnt rfl rfl (by omega) (fun W1 hO => ?_); have HO1 := Go.Lib.hid hO; clear hO)
        go_loopw [17, 78] (fun ov iv wr => ∃ (k : Nat) (v : Value) (z3 : EW (From z.on.heap.size) W1.on), k ≤ cnt ∧ v = ov ∧ iv = .int .i64 k ∧ wr = z3.on ∧ Hid (wr.ownsRow z.on.heap.size 49 6 v k (reqCells ((pickR ep l).take k)))) (fun _ iv _ => cnt - (intOf iv).toNat)
        case atStart => exact ⟨0, _, ⟨_, Ext.refl _ _⟩, Nat.zero_le _, rfl, rfl, rfl, Go.Lib.hid (by rw [List.take_zero]; exact HO1.out)⟩
        case round =>
          clear HO1
          obtain ⟨k, v, z3, hk, rfl, rfl, rfl, HO⟩ := hrel
          by_cases hkl : k < cnt
          · obtain ⟨sa, scap, hr⟩ := HRw.out k (by omega)
            have hr' := range_ext (range_ext hr W1.ext (fun f => f)) z3.ext (by unfold From; omega)
            have HT := Go.Lib.hid (HTk.out k hkl)
            have HRq := Go.Lib.hid (ctOf_req (bestC (slotN ep k) (l.flatMap (·.certs))))
            generalize ctOf (bestC (slotN ep k) (l.flatMap (·.certs))) = oo at *
            obtain ⟨ov, os, ⟨oc, ot, ⟨ok, okey, ox, oid⟩⟩, ol⟩ := oo
            have q0 : z3.on.cell? ⟨x1.on.heap.size, k * 9, none⟩ = some (.int .i64 ov) := hr' 0 _ rfl
            have q1 : z3.on.cell? ⟨x1.on.heap.size, k * 9 + 1, none⟩ = some (.int .i64 os) := hr' 1 _ rfl
            have q2 : z3.on.cell? ⟨x1.on.heap.size, k * 9 + 2, none⟩ = some (.int .i64 oc) := hr' 2 _ rfl
            have q3 : z3.on.cell? ⟨x1.on.heap.size, k * 9 + 3, none⟩ = some (.int .i64 ot) := hr' 3 _ rfl
            have q4 : z3.on.cell? ⟨x1.on.heap.size, k * 9 + 4, none⟩ = some (.int .i64 ok) := hr' 4 _ rfl
            have q5 : z3.on.cell? ⟨x1.on.heap.size, k * 9 + 5, none⟩ = some (.string okey) := hr' 5 _ rfl
            have q6 : z3.on.cell? ⟨x1.on.heap.size, k * 9 + 6, none⟩ = some (.float .f64 ox) := hr' 6 _ rfl
            have q7 : z3.on.cell? ⟨x1.on.heap.size, k * 9 + 7, none⟩ = some (.int .i64 oid) := hr' 7 _ rfl
            have q8 : z3.on.cell? ⟨x1.on.heap.size, k * 9 + 8, none⟩ = some (.slice sa ol.length scap) := hr' 8 _ rfl
            have hki : (k : Int) < (cnt : Int) := by omega
            have hz3 : z.on.heap.size ≤ z3.on.heap.size := Nat.le_trans W1.ext.size z3.ext.size
            clear hr hr'
            go_wp2_with (at_builtin; refine wpList_append_ew rfl _ _ 38 rfl z.on.heap.size 49 6 56 _ Try.underlying38 info_req (by rfl) (by omega) (by omega) _ k _ rfl (ownR_extN HO.out (by (repeat (first | with_reducible exact Ext.refl _ _ | assumption | with_reducible refine Ext.upN ?_ | with_reducible refine Ext.alloc ?_ _ | with_reducible refine Ext.upA (by assumption) ?_ | with_reducible refine Ext.upW ?_ | with_reducible refine Ext.drew ?_ | with_reducible refine Ext.drewN ?_ _ | with_reducible refine Ext.upF ?_ | with_reducible refine Ext.upFF (by first | omega | simp) ?_ | with_reducible refine Ext.setCellsF _ _ _ (by first | omega | simp) ?_ | with_reducible refine Ext.setCellF _ _ _ (by first | omega | simp) ?_ | with_reducible refine Ext.upFN (by first | omega | simp) ?_ | with_reducible refine Ext.up1F (by first | omega | simp) ?_ | with_reducible refine Ext.up1N (by first | omega | simp) ?_ | with_reducible refine Ext.setCell ?_ (.inr (by first | omega | simp)) _ | refine Ext.alloc ?_ _ | refine Ext.setCellF _ _ _ (by first | omega | simp) ?_ | refine Ext.setCell ?_ (.inr (by first | omega | simp)) _)))) _ [.int .i64 oc, .int .i64 ot, .int .i64 ok, .string okey, .float .f64 ox, .int .i64 oid] _ rfl (Bx.newAt _ _ _ _ (by simp)) rfl (by simp [Value.oneCell']) (by omega) (by simp; omega) (fun v' W2 hO => ?_); have HO2 := Go.Lib.hid hO; clear hO)
            have HO3 : Hid (W2.on.ownsRow z.on.heap.size 49 6 v' (k + 1) (reqCells ((pickR ep l).take (k + 1)))) := Go.Lib.hid (by rw [HT.out, reqCells_snoc, ← HRq.out]; exact HO2.out)
            go_roundw
            case rel => exact ⟨k + 1, v', ⟨_, by (repeat (first | with_reducible exact Ext.refl _ _ | assumption | with_reducible refine Ext.upN ?_ | with_reducible refine Ext.alloc ?_ _ | with_reducible refine Ext.upA (by assumption) ?_ | with_reducible refine Ext.upW ?_ | with_reducible refine Ext.drew ?_ | with_reducible refine Ext.drewN ?_ _ | with_reducible refine Ext.upF ?_ | with_reducible refine Ext.upFF (by first | omega | simp) ?_ | with_reducible refine Ext.setCellsF _ _ _ (by first | omega | simp) ?_ | with_reducible refine Ext.setCellF _ _ _ (by first | omega | simp) ?_ | with_reducible refine Ext.upFN (by first | omega | simp) ?_ | with_reducible refine Ext.up1F (by first | omega | simp) ?_ | with_reducible refine Ext.up1N (by first | omega | simp) ?_ | with_reducible refine Ext.setCell ?_ (.inr (by first | omega | simp)) _ | refine Ext.alloc ?_ _ | refine Ext.setCellF _ _ _ (by first | omega | simp) ?_ | refine Ext.setCell ?_ (.inr (by first | omega | simp)) _))⟩, hkl, rfl, by go_num, rfl, HO3⟩
            case measure => simp [intOf]; omega
          · have HKC : Hid (k = cnt) := Go.Lib.hid (by omega)
            go_wp2
            go_returns
            refine ⟨v, by rw [HTe.out]; rfl, ?_, Ext.trans (by (repeat (first | with_reducible exact Ext.refl _ _ | assumption | with_reducible refine Ext.upN ?_ | with_reducible refine Ext.alloc ?_ _ | with_reducible refine Ext.upA (by assumption) ?_ | with_reducible refine Ext.upW ?_ | with_reducible refine Ext.drew ?_ | with_reducible refine Ext.drewN ?_ _ | with_reducible refine Ext.upF ?_ | with_reducible refine Ext.upFF (by first | omega | simp) ?_ | with_reducible refine Ext.setCellsF _ _ _ (by first | omega | simp) ?_ | with_reducible refine Ext.setCellF _ _ _ (by first | omega | simp) ?_ | with_reducible refine Ext.upFN (by first | omega | simp) ?_ | with_reducible refine Ext.up1F (by first | omega | simp) ?_ | with_reducible refine Ext.up1N (by first | omega | simp) ?_ | with_reducible refine Ext.setCell ?_ (.inr (by first | omega | simp)) _ | refine Ext.alloc ?_ _ | refine Ext.setCellF _ _ _ (by first | omega | simp) ?_ | refine Ext.setCell ?_ (.inr (by first | omega | simp)) _)) : Ext Non w z.on) (Ext.fromNon (Nat.le_refl _) (by (repeat (first | with_reducible exact Ext.refl _ _ | assumption | with_reducible refine Ext.upN ?_ | with_reducible refine Ext.alloc ?_ _ | with_reducible refine Ext.upA (by assumption) ?_ | with_reducible refine Ext.upW ?_ | with_reducible refine Ext.drew ?_ | with_reducible refine Ext.drewN ?_ _ | with_reducible refine Ext.upF ?_ | with_reducible refine Ext.upFF (by first | omega | simp) ?_ | with_reducible refine Ext.setCellsF _ _ _ (by first | omega | simp) ?_ | with_reducible refine Ext.setCellF _ _ _ (by first | omega | simp) ?_ | with_reducible refine Ext.upFN (by first | omega | simp) ?_ | with_reducible refine Ext.up1F (by first | omega | simp) ?_ | with_reducible refine Ext.up1N (by first | omega | simp) ?_ | with_reducible refine Ext.setCell ?_ (.inr (by first | omega | simp)) _ | refine Ext.alloc ?_ _ | refine Ext.setCellF _ _ _ (by first | omega | simp) ?_ | refine Ext.setCell ?_ (.inr (by first | omega | simp)) _))))⟩
            rw [HPk.out, HLn.out]
            obtain rfl := HKC.out
            have := HO.out
            rw [List.take_of_length_le (by rw [HLn.out]; omega)] at this
            exact ownR_base this (by omega)
  · as_aux_lemma =>
    have HN := Go.Lib.hid h0
    have hbe : (te != 0) = true := by rw [bne_iff_ne]; exact h0
    clear h0
    go_wp2
    go_returns
    have e : pickL ep xs view l = [] := by rw [DF.out, if_neg (show ¬ te = 0 from HN.out)]
    exact ⟨.slice none 0 0, by rw [HTe.out]; rfl, by rw [e]; exact World.ownsRow_nil _ _ _ _, by (repeat (first | with_reducible exact Ext.refl _ _ | assumption | with_reducible refine Ext.upN ?_ | with_reducible refine Ext.alloc ?_ _ | with_reducible refine Ext.upA (by assumption) ?_ | with_reducible refine Ext.upW ?_ | with_reducible refine Ext.drew ?_ | with_reducible refine Ext.drewN ?_ _ | with_reducible refine Ext.upF ?_ | with_reducible refine Ext.upFF (by first | omega | simp) ?_ | with_reducible refine Ext.setCellsF _ _ _ (by first | omega | simp) ?_ | with_reducible refine Ext.setCellF _ _ _ (by first | omega | simp) ?_ | with_reducible refine Ext.upFN (by first | omega | simp) ?_ | with_reducible refine Ext.up1F (by first | omega | simp) ?_ | with_reducible refine Ext.up1N (by first | omega | simp) ?_ | with_reducible refine Ext.setCell ?_ (.inr (by first | omega | simp)) _ | refine Ext.alloc ?_ _ | refine Ext.setCellF _ _ _ (by first | omega | simp) ?_ | refine Ext.setCell ?_ (.inr (by first | omega | simp)) _))⟩
end Go.Proofs.Ytakbkpklfihfiaa
