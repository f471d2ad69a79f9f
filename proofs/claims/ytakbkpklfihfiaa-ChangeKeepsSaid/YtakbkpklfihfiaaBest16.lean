/- Contracts of the reference of layer 16: the best certificate of a slot. -/
import Derived.Test.YtakbkpklfihfiaaPickP
import Derived.Test.YtakbkpklfihfiaaEw3
namespace Go.Proofs.Ytakbkpklfihfiaa
open Go.RowKit Go.Lib F64
set_option linter.unusedSimpArgs false
set_option linter.unusedVariables false
attribute [local go_sem] run_store_float
attribute [local go_sem low] EW.cellN EW.frozN alloc_cell_or alloc_froz_or EW.cellF EW.frozF EW.cell1 EW.froz1
def ctOf (o : Option Ct) : Ct := o.getD default
theorem best_snoc (slot : Int) (P : List Ct) (x : Ct) : bestC slot (P ++ [x]) = stepB slot (bestC slot P) x := by simp [bestC, List.foldl_append]
def updB (slot : Int) (fd : Bool) (y x : Ct) : Prop := x.slot = slot ∧ (fd = false ∨ y.view < x.view)
instance (slot : Int) (fd : Bool) (y x : Ct) : Decidable (updB slot fd y x) := by unfold updB; infer_instance
theorem step_pair (slot : Int) (o : Option Ct) (x y : Ct) (fd : Bool) (hy : y = ctOf o) (hf : fd = o.isSome) : ctOf (stepB slot o x) = (if updB slot fd y x then x else y) ∧ (stepB slot o x).isSome = (if updB slot fd y x then true else fd) := by
  subst hy hf
  unfold stepB updB ctOf
  cases o with
  | none => by_cases h : x.slot = slot <;> simp [h]
  | some y =>
    by_cases h : x.slot = slot
    · by_cases g : y.view < x.view <;> simp [h, g]
    · simp [h]
/-- The certificates of the first i changes, and j of the next. -/
def certsTo (l : List Ch) (i j : Nat) : List Ct := (l.take i).flatMap (·.certs) ++ (chAt l i).certs.take j
theorem certsTo_succ (l : List Ch) (i j : Nat) (h : j < (chAt l i).certs.length) : certsTo l i (j + 1) = certsTo l i j ++ [ctAt (chAt l i).certs j] := by
  unfold certsTo
  rw [List.take_succ_eq_append_getElem h, ctAt_get h, List.append_assoc]
theorem certsTo_next (l : List Ch) (i j : Nat) (hi : i < l.length) (h : (chAt l i).certs.length ≤ j) : certsTo l i j = certsTo l (i + 1) 0 := by
  unfold certsTo
  rw [List.take_of_length_le h, List.take_succ_eq_append_getElem hi, List.flatMap_append, chAt_get hi]; simp
theorem certsTo_end (l : List Ch) (i : Nat) (h : l.length ≤ i) : certsTo l i 0 = l.flatMap (·.certs) := by
  unfold certsTo
  rw [List.take_of_length_le h]; simp
theorem info_cert : (Try.prog.info? 52).map (·.size) = some 9 := by kernel_rfl
set_option maxHeartbeats 4000000 in
set_option maxRecDepth 100000 in
theorem ref16_best (slot : Int) (la : Option Addr) (lcap : Nat) (l : List Ch) (w : World) (h : Chs w la lcap l) :
    Calls Try.prog 75 #[.slice la l.length lcap, .int .i64 slot] w fun e w' =>
    ∃ sa scap, e = .returned (.tuple #[.agg ((ctOf (bestL slot l)).cells sa scap).toArray, .bool (bestL slot l).isSome]) ∧ Ext Non w w' := by
  have HH := Go.Lib.hid h
  have hsm := h.small; have hsl := h.le
  clear h
  go_enter Try.func75, Try.ntmps75
  go_wp2_with fail
  go_loopw [7, 8] (fun fv iv wr => ∃ (i : Nat) (oc : Ct) (oa : Option Addr) (ocap : Nat) (fd : Bool) (z : EW (From w.heap.size) w), i ≤ l.length ∧ iv = .int .i64 i ∧ fv = .bool fd ∧ wr = z.on ∧ Hid (Bx wr w.heap.size ((default : Ct).cells none 0) 52) ∧ Hid (Bx wr (w.heap.size + 1) (oc.cells oa ocap) 52) ∧ Hid (oc = ctOf (bestC slot (certsTo l i 0))) ∧ Hid (fd = (bestC slot (certsTo l i 0)).isSome)) (fun _ iv _ => l.length - (intOf iv).toNat)
  case atStart =>
    exact ⟨0, default, none, 0, false, ⟨_, by (repeat (first | with_reducible exact Ext.refl _ _ | assumption | with_reducible refine Ext.upN ?_ | with_reducible refine Ext.alloc ?_ _ | with_reducible refine Ext.upA (by assumption) ?_ | with_reducible refine Ext.upW ?_ | with_reducible refine Ext.drew ?_ | with_reducible refine Ext.drewN ?_ _ | with_reducible refine Ext.upF ?_ | with_reducible refine Ext.upFF (by first | omega | simp) ?_ | with_reducible refine Ext.setCellsF _ _ _ (by first | omega | simp) ?_ | with_reducible refine Ext.setCellF _ _ _ (by first | omega | simp) ?_ | with_reducible refine Ext.upFN (by first | omega | simp) ?_ | with_reducible refine Ext.up1F (by first | omega | simp) ?_ | with_reducible refine Ext.up1N (by first | omega | simp) ?_ | with_reducible refine Ext.setCell ?_ (.inr (by first | omega | simp)) _ | refine Ext.alloc ?_ _ | refine Ext.setCellF _ _ _ (by first | omega | simp) ?_ | refine Ext.setCell ?_ (.inr (by first | omega | simp)) _))⟩, Nat.zero_le _, rfl, rfl, rfl, Go.Lib.hid ((Bx.new w _ _).alloc _), Go.Lib.hid (Bx.newAt _ _ _ _ (by simp)), Go.Lib.hid rfl, Go.Lib.hid rfl⟩
  case round =>
    obtain ⟨i, oc, oa, ocap, fd, z, hi, rfl, rfl, rfl, B4, BX, HO, HF⟩ := hrel
    by_cases hlt : i < l.length
    · obtain ⟨lb, lo, ca, ccap, rfl, hlb, hrow, hcs, hif, hiv, hiy, hit⟩ := HH.out.at_ i hlt
      have HCs : Hid (Certs w ca ccap (chAt l i).certs) := Go.Lib.hid hcs
      have r2 : w.cell? ⟨lb, lo + i * 5 + 2, none⟩ = some (.slice ca (chAt l i).certs.length ccap) := hrow 2 _ rfl
      have hcsm := hcs.small; have hcsl := hcs.le
      clear hrow hcs hif hiv hiy hit
      go_wp2_with fail
      go_loopw [7, 9] (fun fv jv wr => ∃ (j : Nat) (oc : Ct) (oa : Option Addr) (ocap : Nat) (fd : Bool) (z2 : EW (From w.heap.size) z.on), j ≤ (chAt l i).certs.length ∧ jv = .int .i64 j ∧ fv = .bool fd ∧ wr = z2.on ∧ Hid (Bx wr w.heap.size ((default : Ct).cells none 0) 52) ∧ Hid (Bx wr (w.heap.size + 1) (oc.cells oa ocap) 52) ∧ Hid (oc = ctOf (bestC slot (certsTo l i j))) ∧ Hid (fd = (bestC slot (certsTo l i j)).isSome)) (fun _ jv _ => (chAt l i).certs.length - (intOf jv).toNat)
      case atStart => exact ⟨0, oc, oa, ocap, fd, ⟨_, by (repeat (first | with_reducible exact Ext.refl _ _ | assumption | with_reducible refine Ext.upN ?_ | with_reducible refine Ext.alloc ?_ _ | with_reducible refine Ext.upA (by assumption) ?_ | with_reducible refine Ext.upW ?_ | with_reducible refine Ext.drew ?_ | with_reducible refine Ext.drewN ?_ _ | with_reducible refine Ext.upF ?_ | with_reducible refine Ext.upFF (by first | omega | simp) ?_ | with_reducible refine Ext.setCellsF _ _ _ (by first | omega | simp) ?_ | with_reducible refine Ext.setCellF _ _ _ (by first | omega | simp) ?_ | with_reducible refine Ext.upFN (by first | omega | simp) ?_ | with_reducible refine Ext.up1F (by first | omega | simp) ?_ | with_reducible refine Ext.up1N (by first | omega | simp) ?_ | with_reducible refine Ext.setCell ?_ (.inr (by first | omega | simp)) _ | refine Ext.alloc ?_ _ | refine Ext.setCellF _ _ _ (by first | omega | simp) ?_ | refine Ext.setCell ?_ (.inr (by first | omega | simp)) _))⟩, Nat.zero_le _, rfl, rfl, rfl, B4, BX, HO, HF⟩
      case round =>
        clear B4 BX HO HF
        obtain ⟨j, oc, oa, ocap, fd, z2, hj, rfl, rfl, rfl, B4, BX, HO, HF⟩ := hrel
        by_cases hjl : j < (chAt l i).certs.length
        · obtain ⟨cb, co, sa, scap, rfl, hcb, hcells, hsg, hro, hvi, hsi⟩ := HCs.out.at_ j hjl
          have HP := Go.Lib.hid (certsTo_succ l i j hjl)
          generalize hct : ctAt (chAt l i).certs j = ct at *
          obtain ⟨cv, cs, ⟨rc, rs, ⟨rk, rkey, rx, rid⟩⟩, sl⟩ := ct
          obtain ⟨ov, os, ⟨oc, ot, ⟨ok, okey, ox, oid⟩⟩, ol⟩ := oc
          clear hct
          have m0 : w.cell? ⟨cb, co + j * 9, none⟩ = some (.int .i64 cv) := hcells 0 _ rfl
          have m1 : w.cell? ⟨cb, co + j * 9 + 1, none⟩ = some (.int .i64 cs) := hcells 1 _ rfl
          have m2 : w.cell? ⟨cb, co + j * 9 + 2, none⟩ = some (.int .i64 rc) := hcells 2 _ rfl
          have m3 : w.cell? ⟨cb, co + j * 9 + 3, none⟩ = some (.int .i64 rs) := hcells 3 _ rfl
          have m4 : w.cell? ⟨cb, co + j * 9 + 4, none⟩ = some (.int .i64 rk) := hcells 4 _ rfl
          have m5 : w.cell? ⟨cb, co + j * 9 + 5, none⟩ = some (.string rkey) := hcells 5 _ rfl
          have m6 : w.cell? ⟨cb, co + j * 9 + 6, none⟩ = some (.float .f64 rx) := hcells 6 _ rfl
          have m7 : w.cell? ⟨cb, co + j * 9 + 7, none⟩ = some (.int .i64 rid) := hcells 7 _ rfl
          have m8 : w.cell? ⟨cb, co + j * 9 + 8, none⟩ = some (.slice sa sl.length scap) := hcells 8 _ rfl
          have q0 : z2.on.cell? ⟨w.heap.size + 1, 0, none⟩ = some (.int .i64 ov) := BX.out.cell rfl
          clear hcells hsg hro hvi hsi
          by_cases hs : cs = slot
          · have hbs : (cs == slot) = true := by rw [beq_iff_eq]; exact hs
            have HS := Go.Lib.hid hs; clear hs
            cases fd
            · as_aux_lemma =>
              have HZ : Hid ((⟨cv, cs, ⟨rc, rs, ⟨rk, rkey, rx, rid⟩⟩, sl⟩ : Ct) = ctOf (bestC slot (certsTo l i (j + 1)))) := Go.Lib.hid (by rw [HP.out, best_snoc, (step_pair slot _ _ (⟨ov, os, ⟨oc, ot, ⟨ok, okey, ox, oid⟩⟩, ol⟩ : Ct) false HO.out HF.out).1, if_pos (by exact ⟨HS.out, .inl rfl⟩)])
              have HZF : Hid (true = (bestC slot (certsTo l i (j + 1))).isSome) := Go.Lib.hid (by rw [HP.out, best_snoc, (step_pair slot _ _ (⟨ov, os, ⟨oc, ot, ⟨ok, okey, ox, oid⟩⟩, ol⟩ : Ct) false HO.out HF.out).2, if_pos (by exact ⟨HS.out, .inl rfl⟩)])
              go_wp2_with (refine wpList_store_box rfl 52 _ _ rfl (w.heap.size + 1) _ [.int .i64 cv, .int .i64 cs, .int .i64 rc, .int .i64 rs, .int .i64 rk, .string rkey, .float .f64 rx, .int .i64 rid, .slice sa sl.length scap] _ rfl rfl (BX.out.alloc _) rfl info_cert (by simp [Value.oneCell']) (fun W hB => ?_); have BZ := Go.Lib.hid hB; clear hB)
              go_roundw
              case rel => exact ⟨j + 1, (⟨cv, cs, ⟨rc, rs, ⟨rk, rkey, rx, rid⟩⟩, sl⟩ : Ct), sa, scap, true, ⟨_, by (repeat (first | with_reducible exact Ext.refl _ _ | assumption | with_reducible refine Ext.upN ?_ | with_reducible refine Ext.alloc ?_ _ | with_reducible refine Ext.upA (by assumption) ?_ | with_reducible refine Ext.upW ?_ | with_reducible refine Ext.drew ?_ | with_reducible refine Ext.drewN ?_ _ | with_reducible refine Ext.upF ?_ | with_reducible refine Ext.upFF (by first | omega | simp) ?_ | with_reducible refine Ext.setCellsF _ _ _ (by first | omega | simp) ?_ | with_reducible refine Ext.setCellF _ _ _ (by first | omega | simp) ?_ | with_reducible refine Ext.upFN (by first | omega | simp) ?_ | with_reducible refine Ext.up1F (by first | omega | simp) ?_ | with_reducible refine Ext.up1N (by first | omega | simp) ?_ | with_reducible refine Ext.setCell ?_ (.inr (by first | omega | simp)) _ | refine Ext.alloc ?_ _ | refine Ext.setCellF _ _ _ (by first | omega | simp) ?_ | refine Ext.setCell ?_ (.inr (by first | omega | simp)) _))⟩, hjl, by go_num, rfl, rfl, Go.Lib.hid ((B4.out.alloc _).up1 _ (by omega)), BZ, HZ, HZF⟩
              case measure => simp [intOf]; omega
            · by_cases hv : ov < cv
              · as_aux_lemma =>
                have hdv : decide (ov < cv) = true := decide_eq_true hv
                have HZ : Hid ((⟨cv, cs, ⟨rc, rs, ⟨rk, rkey, rx, rid⟩⟩, sl⟩ : Ct) = ctOf (bestC slot (certsTo l i (j + 1)))) := Go.Lib.hid (by rw [HP.out, best_snoc, (step_pair slot _ _ (⟨ov, os, ⟨oc, ot, ⟨ok, okey, ox, oid⟩⟩, ol⟩ : Ct) true HO.out HF.out).1, if_pos (by exact ⟨HS.out, .inr hv⟩)])
                have HZF : Hid (true = (bestC slot (certsTo l i (j + 1))).isSome) := Go.Lib.hid (by rw [HP.out, best_snoc, (step_pair slot _ _ (⟨ov, os, ⟨oc, ot, ⟨ok, okey, ox, oid⟩⟩, ol⟩ : Ct) true HO.out HF.out).2, if_pos (by exact ⟨HS.out, .inr hv⟩)])
                go_wp2_with (refine wpList_store_box rfl 52 _ _ rfl (w.heap.size + 1) _ [.int .i64 cv, .int .i64 cs, .int .i64 rc, .int .i64 rs, .int .i64 rk, .string rkey, .float .f64 rx, .int .i64 rid, .slice sa sl.length scap] _ rfl rfl (BX.out.alloc _) rfl info_cert (by simp [Value.oneCell']) (fun W hB => ?_); have BZ := Go.Lib.hid hB; clear hB)
                go_roundw
                case rel => exact ⟨j + 1, (⟨cv, cs, ⟨rc, rs, ⟨rk, rkey, rx, rid⟩⟩, sl⟩ : Ct), sa, scap, true, ⟨_, by (repeat (first | with_reducible exact Ext.refl _ _ | assumption | with_reducible refine Ext.upN ?_ | with_reducible refine Ext.alloc ?_ _ | with_reducible refine Ext.upA (by assumption) ?_ | with_reducible refine Ext.upW ?_ | with_reducible refine Ext.drew ?_ | with_reducible refine Ext.drewN ?_ _ | with_reducible refine Ext.upF ?_ | with_reducible refine Ext.upFF (by first | omega | simp) ?_ | with_reducible refine Ext.setCellsF _ _ _ (by first | omega | simp) ?_ | with_reducible refine Ext.setCellF _ _ _ (by first | omega | simp) ?_ | with_reducible refine Ext.upFN (by first | omega | simp) ?_ | with_reducible refine Ext.up1F (by first | omega | simp) ?_ | with_reducible refine Ext.up1N (by first | omega | simp) ?_ | with_reducible refine Ext.setCell ?_ (.inr (by first | omega | simp)) _ | refine Ext.alloc ?_ _ | refine Ext.setCellF _ _ _ (by first | omega | simp) ?_ | refine Ext.setCell ?_ (.inr (by first | omega | simp)) _))⟩, hjl, by go_num, rfl, rfl, Go.Lib.hid ((B4.out.alloc _).up1 _ (by omega)), BZ, HZ, HZF⟩
                case measure => simp [intOf]; omega
              · as_aux_lemma =>
                have hdv : decide (ov < cv) = false := decide_eq_false hv
                have HZ : Hid ((⟨ov, os, ⟨oc, ot, ⟨ok, okey, ox, oid⟩⟩, ol⟩ : Ct) = ctOf (bestC slot (certsTo l i (j + 1)))) := Go.Lib.hid (by rw [HP.out, best_snoc, (step_pair slot _ _ (⟨ov, os, ⟨oc, ot, ⟨ok, okey, ox, oid⟩⟩, ol⟩ : Ct) true HO.out HF.out).1, if_neg (by rintro ⟨_, h | h⟩; cases h; have h : ov < cv := h; omega)])
                have HZF : Hid (true = (bestC slot (certsTo l i (j + 1))).isSome) := Go.Lib.hid (by rw [HP.out, best_snoc, (step_pair slot _ _ (⟨ov, os, ⟨oc, ot, ⟨ok, okey, ox, oid⟩⟩, ol⟩ : Ct) true HO.out HF.out).2, if_neg (by rintro ⟨_, h | h⟩; cases h; have h : ov < cv := h; omega)])
                go_wp2_with fail
                go_roundw
                case rel => exact ⟨j + 1, (⟨ov, os, ⟨oc, ot, ⟨ok, okey, ox, oid⟩⟩, ol⟩ : Ct), oa, ocap, true, ⟨_, by (repeat (first | with_reducible exact Ext.refl _ _ | assumption | with_reducible refine Ext.upN ?_ | with_reducible refine Ext.alloc ?_ _ | with_reducible refine Ext.upA (by assumption) ?_ | with_reducible refine Ext.upW ?_ | with_reducible refine Ext.drew ?_ | with_reducible refine Ext.drewN ?_ _ | with_reducible refine Ext.upF ?_ | with_reducible refine Ext.upFF (by first | omega | simp) ?_ | with_reducible refine Ext.setCellsF _ _ _ (by first | omega | simp) ?_ | with_reducible refine Ext.setCellF _ _ _ (by first | omega | simp) ?_ | with_reducible refine Ext.upFN (by first | omega | simp) ?_ | with_reducible refine Ext.up1F (by first | omega | simp) ?_ | with_reducible refine Ext.up1N (by first | omega | simp) ?_ | with_reducible refine Ext.setCell ?_ (.inr (by first | omega | simp)) _ | refine Ext.alloc ?_ _ | refine Ext.setCellF _ _ _ (by first | omega | simp) ?_ | refine Ext.setCell ?_ (.inr (by first | omega | simp)) _))⟩, hjl, by go_num, rfl, rfl, Go.Lib.hid (B4.out.alloc _), Go.Lib.hid (BX.out.alloc _), HZ, HZF⟩
                case measure => simp [intOf]; omega
          · as_aux_lemma =>
            have hbs : (cs == slot) = false := by rw [beq_eq_false_iff_ne]; exact hs
            have HZ : Hid ((⟨ov, os, ⟨oc, ot, ⟨ok, okey, ox, oid⟩⟩, ol⟩ : Ct) = ctOf (bestC slot (certsTo l i (j + 1)))) := Go.Lib.hid (by rw [HP.out, best_snoc, (step_pair slot _ _ (⟨ov, os, ⟨oc, ot, ⟨ok, okey, ox, oid⟩⟩, ol⟩ : Ct) fd HO.out HF.out).1, if_neg (by rintro ⟨h, _⟩; exact hs h)])
            have HZF : Hid (fd = (bestC slot (certsTo l i (j + 1))).isSome) := Go.Lib.hid (by rw [HP.out, best_snoc, (step_pair slot _ _ (⟨ov, os, ⟨oc, ot, ⟨ok, okey, ox, oid⟩⟩, ol⟩ : Ct) fd HO.out HF.out).2, if_neg (by rintro ⟨h, _⟩; exact hs h)])
            go_wp2_with fail
            go_roundw
            case rel => exact ⟨j + 1, (⟨ov, os, ⟨oc, ot, ⟨ok, okey, ox, oid⟩⟩, ol⟩ : Ct), oa, ocap, fd, ⟨_, by (repeat (first | with_reducible exact Ext.refl _ _ | assumption | with_reducible refine Ext.upN ?_ | with_reducible refine Ext.alloc ?_ _ | with_reducible refine Ext.upA (by assumption) ?_ | with_reducible refine Ext.upW ?_ | with_reducible refine Ext.drew ?_ | with_reducible refine Ext.drewN ?_ _ | with_reducible refine Ext.upF ?_ | with_reducible refine Ext.upFF (by first | omega | simp) ?_ | with_reducible refine Ext.setCellsF _ _ _ (by first | omega | simp) ?_ | with_reducible refine Ext.setCellF _ _ _ (by first | omega | simp) ?_ | with_reducible refine Ext.upFN (by first | omega | simp) ?_ | with_reducible refine Ext.up1F (by first | omega | simp) ?_ | with_reducible refine Ext.up1N (by first | omega | simp) ?_ | with_reducible refine Ext.setCell ?_ (.inr (by first | omega | simp)) _ | refine Ext.alloc ?_ _ | refine Ext.setCellF _ _ _ (by first | omega | simp) ?_ | refine Ext.setCell ?_ (.inr (by first | omega | simp)) _))⟩, hjl, by go_num, rfl, rfl, Go.Lib.hid (B4.out.alloc _), Go.Lib.hid (BX.out.alloc _), HZ, HZF⟩
            case measure => simp [intOf]; omega
        · have HO' : Hid (oc = ctOf (bestC slot (certsTo l (i + 1) 0))) := Go.Lib.hid (by rw [← certsTo_next l i j hlt (by omega)]; exact HO.out)
          have HF' : Hid (fd = (bestC slot (certsTo l (i + 1) 0)).isSome) := Go.Lib.hid (by rw [← certsTo_next l i j hlt (by omega)]; exact HF.out)
          go_wp2_with fail
          go_roundw
          case rel => exact ⟨i + 1, oc, oa, ocap, fd, ⟨_, by (repeat (first | with_reducible exact Ext.refl _ _ | assumption | with_reducible refine Ext.upN ?_ | with_reducible refine Ext.alloc ?_ _ | with_reducible refine Ext.upA (by assumption) ?_ | with_reducible refine Ext.upW ?_ | with_reducible refine Ext.drew ?_ | with_reducible refine Ext.drewN ?_ _ | with_reducible refine Ext.upF ?_ | with_reducible refine Ext.upFF (by first | omega | simp) ?_ | with_reducible refine Ext.setCellsF _ _ _ (by first | omega | simp) ?_ | with_reducible refine Ext.setCellF _ _ _ (by first | omega | simp) ?_ | with_reducible refine Ext.upFN (by first | omega | simp) ?_ | with_reducible refine Ext.up1F (by first | omega | simp) ?_ | with_reducible refine Ext.up1N (by first | omega | simp) ?_ | with_reducible refine Ext.setCell ?_ (.inr (by first | omega | simp)) _ | refine Ext.alloc ?_ _ | refine Ext.setCellF _ _ _ (by first | omega | simp) ?_ | refine Ext.setCell ?_ (.inr (by first | omega | simp)) _))⟩, hlt, by go_num, rfl, rfl, B4, BX, HO', HF'⟩
          case measure => simp [intOf]; omega
    · have HO' : Hid (oc = ctOf (bestL slot l)) := Go.Lib.hid (by have := HO.out; rw [certsTo_end l i (by omega)] at this; exact this)
      have HF' : Hid (fd = (bestL slot l).isSome) := Go.Lib.hid (by have := HF.out; rw [certsTo_end l i (by omega)] at this; exact this)
      clear HO HF
      obtain ⟨ov, os, ⟨oc, ot, ⟨ok, okey, ox, oid⟩⟩, ol⟩ := oc
      have q0 : z.on.cell? ⟨w.heap.size + 1, 0, none⟩ = some (.int .i64 ov) := BX.out.cell rfl
      have q1 : z.on.cell? ⟨w.heap.size + 1, 1, none⟩ = some (.int .i64 os) := BX.out.cell rfl
      have q2 : z.on.cell? ⟨w.heap.size + 1, 2, none⟩ = some (.int .i64 oc) := BX.out.cell rfl
      have q3 : z.on.cell? ⟨w.heap.size + 1, 3, none⟩ = some (.int .i64 ot) := BX.out.cell rfl
      have q4 : z.on.cell? ⟨w.heap.size + 1, 4, none⟩ = some (.int .i64 ok) := BX.out.cell rfl
      have q5 : z.on.cell? ⟨w.heap.size + 1, 5, none⟩ = some (.string okey) := BX.out.cell rfl
      have q6 : z.on.cell? ⟨w.heap.size + 1, 6, none⟩ = some (.float .f64 ox) := BX.out.cell rfl
      have q7 : z.on.cell? ⟨w.heap.size + 1, 7, none⟩ = some (.int .i64 oid) := BX.out.cell rfl
      have q8 : z.on.cell? ⟨w.heap.size + 1, 8, none⟩ = some (.slice oa ol.length ocap) := BX.out.cell rfl
      go_upto_region 14 with (refine wpList_store_box rfl 52 _ _ rfl w.heap.size _ [.int .i64 ov, .int .i64 os, .int .i64 oc, .int .i64 ot, .int .i64 ok, .string okey, .float .f64 ox, .int .i64 oid, .slice oa ol.length ocap] _ rfl rfl B4.out rfl info_cert (by simp [Value.oneCell']) (fun W hB => ?_); have BZ := Go.Lib.hid hB; clear hB)
      have r0 : W.on.cell? ⟨w.heap.size, 0, none⟩ = some (.int .i64 ov) := BZ.out.cell rfl
      have r1 : W.on.cell? ⟨w.heap.size, 1, none⟩ = some (.int .i64 os) := BZ.out.cell rfl
      have r2 : W.on.cell? ⟨w.heap.size, 2, none⟩ = some (.int .i64 oc) := BZ.out.cell rfl
      have r3 : W.on.cell? ⟨w.heap.size, 3, none⟩ = some (.int .i64 ot) := BZ.out.cell rfl
      have r4 : W.on.cell? ⟨w.heap.size, 4, none⟩ = some (.int .i64 ok) := BZ.out.cell rfl
      have r5 : W.on.cell? ⟨w.heap.size, 5, none⟩ = some (.string okey) := BZ.out.cell rfl
      have r6 : W.on.cell? ⟨w.heap.size, 6, none⟩ = some (.float .f64 ox) := BZ.out.cell rfl
      have r7 : W.on.cell? ⟨w.heap.size, 7, none⟩ = some (.int .i64 oid) := BZ.out.cell rfl
      have r8 : W.on.cell? ⟨w.heap.size, 8, none⟩ = some (.slice oa ol.length ocap) := BZ.out.cell rfl
      clear q0 q1 q2 q3 q4 q5 q6 q7 q8
      exact bodyPost_ret (v := .tuple #[.agg #[.int .i64 ov, .int .i64 os, .int .i64 oc, .int .i64 ot, .int .i64 ok, .string okey, .float .f64 ox, .int .i64 oid, .slice oa ol.length ocap], .bool fd]) (by simp [results, Try.results75, go_sem, r0, r1, r2, r3, r4, r5, r6, r7, r8]) rfl ⟨oa, ocap, by rw [← HO'.out, ← HF'.out]; rfl, Ext.fromNon (Nat.le_refl _) (by (repeat (first | with_reducible exact Ext.refl _ _ | assumption | with_reducible refine Ext.upN ?_ | with_reducible refine Ext.alloc ?_ _ | with_reducible refine Ext.upA (by assumption) ?_ | with_reducible refine Ext.upW ?_ | with_reducible refine Ext.drew ?_ | with_reducible refine Ext.drewN ?_ _ | with_reducible refine Ext.upF ?_ | with_reducible refine Ext.upFF (by first | omega | simp) ?_ | with_reducible refine Ext.setCellsF _ _ _ (by first | omega | simp) ?_ | with_reducible refine Ext.setCellF _ _ _ (by first | omega | simp) ?_ | with_reducible refine Ext.upFN (by first | omega | simp) ?_ | with_reducible refine Ext.up1F (by first | omega | simp) ?_ | with_reducible refine Ext.up1N (by first | omega | simp) ?_ | with_reducible refine Ext.setCell ?_ (.inr (by first | omega | simp)) _ | refine Ext.alloc ?_ _ | refine Ext.setCellF _ _ _ (by first | omega | simp) ?_ | refine Ext.setCell ?_ (.inr (by first | omega | simp)) _)))⟩
end Go.Proofs.Ytakbkpklfihfiaa
