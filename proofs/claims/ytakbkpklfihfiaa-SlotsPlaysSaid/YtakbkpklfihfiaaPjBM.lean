/- Joined texts: R14c. What each proves stands at its head; no conditions beside those in its theorems. -/
import Derived.Laws.CopyOwn
import Derived.Deep.OwnRows
import Derived.Deep.RegionLaw
import Derived.Test.YtakbkpklfihfiaaPjBL
/- The reference of layer 14: who voted. -/
namespace Go.Proofs.Ytakbkpklfihfiaa
open Go.RowKit Go.Lib F64
set_option linter.unusedSimpArgs false
set_option linter.unusedVariables false
attribute [local go_sem] run_store_float
attribute [local go_sem low] EW.cellN EW.frozN alloc_cell_or alloc_froz_or EW.cellF EW.frozF EW.cell1 EW.froz1
attribute [local go_sem] relAt relUpon
theorem info_vote14 : (Try.prog.info? 164).map (fun i => (i.zero, i.size, i.bytes)) = some (some (.agg #[.bool false, .int .i64 0, .int .i64 0, .int .i64 0, .int .i64 0, .int .i64 0, .string ByteArray.empty, .float .f64 0, .int .i64 0, .int .i64 0, .string ByteArray.empty]), 11, 104) := by kernel_rfl
theorem whoR_succ (ms : List Int) (votes : List RV) (cm : Bool) (n : Int) (r : Req) {i : Nat} (h : i < ms.length) : whoR (ms.take (i + 1)) votes cm n r = whoR (ms.take i) votes cm n r ++ votes.filter (isV cm n ms[i] r) := by
  unfold whoR
  rw [List.take_succ_eq_append_getElem h, List.flatMap_append]
  simp
theorem filt_succ {α : Type} (p : α → Bool) (l : List α) {j : Nat} (h : j < l.length) : (l.take (j + 1)).filter p = (l.take j).filter p ++ (if p l[j] = true then [l[j]] else []) := by
  rw [List.take_succ_eq_append_getElem h, List.filter_append, List.filter_cons]
  split <;> simp
theorem whoR_len (votes : List RV) (cm : Bool) (n : Int) (r : Req) : ∀ ms : List Int, (whoR ms votes cm n r).length ≤ ms.length * votes.length
  | [] => by simp [whoR]
  | m :: t => by
    have h1 := whoR_len votes cm n r t
    have h2 : (votes.filter (isV cm n m r)).length ≤ votes.length := List.length_filter_le _ _
    unfold whoR at *
    rw [List.flatMap_cons, List.length_append, List.length_cons, Nat.add_mul]
    omega
set_option maxHeartbeats 8000000 in
set_option maxRecDepth 100000 in
theorem ref14_who (b : Nat) (G : Nat → Prop) (m : RL14) (cm : Bool) (n : Int) (r : Req) (hr : ReqOk r) (hm : m.mem.length ≤ 100) (hv : m.votes.length ≤ 1000) (w : World) (h : R14W w b G m) : Calls Try.prog 127 #[.pointer (some ⟨b, 0, none⟩), .bool cm, .int .i64 n, reqV r] w fun e w' =>
    ∃ v, e = .returned v ∧ w'.ownsRow w.heap.size 164 11 v (whoR m.mem m.votes cm n r).length ((whoR m.mem m.votes cm n r).flatMap vC) ∧ Ext Non w w' := by
  obtain ⟨S, a, c, v1, v2, v3, v4, ka, Q⟩ := h.ex
  obtain ⟨va, vc, rfl, hvs⟩ := vots_of Q.o2
  have c1 := Q.c1
  have c4 := Q.c4
  have HI := Go.Lib.hid Q.ints; have HV := Go.Lib.hid hvs
  have HOK := Go.Lib.hid Q.e2
  have HR := Go.Lib.hid hr
  have hle := Q.ints.le; have hsm := Q.ints.small
  have hle2 := hvs.1; have hsm2 := hvs.2.1
  clear Q h hvs hr
  obtain ⟨rc, rs, ⟨rk, rkey, rx, rid⟩⟩ := r
  obtain ⟨M, hM⟩ : ∃ M, M = m.mem.length := ⟨_, rfl⟩
  obtain ⟨N, hN⟩ : ∃ N, N = m.votes.length := ⟨_, rfl⟩
  have HM := Go.Lib.hid hM; have HN := Go.Lib.hid hN
  have HLEN := Go.Lib.hid (whoR_len m.votes cm n ⟨rc, rs, ⟨rk, rkey, rx, rid⟩⟩)
  rw [← hM] at c1 hle hm
  rw [← hN] at c4 hle2 hv
  clear hM hN
  have B0 := Go.Lib.hid (Bx.newAt w [.int .i64 rc, .int .i64 rs, .int .i64 rk, .string rkey, .float .f64 rx, .int .i64 rid] 49 _ rfl)
  obtain ⟨B, hB⟩ : ∃ B, B = w.heap.size + 1 := ⟨_, rfl⟩
  show Calls Try.prog 127 #[.pointer (some ⟨b, 0, none⟩), .bool cm, .int .i64 n, .agg #[.int .i64 rc, .int .i64 rs, .int .i64 rk, .string rkey, .float .f64 rx, .int .i64 rid]] w _
  go_enter Try.func127, Try.ntmps127
  go_wp2_with fail
  go_loopg [9, 10, 11, 12] M (fun k ov iv v11 v12 wr => ∃ (i : Nat) (L : List RV) (z : EW (From w.heap.size) w), i ≤ M ∧ k = M - i ∧ iv = .int .i64 i ∧ wr = z.on ∧ Hid (L = whoR (m.mem.take i) m.votes cm n ⟨rc, rs, ⟨rk, rkey, rx, rid⟩⟩) ∧ Hid (wr.ownsRow B 164 11 ov L.length (L.flatMap vC)) ∧ Hid (Bx wr w.heap.size [.int .i64 rc, .int .i64 rs, .int .i64 rk, .string rkey, .float .f64 rx, .int .i64 rid] 49))
  case atStart => exact ⟨0, [], ⟨_, by (repeat (first | with_reducible (first | exact Ext.refl _ _ | assumption | refine Ext.upN ?_ | refine Ext.alloc ?_ _ | refine Ext.drew ?_ | refine Ext.drewN ?_ _ | refine Ext.upF ?_ | refine Ext.upFF (by first | omega | simp) ?_ | refine Ext.setCellsF _ _ _ (by first | omega | simp) ?_ | refine Ext.setCellF _ _ _ (by first | omega | simp) ?_ | refine Ext.upFN (by first | omega | simp) ?_ | refine Ext.up1F (by first | omega | simp) ?_ | refine Ext.up1N (by first | omega | simp) ?_) | refine Ext.alloc ?_ _ | refine Ext.setCellF _ _ _ (by first | omega | simp) ?_ | refine Ext.setCell ?_ (.inr (by first | omega | simp)) _))⟩, Nat.zero_le _, rfl, rfl, rfl, Go.Lib.hid rfl, Go.Lib.hid (World.ownsRow_nil _ _ _ _), B0⟩
  case round =>
    obtain ⟨i, L, z, hi, hk, rfl, rfl, HL, HO, BX⟩ := hrel
    have HG := Go.Lib.hid hk; clear hk B0
    by_cases hlt : i < M
    · have him : i < m.mem.length := by rw [← HM.out]; exact hlt
      obtain ⟨mb, mo, rfl, hmc, hmi⟩ := HI.out.at_ i him
      have hmb : mb < w.heap.size := lt_of_cell hmc
      have hbw : b < w.heap.size := lt_of_cell c1
      have WS := Go.Lib.hid (whoR_succ m.mem m.votes cm n ⟨rc, rs, ⟨rk, rkey, rx, rid⟩⟩ him)
      generalize m.mem[i] = mm at *
      clear him hmi
      go_wp2_with fail
      go_loopg [9, 11, 12] N (fun k ov jv v12 wr => ∃ (j : Nat) (L2 : List RV) (u : EW (From w.heap.size) w), j ≤ N ∧ k = N - j ∧ jv = .int .i64 j ∧ wr = u.on ∧ Hid (L2 = L ++ (m.votes.take j).filter (isV cm n mm ⟨rc, rs, ⟨rk, rkey, rx, rid⟩⟩)) ∧ Hid (wr.ownsRow B 164 11 ov L2.length (L2.flatMap vC)) ∧ Hid (Bx wr w.heap.size [.int .i64 rc, .int .i64 rs, .int .i64 rk, .string rkey, .float .f64 rx, .int .i64 rid] 49))
      case atStart => exact ⟨0, L, z, Nat.zero_le _, rfl, rfl, rfl, Go.Lib.hid (by simp), HO, BX⟩
      case round =>
        obtain ⟨j, L2, u, hj, hkj, rfl, rfl, HL2, HO2, BX2⟩ := hrel
        have HGj := Go.Lib.hid hkj; clear hkj
        have HL0 := Go.Lib.hid HL.out
        clear HO BX
        by_cases hltj : j < N
        · have hjv : j < m.votes.length := by rw [← HN.out]; exact hltj
          obtain ⟨g, rfl, hg, hc⟩ := HV.out.2.2 j hjv
          have FS := Go.Lib.hid (filt_succ (isV cm n mm ⟨rc, rs, ⟨rk, rkey, rx, rid⟩⟩) m.votes hjv)
          have VOK := Go.Lib.hid (HOK.out _ (List.getElem_mem hjv))
          generalize m.votes[j] = v at *
          obtain ⟨vcm, vf, vs, ⟨⟨qc, qs, ⟨qk, qkey, qx, qid⟩⟩, vby, vtx⟩⟩ := v
          have ISV : Hid (isV cm n mm ⟨rc, rs, ⟨rk, rkey, rx, rid⟩⟩ ⟨vcm, vf, vs, ⟨⟨qc, qs, ⟨qk, qkey, qx, qid⟩⟩, vby, vtx⟩⟩ = ((vcm == cm) && (vs == n) && (vf == mm) && sameT ⟨qc, qs, ⟨qk, qkey, qx, qid⟩⟩ ⟨rc, rs, ⟨rk, rkey, rx, rid⟩⟩)) := Go.Lib.hid rfl
          have NXF : Hid (isV cm n mm ⟨rc, rs, ⟨rk, rkey, rx, rid⟩⟩ ⟨vcm, vf, vs, ⟨⟨qc, qs, ⟨qk, qkey, qx, qid⟩⟩, vby, vtx⟩⟩ = false → L2 = L ++ (m.votes.take (j + 1)).filter (isV cm n mm ⟨rc, rs, ⟨rk, rkey, rx, rid⟩⟩)) := Go.Lib.hid (fun h => by rw [FS.out, h, HL2.out]; simp)
          have NXT : Hid (isV cm n mm ⟨rc, rs, ⟨rk, rkey, rx, rid⟩⟩ ⟨vcm, vf, vs, ⟨⟨qc, qs, ⟨qk, qkey, qx, qid⟩⟩, vby, vtx⟩⟩ = true → L2 ++ [⟨vcm, vf, vs, ⟨⟨qc, qs, ⟨qk, qkey, qx, qid⟩⟩, vby, vtx⟩⟩] = L ++ (m.votes.take (j + 1)).filter (isV cm n mm ⟨rc, rs, ⟨rk, rkey, rx, rid⟩⟩)) := Go.Lib.hid (fun h => by rw [FS.out, h, HL2.out]; simp)
          have KS : Hid (∀ w', Calls Try.prog 32 #[.agg #[.int .i64 qc, .int .i64 qs, .int .i64 qk, .string qkey, .float .f64 qx, .int .i64 qid], .agg #[.int .i64 rc, .int .i64 rs, .int .i64 rk, .string rkey, .float .f64 rx, .int .i64 rid]] w' fun e w'' => e = .returned (.bool (sameT ⟨qc, qs, ⟨qk, qkey, qx, qid⟩⟩ ⟨rc, rs, ⟨rk, rkey, rx, rid⟩⟩)) ∧ Ext Non w' w'') := Go.Lib.hid (fun w' => ref11_Same qc qs qk qkey qx qid rc rs rk rkey rx rid VOK.out.1 HR.out w')
          have p0 : w.cell? ⟨g, 0 + j * 11, none⟩ = some (.bool vcm) := hc 0 _ rfl
          have p1 : w.cell? ⟨g, 0 + j * 11 + 1, none⟩ = some (.int .i64 vf) := hc 1 _ rfl
          have p2 : w.cell? ⟨g, 0 + j * 11 + 2, none⟩ = some (.int .i64 vs) := hc 2 _ rfl
          have p3 : w.cell? ⟨g, 0 + j * 11 + 3, none⟩ = some (.int .i64 qc) := hc 3 _ rfl
          have p4 : w.cell? ⟨g, 0 + j * 11 + 4, none⟩ = some (.int .i64 qs) := hc 4 _ rfl
          have p5 : w.cell? ⟨g, 0 + j * 11 + 5, none⟩ = some (.int .i64 qk) := hc 5 _ rfl
          have p6 : w.cell? ⟨g, 0 + j * 11 + 6, none⟩ = some (.string qkey) := hc 6 _ rfl
          have p7 : w.cell? ⟨g, 0 + j * 11 + 7, none⟩ = some (.float .f64 qx) := hc 7 _ rfl
          have p8 : w.cell? ⟨g, 0 + j * 11 + 8, none⟩ = some (.int .i64 qid) := hc 8 _ rfl
          have p9 : w.cell? ⟨g, 0 + j * 11 + 9, none⟩ = some (.int .i64 vby) := hc 9 _ rfl
          have p10 : w.cell? ⟨g, 0 + j * 11 + 10, none⟩ = some (.string vtx) := hc 10 _ rfl
          clear hc
          simp only [Nat.zero_add] at p0 p1 p2 p3 p4 p5 p6 p7 p8 p9 p10
          have hL2 : L2.length ≤ 1000000 := by
            have h1 := congrArg List.length HL2.out
            have h2 := congrArg List.length HL0.out
            have h3 := HLEN.out (m.mem.take i)
            have h4 : ((m.votes.take j).filter (isV cm n mm ⟨rc, rs, ⟨rk, rkey, rx, rid⟩⟩)).length ≤ j := Nat.le_trans (List.length_filter_le _ _) (by rw [List.length_take]; omega)
            have h5 : (m.mem.take i).length * m.votes.length ≤ 100 * 1000 := Nat.mul_le_mul (by rw [List.length_take]; omega) (by rw [← HN.out]; exact hv)
            rw [List.length_append] at h1
            omega
          clear hjv
          go_upto_region 9 with fail
          have XW : Ext Non u.on (u.on.alloc (.cells #[.bool vcm, .int .i64 vf, .int .i64 vs, .int .i64 qc, .int .i64 qs, .int .i64 qk, .string qkey, .float .f64 qx, .int .i64 qid, .int .i64 vby, .string vtx] 164)) := (Ext.refl _ _).alloc _
          have BZ := Go.Lib.hid (Bx.newAt u.on [.bool vcm, .int .i64 vf, .int .i64 vs, .int .i64 qc, .int .i64 qs, .int .i64 qk, .string qkey, .float .f64 qx, .int .i64 qid, .int .i64 vby, .string vtx] 164 _ rfl)
          have X2 := Go.Lib.hid (u.ext.trans XW.ofNon)
          have O2 := Go.Lib.hid (ownR_extN HO2.out XW)
          have BR2 := Go.Lib.hid (BX2.out.extN XW)
          obtain ⟨kv, hkv⟩ : ∃ kv, kv = u.on.heap.size := ⟨_, rfl⟩
          have hkw : w.heap.size < kv := by rw [hkv]; exact BX2.out.lt
          rw [← hkv] at BZ ⊢
          generalize u.on.alloc (.cells #[.bool vcm, .int .i64 vf, .int .i64 vs, .int .i64 qc, .int .i64 qs, .int .i64 qk, .string qkey, .float .f64 qx, .int .i64 qid, .int .i64 vby, .string vtx] 164) = w3 at *
          clear XW HO2 BX2 hkv u p0 p1 p2 p3 p4 p5 p6 p7 p8 p9 p10
          have z0 : w3.cell? ⟨kv, 0, none⟩ = some (.bool vcm) := BZ.out.cell rfl
          have z1 : w3.cell? ⟨kv, 1, none⟩ = some (.int .i64 vf) := BZ.out.cell rfl
          have z2 : w3.cell? ⟨kv, 2, none⟩ = some (.int .i64 vs) := BZ.out.cell rfl
          have z3 : w3.cell? ⟨kv, 3, none⟩ = some (.int .i64 qc) := BZ.out.cell rfl
          have z4 : w3.cell? ⟨kv, 4, none⟩ = some (.int .i64 qs) := BZ.out.cell rfl
          have z5 : w3.cell? ⟨kv, 5, none⟩ = some (.int .i64 qk) := BZ.out.cell rfl
          have z6 : w3.cell? ⟨kv, 6, none⟩ = some (.string qkey) := BZ.out.cell rfl
          have z7 : w3.cell? ⟨kv, 7, none⟩ = some (.float .f64 qx) := BZ.out.cell rfl
          have z8 : w3.cell? ⟨kv, 8, none⟩ = some (.int .i64 qid) := BZ.out.cell rfl
          have z9 : w3.cell? ⟨kv, 9, none⟩ = some (.int .i64 vby) := BZ.out.cell rfl
          have z10 : w3.cell? ⟨kv, 10, none⟩ = some (.string vtx) := BZ.out.cell rfl
          have y0 : w3.cell? ⟨w.heap.size, 0, none⟩ = some (.int .i64 rc) := BR2.out.cell rfl
          have y1 : w3.cell? ⟨w.heap.size, 1, none⟩ = some (.int .i64 rs) := BR2.out.cell rfl
          have y2 : w3.cell? ⟨w.heap.size, 2, none⟩ = some (.int .i64 rk) := BR2.out.cell rfl
          have y3 : w3.cell? ⟨w.heap.size, 3, none⟩ = some (.string rkey) := BR2.out.cell rfl
          have y4 : w3.cell? ⟨w.heap.size, 4, none⟩ = some (.float .f64 rx) := BR2.out.cell rfl
          have y5 : w3.cell? ⟨w.heap.size, 5, none⟩ = some (.int .i64 rid) := BR2.out.cell rfl
          have C1 : w3.cell? ⟨b, 0 + 1, none⟩ = some (.slice (some ⟨mb, mo, none⟩) M c) := (X2.out.cell (p := ⟨b, 0 + 1, none⟩) hbw (fun q => by have q : w.heap.size ≤ b := q; omega)).trans c1
          have CM : w3.cell? ⟨mb, mo + i, none⟩ = some (.int .i64 mm) := (X2.out.cell (p := ⟨mb, mo + i, none⟩) hmb (fun q => by have q : w.heap.size ≤ mb := q; omega)).trans hmc
          simp only [Nat.zero_add] at C1
          by_cases x1 : vcm = cm
          case neg =>
            have d1 : (vcm == cm) = false := by simpa using x1
            have FV : Hid (isV cm n mm ⟨rc, rs, ⟨rk, rkey, rx, rid⟩⟩ ⟨vcm, vf, vs, ⟨⟨qc, qs, ⟨qk, qkey, qx, qid⟩⟩, vby, vtx⟩⟩ = false) := Go.Lib.hid (by rw [ISV.out]; simp [d1])
            clear x1
            (refine wp_region_ext_lit (by kernel_rfl) (by kernel_rfl) ?_)
            ((try simp only [Bool.not_true, Bool.not_false, Bool.or_false, Bool.or_true, Bool.false_or, Bool.true_or, Bool.and_true, Bool.true_and, Bool.and_false, Bool.false_and]); (repeat (go_big_quiet_step ((go_at_call 32; exact Calls.ext_of (KS.out _))))))
            (refine wpQuiet_nil ?_; intro _ hw'; obtain ⟨xq, hw''⟩ := hw'; subst hw'')
            have XQ := Go.Lib.hid (X2.out.trans xq.ext.ofNon)
            have OQ := Go.Lib.hid (ownR_extN O2.out xq.ext)
            have BQ := Go.Lib.hid (BR2.out.extN xq.ext)
            clear X2 O2 BR2 BZ KS
            clear z0 z1 z2 z3 z4 z5 z6 z7 z8 z9 z10 y0 y1 y2 y3 y4 y5 C1 CM
            generalize xq.on = w4 at *
            go_wp2_with fail
            go_roundg (N - (j + 1))
            case measure => have := HGj.out; omega
            case rel => exact ⟨j + 1, L2, ⟨_, XQ.out⟩, hltj, rfl, by go_num, rfl, Go.Lib.hid (NXF.out FV.out), OQ, BQ⟩
          have d1 : (vcm == cm) = true := by simpa using x1
          clear x1
          by_cases x2 : vs = n
          case neg =>
            have d2 : (vs == n) = false := by simpa using x2
            have FV : Hid (isV cm n mm ⟨rc, rs, ⟨rk, rkey, rx, rid⟩⟩ ⟨vcm, vf, vs, ⟨⟨qc, qs, ⟨qk, qkey, qx, qid⟩⟩, vby, vtx⟩⟩ = false) := Go.Lib.hid (by rw [ISV.out]; simp [d2])
            clear x2
            (refine wp_region_ext_lit (by kernel_rfl) (by kernel_rfl) ?_)
            ((try simp only [Bool.not_true, Bool.not_false, Bool.or_false, Bool.or_true, Bool.false_or, Bool.true_or, Bool.and_true, Bool.true_and, Bool.and_false, Bool.false_and]); (repeat (go_big_quiet_step ((go_at_call 32; exact Calls.ext_of (KS.out _))))))
            (refine wpQuiet_nil ?_; intro _ hw'; obtain ⟨xq, hw''⟩ := hw'; subst hw'')
            have XQ := Go.Lib.hid (X2.out.trans xq.ext.ofNon)
            have OQ := Go.Lib.hid (ownR_extN O2.out xq.ext)
            have BQ := Go.Lib.hid (BR2.out.extN xq.ext)
            clear X2 O2 BR2 BZ KS
            clear z0 z1 z2 z3 z4 z5 z6 z7 z8 z9 z10 y0 y1 y2 y3 y4 y5 C1 CM
            generalize xq.on = w4 at *
            go_wp2_with fail
            go_roundg (N - (j + 1))
            case measure => have := HGj.out; omega
            case rel => exact ⟨j + 1, L2, ⟨_, XQ.out⟩, hltj, rfl, by go_num, rfl, Go.Lib.hid (NXF.out FV.out), OQ, BQ⟩
          have d2 : (vs == n) = true := by simpa using x2
          clear x2
          by_cases x3 : vf = mm
          case neg =>
            have d3 : (vf == mm) = false := by simpa using x3
            have FV : Hid (isV cm n mm ⟨rc, rs, ⟨rk, rkey, rx, rid⟩⟩ ⟨vcm, vf, vs, ⟨⟨qc, qs, ⟨qk, qkey, qx, qid⟩⟩, vby, vtx⟩⟩ = false) := Go.Lib.hid (by rw [ISV.out]; simp [d3])
            clear x3
            (refine wp_region_ext_lit (by kernel_rfl) (by kernel_rfl) ?_)
            ((try simp only [Bool.not_true, Bool.not_false, Bool.or_false, Bool.or_true, Bool.false_or, Bool.true_or, Bool.and_true, Bool.true_and, Bool.and_false, Bool.false_and]); (repeat (go_big_quiet_step ((go_at_call 32; exact Calls.ext_of (KS.out _))))))
            (refine wpQuiet_nil ?_; intro _ hw'; obtain ⟨xq, hw''⟩ := hw'; subst hw'')
            have XQ := Go.Lib.hid (X2.out.trans xq.ext.ofNon)
            have OQ := Go.Lib.hid (ownR_extN O2.out xq.ext)
            have BQ := Go.Lib.hid (BR2.out.extN xq.ext)
            clear X2 O2 BR2 BZ KS
            clear z0 z1 z2 z3 z4 z5 z6 z7 z8 z9 z10 y0 y1 y2 y3 y4 y5 C1 CM
            generalize xq.on = w4 at *
            go_wp2_with fail
            go_roundg (N - (j + 1))
            case measure => have := HGj.out; omega
            case rel => exact ⟨j + 1, L2, ⟨_, XQ.out⟩, hltj, rfl, by go_num, rfl, Go.Lib.hid (NXF.out FV.out), OQ, BQ⟩
          have d3 : (vf == mm) = true := by simpa using x3
          clear x3
          have EQ : Hid (isV cm n mm ⟨rc, rs, ⟨rk, rkey, rx, rid⟩⟩ ⟨vcm, vf, vs, ⟨⟨qc, qs, ⟨qk, qkey, qx, qid⟩⟩, vby, vtx⟩⟩ = sameT ⟨qc, qs, ⟨qk, qkey, qx, qid⟩⟩ ⟨rc, rs, ⟨rk, rkey, rx, rid⟩⟩) := Go.Lib.hid (by rw [ISV.out, d1, d2, d3]; simp)
          generalize sameT ⟨qc, qs, ⟨qk, qkey, qx, qid⟩⟩ ⟨rc, rs, ⟨rk, rkey, rx, rid⟩⟩ = st at *
          cases st with
          | false =>
            have FV := Go.Lib.hid EQ.out
            (refine wp_region_ext_lit (by kernel_rfl) (by kernel_rfl) ?_)
            ((try simp only [Bool.not_true, Bool.not_false, Bool.or_false, Bool.or_true, Bool.false_or, Bool.true_or, Bool.and_true, Bool.true_and, Bool.and_false, Bool.false_and]); (repeat (go_big_quiet_step ((go_at_call 32; exact Calls.ext_of (KS.out _))))))
            (refine wpQuiet_nil ?_; intro _ hw'; obtain ⟨xq, hw''⟩ := hw'; subst hw'')
            have XQ := Go.Lib.hid (X2.out.trans xq.ext.ofNon)
            have OQ := Go.Lib.hid (ownR_extN O2.out xq.ext)
            have BQ := Go.Lib.hid (BR2.out.extN xq.ext)
            clear X2 O2 BR2 BZ KS
            clear z0 z1 z2 z3 z4 z5 z6 z7 z8 z9 z10 y0 y1 y2 y3 y4 y5 C1 CM
            generalize xq.on = w4 at *
            go_wp2_with fail
            go_roundg (N - (j + 1))
            case measure => have := HGj.out; omega
            case rel => exact ⟨j + 1, L2, ⟨_, XQ.out⟩, hltj, rfl, by go_num, rfl, Go.Lib.hid (NXF.out FV.out), OQ, BQ⟩
          | true =>
            have FV := Go.Lib.hid EQ.out
            (refine wp_region_ext_lit (by kernel_rfl) (by kernel_rfl) ?_)
            ((try simp only [Bool.not_true, Bool.not_false, Bool.or_false, Bool.or_true, Bool.false_or, Bool.true_or, Bool.and_true, Bool.true_and, Bool.and_false, Bool.false_and]); (repeat (go_big_quiet_step ((go_at_call 32; exact Calls.ext_of (KS.out _))))))
            (refine wpQuiet_nil ?_; intro _ hw'; obtain ⟨xq, hw''⟩ := hw'; subst hw'')
            have XQ := Go.Lib.hid (X2.out.trans xq.ext.ofNon)
            have OQ := Go.Lib.hid (ownR_extN O2.out xq.ext)
            have BQ := Go.Lib.hid (BR2.out.extN xq.ext)
            have BV := Go.Lib.hid (BZ.out.extN xq.ext)
            have hB4 : B ≤ xq.on.heap.size := by have h1 := BV.out.lt; omega
            clear X2 O2 BR2 BZ KS
            clear z0 z1 z2 z3 z4 z5 z6 z7 z8 z9 z10 y0 y1 y2 y3 y4 y5 C1 CM
            generalize xq.on = w4 at *
            clear xq
            have t0 : w4.cell? ⟨kv, 0, none⟩ = some (.bool vcm) := BV.out.cell rfl
            have t1 : w4.cell? ⟨kv, 1, none⟩ = some (.int .i64 vf) := BV.out.cell rfl
            have t2 : w4.cell? ⟨kv, 2, none⟩ = some (.int .i64 vs) := BV.out.cell rfl
            have t3 : w4.cell? ⟨kv, 3, none⟩ = some (.int .i64 qc) := BV.out.cell rfl
            have t4 : w4.cell? ⟨kv, 4, none⟩ = some (.int .i64 qs) := BV.out.cell rfl
            have t5 : w4.cell? ⟨kv, 5, none⟩ = some (.int .i64 qk) := BV.out.cell rfl
            have t6 : w4.cell? ⟨kv, 6, none⟩ = some (.string qkey) := BV.out.cell rfl
            have t7 : w4.cell? ⟨kv, 7, none⟩ = some (.float .f64 qx) := BV.out.cell rfl
            have t8 : w4.cell? ⟨kv, 8, none⟩ = some (.int .i64 qid) := BV.out.cell rfl
            have t9 : w4.cell? ⟨kv, 9, none⟩ = some (.int .i64 vby) := BV.out.cell rfl
            have t10 : w4.cell? ⟨kv, 10, none⟩ = some (.string vtx) := BV.out.cell rfl
            go_wp2_with (at_builtin; refine wpList_append_ew rfl _ _ 136 rfl B 164 11 104 _ Try.underlying136 info_vote14 (by rfl) (by omega) (by omega) _ L2.length _ rfl (ownR_extN OQ.out (by (repeat (first | with_reducible (first | exact Ext.refl _ _ | assumption | refine Ext.upN ?_ | refine Ext.alloc ?_ _ | refine Ext.drew ?_ | refine Ext.drewN ?_ _ | refine Ext.upF ?_ | refine Ext.upFF (by first | omega | simp) ?_ | refine Ext.setCellsF _ _ _ (by first | omega | simp) ?_ | refine Ext.setCellF _ _ _ (by first | omega | simp) ?_ | refine Ext.upFN (by first | omega | simp) ?_ | refine Ext.up1F (by first | omega | simp) ?_ | refine Ext.up1N (by first | omega | simp) ?_) | refine Ext.alloc ?_ _ | refine Ext.setCellF _ _ _ (by first | omega | simp) ?_ | refine Ext.setCell ?_ (.inr (by first | omega | simp)) _)))) _ [.bool vcm, .int .i64 vf, .int .i64 vs, .int .i64 qc, .int .i64 qs, .int .i64 qk, .string qkey, .float .f64 qx, .int .i64 qid, .int .i64 vby, .string vtx] _ rfl (Bx.newAt _ _ _ _ (by simp)) rfl (by simp [Value.oneCell']) (by omega) (by simp; omega) (fun v' W2 hO => ?_); have HO5 := Go.Lib.hid hO; clear hO)
            have XN := Go.Lib.hid (by (repeat (first | with_reducible (first | exact Ext.refl _ _ | assumption | refine Ext.upN ?_ | refine Ext.alloc ?_ _ | refine Ext.drew ?_ | refine Ext.drewN ?_ _ | refine Ext.upF ?_ | refine Ext.upFF (by first | omega | simp) ?_ | refine Ext.setCellsF _ _ _ (by first | omega | simp) ?_ | refine Ext.setCellF _ _ _ (by first | omega | simp) ?_ | refine Ext.upFN (by first | omega | simp) ?_ | refine Ext.up1F (by first | omega | simp) ?_ | refine Ext.up1N (by first | omega | simp) ?_) | refine Ext.alloc ?_ _ | refine Ext.setCellF _ _ _ (by first | omega | simp) ?_ | refine Ext.setCell ?_ (.inr (by first | omega | simp)) _)) : Ext (From B) w4 W2.on)
            have XV := Go.Lib.hid (XQ.out.trans (XN.out.mono (fun k _ q => by unfold From at *; omega)))
            have BN := Go.Lib.hid (BQ.out.ext XN.out (fun q => by unfold From at q; omega))
            have LL : Hid ((L2 ++ [(⟨vcm, vf, vs, ⟨⟨qc, qs, ⟨qk, qkey, qx, qid⟩⟩, vby, vtx⟩⟩ : RV)]).length = L2.length + 1) := Go.Lib.hid (by simp)
            go_roundg (N - (j + 1))
            case measure => have := HGj.out; omega
            case rel => exact ⟨j + 1, L2 ++ [⟨vcm, vf, vs, ⟨⟨qc, qs, ⟨qk, qkey, qx, qid⟩⟩, vby, vtx⟩⟩], ⟨_, XV.out⟩, hltj, rfl, by go_num, rfl, Go.Lib.hid (NXT.out FV.out), Go.Lib.hid (by rw [LL.out, List.flatMap_append]; exact HO5.out), BN⟩
        · obtain rfl : j = N := by omega
          have HLN : Hid (L2 = whoR (m.mem.take (i + 1)) m.votes cm n ⟨rc, rs, ⟨rk, rkey, rx, rid⟩⟩) := Go.Lib.hid (by
            have h1 := HL2.out
            rw [HN.out, List.take_length] at h1
            rw [WS.out, h1, HL0.out])
          have XU := Go.Lib.hid u.ext
          go_wp2_with fail
          go_roundg (M - (i + 1))
          case measure => have := HG.out; omega
          case rel => exact ⟨i + 1, L2, u, hlt, rfl, by go_num, rfl, HLN, HO2, BX2⟩
    · obtain rfl : i = M := by omega
      have hbw : b < w.heap.size := lt_of_cell c1
      have HLE : Hid (L = whoR m.mem m.votes cm n ⟨rc, rs, ⟨rk, rkey, rx, rid⟩⟩) := Go.Lib.hid (by
        have h1 := HL.out
        rw [HM.out, List.take_length] at h1
        exact h1)
      have hBw : w.heap.size ≤ B := by omega
      go_wp2
      go_returns
      refine ⟨_, rfl, ?_, Ext.fromNon (Nat.le_refl _) z.ext⟩
      rw [← HLE.out]
      exact ownR_base HO.out hBw
end Go.Proofs.Ytakbkpklfihfiaa
