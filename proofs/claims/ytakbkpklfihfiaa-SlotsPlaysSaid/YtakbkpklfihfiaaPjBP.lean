/- Joined texts: R14f. What each proves stands at its head; no conditions beside those in its theorems. -/
import Derived.Laws.CopyOwn
import Derived.Deep.OwnRows
import Derived.Deep.RegionLaw
import Derived.Test.YtakbkpklfihfiaaPjBO
/- The reference of layer 14: look. -/
namespace Go.Proofs.Ytakbkpklfihfiaa
open Go.RowKit Go.Lib F64
set_option linter.unusedSimpArgs false
set_option linter.unusedVariables false
attribute [local go_sem] run_store_float
attribute [local go_sem low] EW.cellN EW.frozN alloc_cell_or alloc_froz_or EW.cellF EW.frozF EW.cell1 EW.froz1
attribute [local go_sem] relAt relUpon relAtT relUponT
attribute [local go_sem low] EW.cellO EW.frozO
theorem info_entry14 : (Try.prog.info? 161).map (fun i => (i.zero, i.size, i.bytes)) = some (some (.agg #[.int .i64 0, .int .i64 0, .int .i64 0, .int .i64 0, .string ByteArray.empty, .float .f64 0, .int .i64 0]), 7, 64) := by kernel_rfl
def moBox (n : Nat) (vs : List Value) (t : TypeId) : Mo := ⟨fun v w => ∃ k, v = .pointer (some ⟨k, 0, none⟩) ∧ Bx w k vs t ∧ n ≤ k, fun _ _ _ x ⟨k, e, h, q⟩ => ⟨k, e, h.extN x, q⟩⟩
theorem look_no {m : RL14} {n : Int} (h : prepR m n = false) : lookR m n = m := by
  unfold prepR at h
  unfold lookR
  cases hp : getG m.props n with
  | none => rfl
  | some r =>
    rw [hp] at h
    simp only at h ⊢
    rw [h]; rfl
theorem look_yes {m : RL14} {n : Int} (h : prepR m n = true) : ∃ r, getG m.props n = some r ∧ lookR m n = { m with kept := keptR m n r, done := doneR m n r } := by
  unfold prepR at h
  cases hp : getG m.props n with
  | none => rw [hp] at h; cases h
  | some r =>
    rw [hp] at h
    refine ⟨r, rfl, ?_⟩
    unfold lookR
    rw [hp]
    simp only at h ⊢
    rw [h]; rfl
/-- The rows beside a slot's. -/
def othC (ka : List CtR) (n : Int) : List CtR := ka.filter fun q => q.1.slot != n
def hasC (ka : List CtR) (v n : Int) : Bool := ka.any fun q => (q.1.slot == n) && (q.1.view == v)
theorem othC_map (ka : List CtR) (n : Int) : (othC ka n).map (·.1) = othR (ka.map (·.1)) n := by
  unfold othC othR; rw [List.filter_map]; rfl
theorem hasC_map (ka : List CtR) (v n : Int) : hasC ka v n = hasR (ka.map (·.1)) v n := by
  unfold hasC hasR; rw [List.any_map]; rfl
theorem hasC_succ (ka : List CtR) (v n : Int) {i : Nat} (h : i < ka.length) : hasC (ka.take (i + 1)) v n = (hasC (ka.take i) v n || ((ka[i].1.slot == n) && (ka[i].1.view == v))) := by
  unfold hasC
  rw [List.take_succ_eq_append_getElem h, List.any_append]
  simp
theorem othC_succ (ka : List CtR) (n : Int) {i : Nat} (h : i < ka.length) : othC (ka.take (i + 1)) n = othC (ka.take i) n ++ (if (ka[i].1.slot != n) = true then [ka[i]] else []) := filt_succ _ ka h
set_option maxHeartbeats 16000000 in
set_option maxRecDepth 100000 in
theorem ref14_look (b : Nat) (G : Nat → Prop) (m : RL14) (n : Int) (hn64 : I64 n) (hf : Few14 m) (w : World) (h : R14W w b G m) : Calls Try.prog 123 #[.pointer (some ⟨b, 0, none⟩), .int .i64 n] w fun e w' =>
    e = .returned (.tuple #[]) ∧ ∃ G', R14W w' b G' (lookR m n) ∧ (∀ k, G' k → G k ∨ w.heap.size ≤ k) ∧ Ext (LoF b G) w w' := by
  have HH := Go.Lib.hid h
  have HF := Go.Lib.hid hf
  have HN64 := Go.Lib.hid hn64
  clear hn64
  have KP := Go.Lib.hid (ref14_Prepared b G m n hf w h)
  clear h hf
  cases hp : prepR m n with
  | false =>
    rw [hp] at KP
    rw [look_no hp]
    clear hp
    go_enter Try.func123, Try.ntmps123
    go_wp2_with fail
    refine Calls.ew KP.out ?_
    rintro e x1 rfl
    go_wp2
    go_returns
    exact ⟨rfl, G, HH.out.extN x1.ext, fun k h => .inl h, x1.ext.ofNon⟩
  | true =>
    rw [hp] at KP
    obtain ⟨r, hr, hlk⟩ := look_yes hp
    have HLK0 := Go.Lib.hid hlk
    have KPr := Go.Lib.hid (fun w' (x : Ext Non w w') => ref14_Proposed b G m n w' (HH.out.extN x))
    rw [hr] at KPr
    obtain ⟨S, a, c, v1, v2, v3, v4, ka, Q⟩ := HH.out.ex
    have HR := Go.Lib.hid (Q.e1 _ (getG_mem hr))
    have HQ := Go.Lib.hid Q
    have KWF := Go.Lib.hid (fun w' (x : Ext Non w w') => ref14_who b G m false n r HR.out HF.out.mem HF.out.votes w' (HH.out.extN x))
    have hle := Q.ints.le; have hsm := Q.ints.small
    obtain ⟨ml, hml⟩ : ∃ ml, ml = m.mem.length := ⟨_, rfl⟩
    have HMLN := Go.Lib.hid hml.symm
    rw [← hml] at hle
    have hml1 : ml ≤ 100 := by rw [hml]; exact HF.out.mem
    have hbw : b < w.heap.size := Q.bx.lt
    have HLOW : Hid (∀ k, LoF b G k → k < w.heap.size) := Go.Lib.hid (fun k q => by
      rcases q with q | q
      · rw [q]; exact Q.bx.lt
      · exact Q.lt k q)
    clear hp hr hlk Q hml
    obtain ⟨r0, hr0⟩ : ∃ r0, r0 = r := ⟨_, rfl⟩
    have HR0 := Go.Lib.hid hr0
    clear hr0
    unfold toldV reqV at KPr
    simp only [Option.getD_some, Option.isSome_some] at KPr
    rw [← HR0.out] at KPr
    obtain ⟨rc, rs, ⟨rk, rkey, rx, rid⟩⟩ := r0
    simp only at KPr
    go_enter Try.func123, Try.ntmps123
    go_wp2_with fail
    refine Calls.ew KP.out ?_
    rintro e x1 rfl
    go_wp2_with fail
    refine Calls.ew (KPr.out _ (by (repeat (first | with_reducible (first | exact Ext.refl _ _ | assumption | refine Ext.upN ?_ | refine Ext.alloc ?_ _ | refine Ext.drew ?_ | refine Ext.drewN ?_ _ | refine Ext.upF ?_ | refine Ext.upFF (by first | omega | simp) ?_ | refine Ext.setCellsF _ _ _ (by first | omega | simp) ?_ | refine Ext.setCellF _ _ _ (by first | omega | simp) ?_ | refine Ext.upFN (by first | omega | simp) ?_ | refine Ext.up1F (by first | omega | simp) ?_ | refine Ext.up1N (by first | omega | simp) ?_) | refine Ext.alloc ?_ _ | refine Ext.setCellF _ _ _ (by first | omega | simp) ?_ | refine Ext.setCell ?_ (.inr (by first | omega | simp)) _)))) ?_
    rintro e x2 rfl
    go_upto_region 2 with (refine wpList_store_box rfl 49 _ _ rfl x2.on.heap.size _ [.int .i64 rc, .int .i64 rs, .int .i64 rk, .string rkey, .float .f64 rx, .int .i64 rid] _ rfl rfl (Bx.newAt _ _ _ _ rfl) rfl info_req6 (by simp [Value.oneCell']) (fun W hB => ?_); have BZ := Go.Lib.hid hB; clear hB)
    have X3 := Go.Lib.hid ((by (repeat (first | with_reducible (first | exact Ext.refl _ _ | assumption | refine Ext.upN ?_ | refine Ext.alloc ?_ _ | refine Ext.drew ?_ | refine Ext.drewN ?_ _ | refine Ext.upF ?_ | refine Ext.upFF (by first | omega | simp) ?_ | refine Ext.setCellsF _ _ _ (by first | omega | simp) ?_ | refine Ext.setCellF _ _ _ (by first | omega | simp) ?_ | refine Ext.upFN (by first | omega | simp) ?_ | refine Ext.up1F (by first | omega | simp) ?_ | refine Ext.up1N (by first | omega | simp) ?_) | refine Ext.alloc ?_ _ | refine Ext.setCellF _ _ _ (by first | omega | simp) ?_ | refine Ext.setCell ?_ (.inr (by first | omega | simp)) _)) : Ext Non w x2.on).trans (by (repeat (first | with_reducible (first | exact Ext.refl _ _ | assumption | refine Ext.upN ?_ | refine Ext.alloc ?_ _ | refine Ext.drew ?_ | refine Ext.drewN ?_ _ | refine Ext.upF ?_ | refine Ext.upFF (by first | omega | simp) ?_ | refine Ext.setCellsF _ _ _ (by first | omega | simp) ?_ | refine Ext.setCellF _ _ _ (by first | omega | simp) ?_ | refine Ext.upFN (by first | omega | simp) ?_ | refine Ext.up1F (by first | omega | simp) ?_ | refine Ext.up1N (by first | omega | simp) ?_) | refine Ext.alloc ?_ _ | refine Ext.setCellF _ _ _ (by first | omega | simp) ?_ | refine Ext.setCell ?_ (.inr (by first | omega | simp)) _)) : Ext Non x2.on W.on))
    have hkw0 : w.heap.size ≤ x2.on.heap.size := (by (repeat (first | with_reducible (first | exact Ext.refl _ _ | assumption | refine Ext.upN ?_ | refine Ext.alloc ?_ _ | refine Ext.drew ?_ | refine Ext.drewN ?_ _ | refine Ext.upF ?_ | refine Ext.upFF (by first | omega | simp) ?_ | refine Ext.setCellsF _ _ _ (by first | omega | simp) ?_ | refine Ext.setCellF _ _ _ (by first | omega | simp) ?_ | refine Ext.upFN (by first | omega | simp) ?_ | refine Ext.up1F (by first | omega | simp) ?_ | refine Ext.up1N (by first | omega | simp) ?_) | refine Ext.alloc ?_ _ | refine Ext.setCellF _ _ _ (by first | omega | simp) ?_ | refine Ext.setCell ?_ (.inr (by first | omega | simp)) _)) : Ext Non w x2.on).size
    try simp only [Act.put]
    have Q3 := Go.Lib.hid (HQ.out.extN X3.out)
    have KW3F := Go.Lib.hid (fun w' (x : Ext Non W.on w') => KWF.out w' (X3.out.trans x))
    generalize x2.on.heap.size = kq at *
    generalize W.on = w3 at *
    clear KP KPr KWF HQ
    have hkq3 : kq < w3.heap.size := BZ.out.lt
    have HKQ : Hid (¬ LoF b G kq) := Go.Lib.hid (fun q => by have := HLOW.out kq q; omega)
    obtain ⟨a3, c3, rfl, h31, h32, hrow⟩ := ownG_rows ka ctRow (fun _ => rfl) Q3.out.o3
    have HROW := Go.Lib.hid hrow
    obtain ⟨K, hK⟩ : ∃ K, K = ka.length := ⟨_, rfl⟩
    have HK := Go.Lib.hid hK
    have hK1 : K ≤ 1000 := by
      have h1 := congrArg List.length Q3.out.km
      rw [List.length_map] at h1
      have h2 := HF.out.kept
      omega
    have q2 := Q3.out.c2
    have q5 := Q3.out.c5
    rw [← hK] at q5 h31
    clear hrow hK
    obtain ⟨n1, hn1⟩ : ∃ n1, n1 = w3.heap.size := ⟨_, rfl⟩
    have hbn : b < n1 := by have := X3.out.size; omega
    have hkn : kq < n1 := by omega
    have z0 : w3.cell? ⟨kq, 0, none⟩ = some (.int .i64 rc) := BZ.out.cell rfl
    have z1 : w3.cell? ⟨kq, 1, none⟩ = some (.int .i64 rs) := BZ.out.cell rfl
    have z2 : w3.cell? ⟨kq, 2, none⟩ = some (.int .i64 rk) := BZ.out.cell rfl
    have z3 : w3.cell? ⟨kq, 3, none⟩ = some (.string rkey) := BZ.out.cell rfl
    have z4 : w3.cell? ⟨kq, 4, none⟩ = some (.float .f64 rx) := BZ.out.cell rfl
    have z5 : w3.cell? ⟨kq, 5, none⟩ = some (.int .i64 rid) := BZ.out.cell rfl
    go_wp2_with fail
    go_loopg [6, 7, 8] K (fun k ov hv iv wr => ∃ (i : Nat) (L : List CtR) (hs : Bool) (z : EW (From n1) w3), i ≤ K ∧ k = K - i ∧ hv = .bool hs ∧ iv = .int .i64 i ∧ wr = z.on ∧ Hid (L = othC (ka.take i) n) ∧ Hid (hs = hasC (ka.take i) m.view n) ∧ Hid (wr.ownsRow n1 52 9 ov L.length (L.flatMap ctRow)))
    case atStart => exact ⟨0, [], false, ⟨_, Ext.refl _ _⟩, Nat.zero_le _, rfl, rfl, rfl, rfl, Go.Lib.hid rfl, Go.Lib.hid rfl, Go.Lib.hid (World.ownsRow_nil _ _ _ _)⟩
    case round =>
      obtain ⟨i, L, hs, z, hi, hk, rfl, rfl, rfl, HL, HS, HO⟩ := hrel
      have HG := Go.Lib.hid hk; clear hk
      by_cases hlt : i < K
      · have hik : i < ka.length := by rw [← HK.out]; exact hlt
        obtain ⟨g, rfl, hg, hc⟩ := HROW.out i hik
        have OS := Go.Lib.hid (othC_succ ka n hik)
        have AS := Go.Lib.hid (hasC_succ ka m.view n hik)
        have hLl : L.length ≤ 1000000 := by
          have h1 := congrArg List.length HL.out
          have h2 : (othC (ka.take i) n).length ≤ (ka.take i).length := List.length_filter_le _ _
          rw [List.length_take] at h2
          omega
        generalize ka[i] = q at *
        obtain ⟨⟨cv, cs, ⟨qc, qs, ⟨qk, qkey, qx, qid⟩⟩, sl⟩, sa, scap⟩ := q
        simp only at OS AS
        have p0 : w3.cell? ⟨g, 0 + i * 9, none⟩ = some (.int .i64 cv) := hc 0 _ rfl
        have p1 : w3.cell? ⟨g, 0 + i * 9 + 1, none⟩ = some (.int .i64 cs) := hc 1 _ rfl
        have p2 : w3.cell? ⟨g, 0 + i * 9 + 2, none⟩ = some (.int .i64 qc) := hc 2 _ rfl
        have p3 : w3.cell? ⟨g, 0 + i * 9 + 3, none⟩ = some (.int .i64 qs) := hc 3 _ rfl
        have p4 : w3.cell? ⟨g, 0 + i * 9 + 4, none⟩ = some (.int .i64 qk) := hc 4 _ rfl
        have p5 : w3.cell? ⟨g, 0 + i * 9 + 5, none⟩ = some (.string qkey) := hc 5 _ rfl
        have p6 : w3.cell? ⟨g, 0 + i * 9 + 6, none⟩ = some (.float .f64 qx) := hc 6 _ rfl
        have p7 : w3.cell? ⟨g, 0 + i * 9 + 7, none⟩ = some (.int .i64 qid) := hc 7 _ rfl
        have p8 : w3.cell? ⟨g, 0 + i * 9 + 8, none⟩ = some (.slice sa sl.length scap) := hc 8 _ rfl
        clear hc
        simp only [Nat.zero_add] at p0 p1 p2 p3 p4 p5 p6 p7 p8
        have hgn : g < n1 := by rw [hn1]; exact hg
        have hz1 : n1 ≤ z.on.heap.size := by have := z.ext.size; omega
        by_cases hsn : cs = n
        · have d1 : (cs != n) = false := by simpa using hsn
          have d0 : (cs == n) = true := by simpa using hsn
          have NL : Hid (L = othC (ka.take (i + 1)) n) := Go.Lib.hid (by rw [OS.out, d1, ← HL.out]; simp)
          clear hsn
          by_cases hv : cv = m.view
          · have d2 : (cv == m.view) = true := by simpa using hv
            have NS : Hid (true = hasC (ka.take (i + 1)) m.view n) := Go.Lib.hid (by rw [AS.out, d0, d2]; simp)
            clear hv
            go_upto_region 9 with fail
            (refine wp_region_ext_lit (by kernel_rfl) (by kernel_rfl) ?_)
            ((try simp only [Bool.not_true, Bool.not_false, Bool.or_false, Bool.or_true, Bool.false_or, Bool.true_or, Bool.and_true, Bool.true_and, Bool.and_false, Bool.false_and]); (repeat (go_big_quiet_step (fail))))
            (refine wpQuiet_nil ?_; intro _ hw'; obtain ⟨xq, hw''⟩ := hw'; subst hw'')
            go_wp2_with fail
            go_roundg (K - (i + 1))
            case measure => have := HG.out; omega
            case rel => exact ⟨i + 1, L, true, ⟨_, z.ext.trans xq.ext.ofNon⟩, hlt, rfl, rfl, by go_num, rfl, NL, NS, Go.Lib.hid (ownR_extN HO.out xq.ext)⟩
          · have d2 : (cv == m.view) = false := by simpa using hv
            have NS : Hid (hs = hasC (ka.take (i + 1)) m.view n) := Go.Lib.hid (by rw [AS.out, d0, d2, ← HS.out]; simp)
            clear hv
            go_upto_region 9 with fail
            (refine wp_region_ext_lit (by kernel_rfl) (by kernel_rfl) ?_)
            ((try simp only [Bool.not_true, Bool.not_false, Bool.or_false, Bool.or_true, Bool.false_or, Bool.true_or, Bool.and_true, Bool.true_and, Bool.and_false, Bool.false_and]); (repeat (go_big_quiet_step (fail))))
            (refine wpQuiet_nil ?_; intro _ hw'; obtain ⟨xq, hw''⟩ := hw'; subst hw'')
            go_wp2_with fail
            go_roundg (K - (i + 1))
            case measure => have := HG.out; omega
            case rel => exact ⟨i + 1, L, hs, ⟨_, z.ext.trans xq.ext.ofNon⟩, hlt, rfl, rfl, by go_num, rfl, NL, NS, Go.Lib.hid (ownR_extN HO.out xq.ext)⟩
        · have d1 : (cs != n) = true := by simpa using hsn
          have d0 : (cs == n) = false := by simpa using hsn
          have NL : Hid (L ++ [(⟨cv, cs, ⟨qc, qs, ⟨qk, qkey, qx, qid⟩⟩, sl⟩, sa, scap)] = othC (ka.take (i + 1)) n) := Go.Lib.hid (by rw [OS.out, d1, ← HL.out]; simp)
          have NS : Hid (hs = hasC (ka.take (i + 1)) m.view n) := Go.Lib.hid (by rw [AS.out, d0, ← HS.out]; simp)
          clear hsn
          go_wp2_with (at_builtin; refine wpList_append_ew rfl _ _ 22 rfl n1 52 9 96 _ Try.underlying22 info_cert3 (by rfl) (by omega) (by omega) _ L.length _ rfl (ownR_extN HO.out (by (repeat (first | with_reducible (first | exact Ext.refl _ _ | assumption | refine Ext.upN ?_ | refine Ext.alloc ?_ _ | refine Ext.drew ?_ | refine Ext.drewN ?_ _ | refine Ext.upF ?_ | refine Ext.upFF (by first | omega | simp) ?_ | refine Ext.setCellsF _ _ _ (by first | omega | simp) ?_ | refine Ext.setCellF _ _ _ (by first | omega | simp) ?_ | refine Ext.upFN (by first | omega | simp) ?_ | refine Ext.up1F (by first | omega | simp) ?_ | refine Ext.up1N (by first | omega | simp) ?_) | refine Ext.alloc ?_ _ | refine Ext.setCellF _ _ _ (by first | omega | simp) ?_ | refine Ext.setCell ?_ (.inr (by first | omega | simp)) _)))) _ [.int .i64 cv, .int .i64 cs, .int .i64 qc, .int .i64 qs, .int .i64 qk, .string qkey, .float .f64 qx, .int .i64 qid, .slice sa sl.length scap] _ rfl (Bx.newAt _ _ _ _ (by simp)) rfl (by simp [Value.oneCell']) (by omega) (by simp; omega) (fun v' W2 hO => ?_); have HO5 := Go.Lib.hid hO; clear hO)
          have LL : Hid ((L ++ [((⟨cv, cs, ⟨qc, qs, ⟨qk, qkey, qx, qid⟩⟩, sl⟩, sa, scap) : CtR)]).length = L.length + 1) := Go.Lib.hid (by simp)
          go_roundg (K - (i + 1))
          case measure => have := HG.out; omega
          case rel => exact ⟨i + 1, L ++ [(⟨cv, cs, ⟨qc, qs, ⟨qk, qkey, qx, qid⟩⟩, sl⟩, sa, scap)], hs, ⟨_, by (repeat (first | with_reducible (first | exact Ext.refl _ _ | assumption | refine Ext.upN ?_ | refine Ext.alloc ?_ _ | refine Ext.drew ?_ | refine Ext.drewN ?_ _ | refine Ext.upF ?_ | refine Ext.upFF (by first | omega | simp) ?_ | refine Ext.setCellsF _ _ _ (by first | omega | simp) ?_ | refine Ext.setCellF _ _ _ (by first | omega | simp) ?_ | refine Ext.upFN (by first | omega | simp) ?_ | refine Ext.up1F (by first | omega | simp) ?_ | refine Ext.up1N (by first | omega | simp) ?_) | refine Ext.alloc ?_ _ | refine Ext.setCellF _ _ _ (by first | omega | simp) ?_ | refine Ext.setCell ?_ (.inr (by first | omega | simp)) _))⟩, hlt, rfl, rfl, by go_num, rfl, NL, NS, Go.Lib.hid (by rw [LL.out, List.flatMap_append]; exact HO5.out)⟩
      · obtain rfl : i = K := by omega
        obtain rfl := HR0.out
        have HLE : Hid (L = othC ka n) := Go.Lib.hid (by
          have h1 := HL.out
          rw [HK.out, List.take_length] at h1
          exact h1)
        have HSE : Hid (hs = hasC ka m.view n) := Go.Lib.hid (by
          have h1 := HS.out
          rw [HK.out, List.take_length] at h1
          exact h1)
        have HN1 : Hid (n1 ≤ z.on.heap.size) := Go.Lib.hid (by have := z.ext.size; omega)
        have X4 := Go.Lib.hid (Ext.fromNon (by omega : w3.heap.size ≤ n1) z.ext)
        have Q4 := Go.Lib.hid (Q3.out.extN X4.out)
        have BQ4 := Go.Lib.hid (BZ.out.extN X4.out)
        have XW4 := Go.Lib.hid (X3.out.trans X4.out)
        have KW4 := Go.Lib.hid (fun w' (x : Ext Non z.on w') => KW3F.out w' (X4.out.trans x))
        have HO4 := Go.Lib.hid HO.out
        clear HL HS HO BZ Q3 X3 KW3F X4 z0 z1 z2 z3 z4 z5 q2 q5
        generalize z.on = w4 at *
        clear z
        have HKM : Hid (ka.map (·.1) = m.kept) := Go.Lib.hid Q4.out.km
        have q2 := Q4.out.c2
        have q5 := Q4.out.c5
        rw [← HK.out] at q5
        cases hs with
        | true =>
          have HKR : Hid (keptR m n ⟨rc, rs, ⟨rk, rkey, rx, rid⟩⟩ = m.kept) := Go.Lib.hid (by
            unfold keptR
            have h1 := HSE.out
            rw [hasC_map, HKM.out] at h1
            rw [← h1]; rfl)
          obtain ⟨m5, hm5⟩ : ∃ m5 : RL14, m5 = m := ⟨_, rfl⟩
          have HLK : Hid (lookR m n = { m5 with done := doneR m n ⟨rc, rs, ⟨rk, rkey, rx, rid⟩⟩ }) := Go.Lib.hid (by rw [HLK0.out, HKR.out, hm5])
          have H5D : Hid (m5.done = m.done) := Go.Lib.hid (by rw [hm5])
          have H5M : Hid (m5.mem = m.mem) := Go.Lib.hid (by rw [hm5])
          have H5V : Hid (m5.votes = m.votes) := Go.Lib.hid (by rw [hm5])
          have HG5 : Hid (∀ k, G k → G k ∨ w.heap.size ≤ k) := Go.Lib.hid (fun k h => .inl h)
          have HKQ5 : Hid (¬ Row v4 kq) := Go.Lib.hid (fun h => HKQ.out (.inr (Q4.out.low.2.2.2 kq h)))
          have X5 : Hid (Ext (LoF b G) w w4) := Go.Lib.hid XW4.out.ofNon
          clear HSE HLE HO4 HKR HLK0 KW4
          have Q5 : Hid (R14Q w4 b G S m5 a c v1 v2 (.slice a3 ka.length c3) v4 ka) := Go.Lib.hid (by rw [hm5]; exact Q4.out)
          have BQ5 := Go.Lib.hid BQ4.out
          clear Q4 BQ4 hm5
          have W5 : R14W w4 b G m5 := ⟨_, _, _, _, _, _, _, _, Q5.out⟩
          have KC := Go.Lib.hid (ref14_Committed b G m5 n w4 W5)
          rw [H5D.out] at KC
          have KW2 := Go.Lib.hid (fun w' (x : Ext Non w4 w') => ref14_who b G m5 true n ⟨rc, rs, ⟨rk, rkey, rx, rid⟩⟩ HR.out (by rw [H5M.out]; exact HF.out.mem) (by rw [H5V.out]; exact HF.out.votes) w' (W5.extN x))
          rw [H5M.out, H5V.out] at KW2
          have qc1 := Q5.out.c1
          rw [H5M.out] at qc1
          have hbw4 : b < w4.heap.size := W5.lt.1
          clear W5
          obtain ⟨od, hod⟩ : ∃ od, od = getG m.done n := ⟨_, rfl⟩
          have HOD := Go.Lib.hid hod
          rw [← hod] at KC
          clear hod
          obtain ⟨wl, hwl⟩ : ∃ wl, wl = (whoR m.mem m.votes true n ⟨rc, rs, ⟨rk, rkey, rx, rid⟩⟩).length := ⟨_, rfl⟩
          have HWL := Go.Lib.hid hwl
          have hwb : wl ≤ 100000 := by
            have h1 := whoR_len m.votes true n ⟨rc, rs, ⟨rk, rkey, rx, rid⟩⟩ m.mem
            have h5 : m.mem.length * m.votes.length ≤ 100 * 1000 := Nat.mul_le_mul HF.out.mem HF.out.votes
            omega
          have KW3 : Hid (∀ w', Ext Non w4 w' → Calls Try.prog 127 #[.pointer (some ⟨b, 0, none⟩), .bool true, .int .i64 n, reqV ⟨rc, rs, ⟨rk, rkey, rx, rid⟩⟩] w' fun e w'' => (∃ a c, e = .returned (.slice a wl c)) ∧ Ext Non w' w'') := Go.Lib.hid (fun w' x => (KW2.out w' x).mono fun e w'' ⟨v, he, ho, hx⟩ => by
            obtain ⟨a', c', hv⟩ := row_slice ho
            exact ⟨⟨a', c', by rw [he, hv, hwl]⟩, hx⟩)
          have HEQ : Hid (enoughB m.mem wl = decide (quorumI (m.mem.length : Int) ≤ (wl : Int))) := Go.Lib.hid rfl
          have HDN : Hid (doneR m n ⟨rc, rs, ⟨rk, rkey, rx, rid⟩⟩ = if od.isNone && enoughB m.mem wl then m.done ++ [(n, ⟨rc, rs, ⟨rk, rkey, rx, rid⟩⟩)] else m.done) := Go.Lib.hid (by unfold doneR; rw [HOD.out, HWL.out])
          clear hwl KW2
          have HML : Hid (m.mem.length = ml) := Go.Lib.hid HMLN.out
          rw [HML.out] at HEQ qc1
          have KQ := Go.Lib.hid (fun w' => ref_Quorum (ml : Int) (by omega) (by omega) w')
          generalize quorumI (ml : Int) = qu at *
          unfold toldV reqV at KC
          unfold reqV at KW3
          simp only at KW3
          obtain ⟨o0, ho0⟩ : ∃ o0, o0 = od.getD nullR := ⟨_, rfl⟩
          rw [← ho0] at KC
          clear ho0
          obtain ⟨oc, os, ⟨ok, okey, ox, oid⟩⟩ := o0
          simp only at KC
          go_wp2_with fail
          refine Calls.ew KC.out ?_
          rintro e x6 rfl
          go_upto_region 20 with (refine wpList_store_box rfl 49 _ _ rfl x6.on.heap.size _ [.int .i64 oc, .int .i64 os, .int .i64 ok, .string okey, .float .f64 ox, .int .i64 oid] _ rfl rfl (Bx.newAt _ _ _ _ rfl) rfl info_req6 (by simp [Value.oneCell']) (fun W hB => ?_); have BZ7 := Go.Lib.hid hB; clear hB)
          have X7 := Go.Lib.hid ((by (repeat (first | with_reducible (first | exact Ext.refl _ _ | assumption | refine Ext.upN ?_ | refine Ext.alloc ?_ _ | refine Ext.drew ?_ | refine Ext.drewN ?_ _ | refine Ext.upF ?_ | refine Ext.upFF (by first | omega | simp) ?_ | refine Ext.setCellsF _ _ _ (by first | omega | simp) ?_ | refine Ext.setCellF _ _ _ (by first | omega | simp) ?_ | refine Ext.upFN (by first | omega | simp) ?_ | refine Ext.up1F (by first | omega | simp) ?_ | refine Ext.up1N (by first | omega | simp) ?_) | refine Ext.alloc ?_ _ | refine Ext.setCellF _ _ _ (by first | omega | simp) ?_ | refine Ext.setCell ?_ (.inr (by first | omega | simp)) _)) : Ext Non w4 x6.on).trans (by (repeat (first | with_reducible (first | exact Ext.refl _ _ | assumption | refine Ext.upN ?_ | refine Ext.alloc ?_ _ | refine Ext.drew ?_ | refine Ext.drewN ?_ _ | refine Ext.upF ?_ | refine Ext.upFF (by first | omega | simp) ?_ | refine Ext.setCellsF _ _ _ (by first | omega | simp) ?_ | refine Ext.setCellF _ _ _ (by first | omega | simp) ?_ | refine Ext.upFN (by first | omega | simp) ?_ | refine Ext.up1F (by first | omega | simp) ?_ | refine Ext.up1N (by first | omega | simp) ?_) | refine Ext.alloc ?_ _ | refine Ext.setCellF _ _ _ (by first | omega | simp) ?_ | refine Ext.setCell ?_ (.inr (by first | omega | simp)) _)) : Ext Non x6.on W.on))
          try simp only [Act.put]
          clear BZ7
          have C1 : W.on.cell? ⟨b, 0 + 1, none⟩ = some (.slice a ml c) := (X7.out.cell (p := ⟨b, 0 + 1, none⟩) hbw4 (fun f => f)).trans qc1
          simp only [Nat.zero_add] at C1
          have BR7 := Go.Lib.hid (BQ5.out.extN X7.out)
          have Q7 := Go.Lib.hid (Q5.out.extN X7.out)
          have XT := Go.Lib.hid (X5.out.trans X7.out.ofNon)
          generalize x6.on.heap.size = kz at *
          generalize W.on = w7 at *
          clear qc1
          have z0 : w7.cell? ⟨kq, 0, none⟩ = some (.int .i64 rc) := BR7.out.cell rfl
          have z1 : w7.cell? ⟨kq, 1, none⟩ = some (.int .i64 rs) := BR7.out.cell rfl
          have z2 : w7.cell? ⟨kq, 2, none⟩ = some (.int .i64 rk) := BR7.out.cell rfl
          have z3 : w7.cell? ⟨kq, 3, none⟩ = some (.string rkey) := BR7.out.cell rfl
          have z4 : w7.cell? ⟨kq, 4, none⟩ = some (.float .f64 rx) := BR7.out.cell rfl
          have z5 : w7.cell? ⟨kq, 5, none⟩ = some (.int .i64 rid) := BR7.out.cell rfl
          cases od with
          | some y =>
            have FIN : Hid (lookR m n = m5) := Go.Lib.hid (by rw [HLK.out, HDN.out]; simp; rw [← H5D.out])
            simp only [Option.isSome_some]
            (refine wp_region_ext_lit (by kernel_rfl) (by kernel_rfl) ?_)
            ((try simp only [Bool.not_true, Bool.not_false, Bool.or_false, Bool.or_true, Bool.false_or, Bool.true_or, Bool.and_true, Bool.true_and, Bool.and_false, Bool.false_and]); (repeat (go_big_quiet_step (fail))))
            (refine wpQuiet_nil ?_; intro _ hw'; obtain ⟨xq, hw''⟩ := hw'; subst hw'')
            go_wp2
            go_returns
            refine ⟨rfl, G, ?_, HG5.out, XT.out.trans xq.ext.ofNon⟩
            rw [FIN.out]
            exact ⟨_, _, _, _, _, _, _, _, Q7.out.extN xq.ext⟩
          | none =>
            simp only [Option.isSome_none]
            have HDN2 := Go.Lib.hid HDN.out
            by_cases hen : qu ≤ (wl : Int)
            · have d1 : decide (qu ≤ (wl : Int)) = true := decide_eq_true hen
              have FIN : Hid (lookR m n = { m5 with done := m5.done ++ [(n, ⟨rc, rs, ⟨rk, rkey, rx, rid⟩⟩)] }) := Go.Lib.hid (by rw [HLK.out, HDN.out, HEQ.out, d1, H5D.out]; simp)
              apply wp_region_rel (relR [Mo.is _, Mo.is _, Mo.is _, Mo.is _, Mo.is _, Mo.is _, moSl wl, Mo.is _, Mo.is _, Mo.is _, Mo.is _, Mo.is _, Mo.is _, Mo.is _, Mo.is _, Mo.is _, Mo.is _]) (by kernel_rfl) (by kernel_rfl) (by kernel_rfl) (relR_mono _) (StepD.all ?st1) ?q1
              case st1 =>
                refine ⟨?_, ?_, ?_, ?_, ?_, ?_, ?_, ?_, ?_, ?_, ?_, ?_, ?_, ?_, ?_, ?_, ?_, trivial⟩
                · intro a' w' hx hs hd
                  obtain ⟨y, rfl⟩ := hx.ew
                  have e13 : a'.tmps[13]?.getD undef = _ := hs 13 rfl
                  simp only [List.getElem?_toArray, List.getElem?_cons_succ, List.getElem?_cons_zero, Option.getD_some, Array.getElem?_eq_some_iff] at e13
                  refine .inl ⟨rfl, ?_⟩
                  clear hs hd hx
                  go_simp
                  exact ⟨Ext.refl _ _, rfl⟩
                · intro a' w' hx hs hd
                  obtain ⟨y, rfl⟩ := hx.ew
                  have e108 : a'.tmps[108]?.getD undef = _ := hd 0 108 rfl rfl
                  refine .inl ⟨rfl, ?_⟩
                  clear hs hd hx
                  go_simp
                  exact ⟨Ext.refl _ _, rfl⟩
                · intro a' w' hx hs hd
                  obtain ⟨y, rfl⟩ := hx.ew
                  have e109 : a'.tmps[109]?.getD undef = _ := hd 1 109 rfl rfl
                  refine .inl ⟨rfl, ?_⟩
                  clear hs hd hx
                  go_simp
                  exact ⟨Ext.refl _ _, rfl⟩
                · intro a' w' hx hs hd
                  obtain ⟨y, rfl⟩ := hx.ew
                  have eg : a'.tmps[110]?.getD undef = _ := hd 2 110 rfl rfl
                  first
                  | (refine .inr ⟨unwanted_of (j := 2) (d := 110) rfl rfl eg (by rfl), ?_⟩; exact (rfl : (Mo.is undef).p undef y.on))
                  | (refine .inr ⟨unwanted_und (j := 2) (d := 110) rfl rfl eg, ?_⟩; exact (rfl : (Mo.is undef).p undef y.on))
                  | (have e0 : a'.tmps[0]?.getD undef = _ := hs 0 rfl; simp only [List.getElem?_toArray, List.getElem?_cons_succ, List.getElem?_cons_zero, Option.getD_some, Array.getElem?_eq_some_iff] at e0; refine .inl ⟨wanted_of (j := 2) (d := 110) rfl rfl eg, ?_⟩; clear hs hd hx eg; go_simp; exact ⟨Ext.refl _ _, rfl⟩)
                · intro a' w' hx hs hd
                  obtain ⟨y, rfl⟩ := hx.ew
                  have eg : a'.tmps[110]?.getD undef = _ := hd 2 110 rfl rfl
                  first
                  | (refine .inr ⟨unwanted_of (j := 2) (d := 110) rfl rfl eg (by rfl), ?_⟩; exact (rfl : (Mo.is undef).p undef y.on))
                  | (refine .inr ⟨unwanted_und (j := 2) (d := 110) rfl rfl eg, ?_⟩; exact (rfl : (Mo.is undef).p undef y.on))
                  | (have e1 : a'.tmps[1]?.getD undef = _ := hs 1 rfl; simp only [List.getElem?_toArray, List.getElem?_cons_succ, List.getElem?_cons_zero, Option.getD_some, Array.getElem?_eq_some_iff] at e1; refine .inl ⟨wanted_of (j := 2) (d := 110) rfl rfl eg, ?_⟩; clear hs hd hx eg; go_simp; exact ⟨Ext.refl _ _, rfl⟩)
                · intro a' w' hx hs hd
                  obtain ⟨y, rfl⟩ := hx.ew
                  have eg : a'.tmps[110]?.getD undef = _ := hd 2 110 rfl rfl
                  first
                  | (refine .inr ⟨unwanted_of (j := 2) (d := 110) rfl rfl eg (by rfl), ?_⟩; exact (rfl : (Mo.is undef).p undef y.on))
                  | (refine .inr ⟨unwanted_und (j := 2) (d := 110) rfl rfl eg, ?_⟩; exact (rfl : (Mo.is undef).p undef y.on))
                  | (have e4 : a'.tmps[4]?.getD undef = _ := hs 4 rfl; simp only [List.getElem?_toArray, List.getElem?_cons_succ, List.getElem?_cons_zero, Option.getD_some, Array.getElem?_eq_some_iff] at e4; refine .inl ⟨wanted_of (j := 2) (d := 110) rfl rfl eg, ?_⟩; clear hs hd hx eg; go_simp; exact ⟨Ext.refl _ _, rfl⟩)
                · intro a' w' hx hs hd
                  obtain ⟨y, rfl⟩ := hx.ew
                  have eg : a'.tmps[110]?.getD undef = _ := hd 2 110 rfl rfl
                  first
                  | (refine .inr ⟨unwanted_of (j := 2) (d := 110) rfl rfl eg (by rfl), ?_⟩; exact (rfl : (Mo.is undef).p undef y.on))
                  | (refine .inr ⟨unwanted_und (j := 2) (d := 110) rfl rfl eg, ?_⟩; exact (rfl : (Mo.is undef).p undef y.on))
                  | (have e111 : a'.tmps[111]?.getD undef = _ := hd 3 111 rfl rfl; have e112 : a'.tmps[112]?.getD undef = _ := hd 4 112 rfl rfl; have e113 : a'.tmps[113]?.getD undef = _ := hd 5 113 rfl rfl; refine .inl ⟨wanted_of (j := 2) (d := 110) rfl rfl eg, ?_⟩; clear hs hd hx eg; go_simp; exact (KW3.out _ (X7.out.trans (by (repeat (first | with_reducible (first | exact Ext.refl _ _ | assumption | refine Ext.upN ?_ | refine Ext.alloc ?_ _ | refine Ext.drew ?_ | refine Ext.drewN ?_ _ | refine Ext.upF ?_ | refine Ext.upFF (by first | omega | simp) ?_ | refine Ext.setCellsF _ _ _ (by first | omega | simp) ?_ | refine Ext.setCellF _ _ _ (by first | omega | simp) ?_ | refine Ext.upFN (by first | omega | simp) ?_ | refine Ext.up1F (by first | omega | simp) ?_ | refine Ext.up1N (by first | omega | simp) ?_) | refine Ext.alloc ?_ _ | refine Ext.setCellF _ _ _ (by first | omega | simp) ?_ | refine Ext.setCell ?_ (.inr (by first | omega | simp)) _))))).mono (fun e w'' ⟨⟨a', c', he⟩, hx⟩ => ⟨_, he, hx, a', c', rfl⟩))
                · intro a' w' hx hs hd
                  obtain ⟨y, rfl⟩ := hx.ew
                  have eg : a'.tmps[110]?.getD undef = _ := hd 2 110 rfl rfl
                  first
                  | (refine .inr ⟨unwanted_of (j := 2) (d := 110) rfl rfl eg (by rfl), ?_⟩; exact (rfl : (Mo.is undef).p undef y.on))
                  | (refine .inr ⟨unwanted_und (j := 2) (d := 110) rfl rfl eg, ?_⟩; exact (rfl : (Mo.is undef).p undef y.on))
                  | (obtain ⟨a5, c5, e114⟩ : ∃ a c, a'.tmps[114]?.getD undef = .slice a wl c := hd 6 114 rfl rfl; refine .inl ⟨wanted_of (j := 2) (d := 110) rfl rfl eg, ?_⟩; clear hs hd hx eg; go_simp; exact ⟨Ext.refl _ _, rfl⟩)
                · intro a' w' hx hs hd
                  obtain ⟨y, rfl⟩ := hx.ew
                  have eg : a'.tmps[110]?.getD undef = _ := hd 2 110 rfl rfl
                  first
                  | (refine .inr ⟨unwanted_of (j := 2) (d := 110) rfl rfl eg (by rfl), ?_⟩; exact (rfl : (Mo.is undef).p undef y.on))
                  | (refine .inr ⟨unwanted_und (j := 2) (d := 110) rfl rfl eg, ?_⟩; exact (rfl : (Mo.is undef).p undef y.on))
                  | (have e0 : a'.tmps[0]?.getD undef = _ := hs 0 rfl; simp only [List.getElem?_toArray, List.getElem?_cons_succ, List.getElem?_cons_zero, Option.getD_some, Array.getElem?_eq_some_iff] at e0; refine .inl ⟨wanted_of (j := 2) (d := 110) rfl rfl eg, ?_⟩; clear hs hd hx eg; go_simp; exact ⟨Ext.refl _ _, rfl⟩)
                · intro a' w' hx hs hd
                  obtain ⟨y, rfl⟩ := hx.ew
                  have eg : a'.tmps[110]?.getD undef = _ := hd 2 110 rfl rfl
                  first
                  | (refine .inr ⟨unwanted_of (j := 2) (d := 110) rfl rfl eg (by rfl), ?_⟩; exact (rfl : (Mo.is undef).p undef y.on))
                  | (refine .inr ⟨unwanted_und (j := 2) (d := 110) rfl rfl eg, ?_⟩; exact (rfl : (Mo.is undef).p undef y.on))
                  | (have e116 : a'.tmps[116]?.getD undef = _ := hd 8 116 rfl rfl; refine .inl ⟨wanted_of (j := 2) (d := 110) rfl rfl eg, ?_⟩; clear hs hd hx eg; go_simp; exact ⟨Ext.refl _ _, rfl⟩)
                · intro a' w' hx hs hd
                  obtain ⟨y, rfl⟩ := hx.ew
                  have eg : a'.tmps[110]?.getD undef = _ := hd 2 110 rfl rfl
                  first
                  | (refine .inr ⟨unwanted_of (j := 2) (d := 110) rfl rfl eg (by rfl), ?_⟩; exact (rfl : (Mo.is undef).p undef y.on))
                  | (refine .inr ⟨unwanted_und (j := 2) (d := 110) rfl rfl eg, ?_⟩; exact (rfl : (Mo.is undef).p undef y.on))
                  | (have e117 : a'.tmps[117]?.getD undef = _ := hd 9 117 rfl rfl; refine .inl ⟨wanted_of (j := 2) (d := 110) rfl rfl eg, ?_⟩; clear hs hd hx eg; go_simp; exact ⟨Ext.refl _ _, rfl⟩)
                · intro a' w' hx hs hd
                  obtain ⟨y, rfl⟩ := hx.ew
                  have eg : a'.tmps[110]?.getD undef = _ := hd 2 110 rfl rfl
                  first
                  | (refine .inr ⟨unwanted_of (j := 2) (d := 110) rfl rfl eg (by rfl), ?_⟩; exact (rfl : (Mo.is undef).p undef y.on))
                  | (refine .inr ⟨unwanted_und (j := 2) (d := 110) rfl rfl eg, ?_⟩; exact (rfl : (Mo.is undef).p undef y.on))
                  | (have e118 : a'.tmps[118]?.getD undef = _ := hd 10 118 rfl rfl; refine .inl ⟨wanted_of (j := 2) (d := 110) rfl rfl eg, ?_⟩; clear hs hd hx eg; go_simp; exact ⟨Ext.refl _ _, rfl⟩)
                · intro a' w' hx hs hd
                  obtain ⟨y, rfl⟩ := hx.ew
                  have eg : a'.tmps[110]?.getD undef = _ := hd 2 110 rfl rfl
                  first
                  | (refine .inr ⟨unwanted_of (j := 2) (d := 110) rfl rfl eg (by rfl), ?_⟩; exact (rfl : (Mo.is undef).p undef y.on))
                  | (refine .inr ⟨unwanted_und (j := 2) (d := 110) rfl rfl eg, ?_⟩; exact (rfl : (Mo.is undef).p undef y.on))
                  | (have e119 : a'.tmps[119]?.getD undef = _ := hd 11 119 rfl rfl; refine .inl ⟨wanted_of (j := 2) (d := 110) rfl rfl eg, ?_⟩; clear hs hd hx eg; go_simp; exact ⟨Ext.refl _ _, rfl⟩)
                · intro a' w' hx hs hd
                  obtain ⟨y, rfl⟩ := hx.ew
                  have eg : a'.tmps[110]?.getD undef = _ := hd 2 110 rfl rfl
                  first
                  | (refine .inr ⟨unwanted_of (j := 2) (d := 110) rfl rfl eg (by rfl), ?_⟩; exact (rfl : (Mo.is undef).p undef y.on))
                  | (refine .inr ⟨unwanted_und (j := 2) (d := 110) rfl rfl eg, ?_⟩; exact (rfl : (Mo.is undef).p undef y.on))
                  | (have e120 : a'.tmps[120]?.getD undef = _ := hd 12 120 rfl rfl; refine .inl ⟨wanted_of (j := 2) (d := 110) rfl rfl eg, ?_⟩; clear hs hd hx eg; go_simp; exact ⟨Ext.refl _ _, rfl⟩)
                · intro a' w' hx hs hd
                  obtain ⟨y, rfl⟩ := hx.ew
                  have eg : a'.tmps[110]?.getD undef = _ := hd 2 110 rfl rfl
                  first
                  | (refine .inr ⟨unwanted_of (j := 2) (d := 110) rfl rfl eg (by rfl), ?_⟩; exact (rfl : (Mo.is undef).p undef y.on))
                  | (refine .inr ⟨unwanted_und (j := 2) (d := 110) rfl rfl eg, ?_⟩; exact (rfl : (Mo.is undef).p undef y.on))
                  | (have e121 : a'.tmps[121]?.getD undef = _ := hd 13 121 rfl rfl; refine .inl ⟨wanted_of (j := 2) (d := 110) rfl rfl eg, ?_⟩; clear hs hd hx eg; go_simp; exact (KQ.out _).mono (fun e w'' ⟨he, hx⟩ => ⟨_, he, by rw [hx]; exact Ext.refl _ _, rfl⟩))
                · intro a' w' hx hs hd
                  obtain ⟨y, rfl⟩ := hx.ew
                  have eg : a'.tmps[110]?.getD undef = _ := hd 2 110 rfl rfl
                  first
                  | (refine .inr ⟨unwanted_of (j := 2) (d := 110) rfl rfl eg (by rfl), ?_⟩; exact (rfl : (Mo.is undef).p undef y.on))
                  | (refine .inr ⟨unwanted_und (j := 2) (d := 110) rfl rfl eg, ?_⟩; exact (rfl : (Mo.is undef).p undef y.on))
                  | (have e115 : a'.tmps[115]?.getD undef = _ := hd 7 115 rfl rfl; have e122 : a'.tmps[122]?.getD undef = _ := hd 14 122 rfl rfl; refine .inl ⟨wanted_of (j := 2) (d := 110) rfl rfl eg, ?_⟩; clear hs hd hx eg; go_simp; exact ⟨Ext.refl _ _, rfl⟩)
                · intro a' w' hx hs hd
                  obtain ⟨y, rfl⟩ := hx.ew
                  have e110 : a'.tmps[110]?.getD undef = _ := hd 2 110 rfl rfl
                  have e123 : a'.tmps[123]?.getD undef = _ := hd 15 123 rfl rfl
                  refine .inl ⟨rfl, ?_⟩
                  clear hs hd hx
                  go_simp
                  exact ⟨Ext.refl _ _, rfl⟩
              case' q1 =>
                intro vs w' hx hRR
                obtain ⟨x8, rfl⟩ := hx.ew
                have q0 : vs 0 = _ := hRR 0 (by decide)
                have q1 : vs 1 = _ := hRR 1 (by decide)
                have q2 : vs 2 = _ := hRR 2 (by decide)
                have q3 : vs 3 = _ := hRR 3 (by decide)
                have q4 : vs 4 = _ := hRR 4 (by decide)
                have q5 : vs 5 = _ := hRR 5 (by decide)
                obtain ⟨a5, c5, q6⟩ : ∃ a c, vs 6 = .slice a wl c := hRR 6 (by decide)
                have q7 : vs 7 = _ := hRR 7 (by decide)
                have q8 : vs 8 = _ := hRR 8 (by decide)
                have q9 : vs 9 = _ := hRR 9 (by decide)
                have q10 : vs 10 = _ := hRR 10 (by decide)
                have q11 : vs 11 = _ := hRR 11 (by decide)
                have q12 : vs 12 = _ := hRR 12 (by decide)
                have q13 : vs 13 = _ := hRR 13 (by decide)
                have q14 : vs 14 = _ := hRR 14 (by decide)
                have q15 : vs 15 = _ := hRR 15 (by decide)
                have q16 : vs 16 = _ := hRR 16 (by decide)
                clear hRR hx
                simp only [putAll, List.take_succ_cons, List.take_zero, List.drop_succ_cons, List.drop_zero, Act.put, List.setIfInBounds_toArray, List.set_cons_zero, List.set_cons_succ, Nat.reduceAdd, Nat.zero_add]
                simp only [q0, q1, q2, q3, q4, q5, q6, q7, q8, q9, q10, q11, q12, q13, q14, q15, q16]
                clear q0 q1 q2 q3 q4 q5 q6 q7 q8 q9 q10 q11 q12 q13 q14 q15 q16 vs
              have Q8 := Go.Lib.hid (Q7.out.extN x8.ext)
              have X8 := Go.Lib.hid (XT.out.trans x8.ext.ofNon)
              have BR8 := Go.Lib.hid (BR7.out.extN x8.ext)
              have XT8 : Hid (w.heap.size ≤ x8.on.heap.size) := Go.Lib.hid X8.out.size
              clear Q7 XT BR7 X7 z0 z1 z2 z3 z4 z5 C1 HDN HDN2 HEQ KW3 KC KQ
              generalize x8.on = w8 at *
              go_upto_region 21 with fail
              have z0 : w8.cell? ⟨kq, 0, none⟩ = some (.int .i64 rc) := BR8.out.cell rfl
              have z1 : w8.cell? ⟨kq, 1, none⟩ = some (.int .i64 rs) := BR8.out.cell rfl
              have z2 : w8.cell? ⟨kq, 2, none⟩ = some (.int .i64 rk) := BR8.out.cell rfl
              have z3 : w8.cell? ⟨kq, 3, none⟩ = some (.string rkey) := BR8.out.cell rfl
              have z4 : w8.cell? ⟨kq, 4, none⟩ = some (.float .f64 rx) := BR8.out.cell rfl
              have z5 : w8.cell? ⟨kq, 5, none⟩ = some (.int .i64 rid) := BR8.out.cell rfl
              have y6 : w8.cell? ⟨b, 5 + 1, none⟩ = some v4 := Q8.out.c6
              simp only [Nat.reduceAdd] at y6
              have O4 := Go.Lib.hid Q8.out.o4
              have HDL : Hid (m5.done.length ≤ 1000) := Go.Lib.hid (by rw [H5D.out]; exact HF.out.done)
              obtain ⟨len4, hlen4⟩ : ∃ l, l = m5.done.length := ⟨_, rfl⟩
              rw [← hlen4] at O4 HDL
              have HL4 := Go.Lib.hid hlen4
              clear hlen4
              have hd4 := HDL.out
              have HRV := Go.Lib.hid (own_row O4.out)
              have nb4 : Row v4 b = False := by simp only [eq_iff_iff, iff_false]; intro q; exact Q8.out.nb (Q8.out.low.2.2.2 b q)
              have nq4 : Row v4 kq = False := by simp only [eq_iff_iff, iff_false]; intro q; exact HKQ5.out q
              have nn1 : Non b = False := rfl
              have nn2 : Non kq = False := rfl
              have HR2 : Hid (∀ k, Row v4 k → k < w8.heap.size) := Go.Lib.hid (fun k q => (HRV.out k q).2)
              apply wp_region_wr 12 [Mo.is _, Mo.is _, Mo.is _, Mo.is _, Mo.is _, Mo.is _, Mo.is _, Mo.is _, moOne w8.heap.size [.int .i64 n, .int .i64 rc, .int .i64 rs, .int .i64 rk, .string rkey, .float .f64 rx, .int .i64 rid] 161, moRow v4 w8.heap.size 0 161 7 (len4 + 1) (m5.done.flatMap eC ++ ([.int .i64 n, .int .i64 rc, .int .i64 rs, .int .i64 rk, .string rkey, .float .f64 rx, .int .i64 rid] : List Value)), Mo.is _, Mo.is _] (Row v4) 9 (fun w' => w'.ownsRow 0 161 7 v4 len4 (m5.done.flatMap eC)) (Non) 9999 (fun _ => True) (by kernel_rfl) (by kernel_rfl) (by kernel_rfl) (by kernel_rfl) (by kernel_rfl) (by decide) (by kernel_rfl) (by decide) ?ta2 ?tb2 ?ha2 ?hb2 ?hc2 ?hd2 ?ma2 ?mb2 ?st2 ?q2
              case ta2 => exact O4.out
              case tb2 => exact trivial
              case ha2 => exact fun _ _ x h => ownR_extN h x
              case hb2 => exact fun _ _ x h => ownR_extN h x
              case hc2 => exact fun _ _ _ _ => trivial
              case hd2 => exact fun _ _ _ _ => trivial
              case st2 =>
                refine ⟨?_, ?_, ?_, ?_, ?_, ?_, ?_, ?_, ?_, ?_, ?_, ?_, trivial⟩
                · refine .inl ⟨by decide, by decide, ?_⟩
                  intro a' w' hx hs hd
                  obtain ⟨y, rfl⟩ := hx.ew
                  have e0 : a'.tmps[0]?.getD undef = _ := hs 0 rfl
                  simp only [List.getElem?_toArray, List.getElem?_cons_succ, List.getElem?_cons_zero, Option.getD_some, Array.getElem?_eq_some_iff] at e0
                  refine .inl ⟨rfl, ?_⟩
                  clear hs hd hx
                  go_simp
                  exact ⟨Ext.refl _ _, rfl⟩
                · refine .inl ⟨by decide, by decide, ?_⟩
                  intro a' w' hx hs hd
                  obtain ⟨y, rfl⟩ := hx.ew
                  have e0 : a'.tmps[0]?.getD undef = _ := hs 0 rfl
                  simp only [List.getElem?_toArray, List.getElem?_cons_succ, List.getElem?_cons_zero, Option.getD_some, Array.getElem?_eq_some_iff] at e0
                  refine .inl ⟨rfl, ?_⟩
                  clear hs hd hx
                  go_simp
                  exact ⟨Ext.refl _ _, rfl⟩
                · refine .inl ⟨by decide, by decide, ?_⟩
                  intro a' w' hx hs hd
                  obtain ⟨y, rfl⟩ := hx.ew
                  have e126 : a'.tmps[126]?.getD undef = _ := hd 1 126 rfl rfl
                  refine .inl ⟨rfl, ?_⟩
                  clear hs hd hx
                  go_simp
                  exact ⟨Ext.refl _ _, rfl⟩
                · refine .inl ⟨by decide, by decide, ?_⟩
                  intro a' w' hx hs hd
                  obtain ⟨y, rfl⟩ := hx.ew
                  have e127 : a'.tmps[127]?.getD undef = _ := hd 2 127 rfl rfl
                  refine .inl ⟨rfl, ?_⟩
                  clear hs hd hx
                  go_simp
                  exact ⟨Ext.refl _ _, rfl⟩
                · refine .inl ⟨by decide, by decide, ?_⟩
                  intro a' w' hx hs hd
                  obtain ⟨y, rfl⟩ := hx.ew
                  have e128 : a'.tmps[128]?.getD undef = _ := hd 3 128 rfl rfl
                  refine .inl ⟨rfl, ?_⟩
                  clear hs hd hx
                  go_simp
                  exact ⟨Ext.refl _ _, rfl⟩
                · refine .inl ⟨by decide, by decide, ?_⟩
                  intro a' w' hx hs hd
                  obtain ⟨y, rfl⟩ := hx.ew
                  have e1 : a'.tmps[1]?.getD undef = _ := hs 1 rfl
                  simp only [List.getElem?_toArray, List.getElem?_cons_succ, List.getElem?_cons_zero, Option.getD_some, Array.getElem?_eq_some_iff] at e1
                  refine .inl ⟨rfl, ?_⟩
                  clear hs hd hx
                  go_simp
                  exact ⟨Ext.refl _ _, rfl⟩
                · refine .inl ⟨by decide, by decide, ?_⟩
                  intro a' w' hx hs hd
                  obtain ⟨y, rfl⟩ := hx.ew
                  have e4 : a'.tmps[4]?.getD undef = _ := hs 4 rfl
                  simp only [List.getElem?_toArray, List.getElem?_cons_succ, List.getElem?_cons_zero, Option.getD_some, Array.getElem?_eq_some_iff] at e4
                  refine .inl ⟨rfl, ?_⟩
                  clear hs hd hx
                  go_simp
                  exact ⟨Ext.refl _ _, rfl⟩
                · refine .inl ⟨by decide, by decide, ?_⟩
                  intro a' w' hx hs hd
                  obtain ⟨y, rfl⟩ := hx.ew
                  have e130 : a'.tmps[130]?.getD undef = _ := hd 5 130 rfl rfl
                  have e131 : a'.tmps[131]?.getD undef = _ := hd 6 131 rfl rfl
                  refine .inl ⟨rfl, ?_⟩
                  clear hs hd hx
                  go_simp
                  exact ⟨Ext.refl _ _, rfl⟩
                · refine .inl ⟨by decide, by decide, ?_⟩
                  intro a' w' hx hs hd
                  obtain ⟨y, rfl⟩ := hx.ew
                  have e132 : a'.tmps[132]?.getD undef = _ := hd 7 132 rfl rfl
                  refine .inl ⟨rfl, ?_⟩
                  clear hs hd hx
                  go_simp
                  exact ⟨(Ext.refl _ _).alloc _, _, rfl, y.ext.size, Bx.newAt _ _ _ _ rfl⟩
                · refine .inr (.inl ⟨rfl, ?_⟩)
                  intro a' w' hx hst hs hd
                  obtain ⟨y, rfl⟩ := hx.ew
                  have e129 : a'.tmps[129]?.getD undef = _ := hd 4 129 rfl rfl
                  obtain ⟨k4, e133, hk4, hB4⟩ : ∃ k, a'.tmps[133]?.getD undef = .slice (some ⟨k, 0, none⟩) 1 1 ∧ w8.heap.size ≤ k ∧ Bx y.on k [.int .i64 n, .int .i64 rc, .int .i64 rs, .int .i64 rk, .string rkey, .float .f64 rx, .int .i64 rid] 161 := hd 8 133 rfl rfl
                  refine ⟨rfl, ?_⟩
                  clear hs hd hx
                  exact rel_append_row _ _ 135 rfl 0 161 7 64 _ Try.underlying135 info_entry14 (by rfl) (by omega) (by omega) v4 len4 (m5.done.flatMap eC) ((eval_tmp _ _).trans e129) hst k4 _ _ ((eval_tmp _ _).trans e133) hB4 rfl (by intro u hu; simp at hu; rcases hu with rfl | rfl | rfl | rfl | rfl | rfl | rfl <;> rfl) (by omega) (by omega) (fun v' w' x o r => ⟨v', rfl, o, fun k hk => (r k hk).imp id (fun z => Nat.le_trans y.ext.size z)⟩)
                · refine .inl ⟨by decide, by decide, ?_⟩
                  intro a' w' hx hs hd
                  obtain ⟨y, rfl⟩ := hx.ew
                  have e125 : a'.tmps[125]?.getD undef = _ := hd 0 125 rfl rfl
                  refine .inl ⟨rfl, ?_⟩
                  clear hs hd hx
                  go_simp
                  exact ⟨Ext.refl _ _, rfl⟩
                · refine .inl ⟨by decide, by decide, ?_⟩
                  intro a' w' hx hs hd
                  obtain ⟨y, rfl⟩ := hx.ew
                  have e135 : a'.tmps[135]?.getD undef = _ := hd 10 135 rfl rfl
                  refine .inl ⟨rfl, ?_⟩
                  clear hs hd hx
                  go_simp
                  exact ⟨Ext.refl _ _, rfl⟩
              case ma2 => exact ⟨.inr (Mo.is_still _ _), .inr (Mo.is_still _ _), .inr (Mo.is_still _ _), .inr (Mo.is_still _ _), .inr (Mo.is_still _ _), .inr (Mo.is_still _ _), .inr (Mo.is_still _ _), .inr (Mo.is_still _ _), .inr (moOne_still HR2.out), .inl rfl, .inr (Mo.is_still _ _), .inr (Mo.is_still _ _), trivial⟩
              case mb2 => exact ⟨.inr (Mo.mono _), .inr (Mo.mono _), .inr (Mo.mono _), .inr (Mo.mono _), .inr (Mo.mono _), .inr (Mo.mono _), .inr (Mo.mono _), .inr (Mo.mono _), .inr (Mo.mono _), .inr (Mo.mono _), .inr (Mo.mono _), .inr (Mo.mono _), trivial⟩
              case' q2 =>
                intro vs w' hx hRR
                obtain ⟨x9, rfl⟩ := hx.ew
                have q0 : vs 0 = _ := hRR 0 (by decide)
                have q1 : vs 1 = _ := hRR 1 (by decide)
                have q2 : vs 2 = _ := hRR 2 (by decide)
                have q3 : vs 3 = _ := hRR 3 (by decide)
                have q4 : vs 4 = _ := hRR 4 (by decide)
                have q5 : vs 5 = _ := hRR 5 (by decide)
                have q6 : vs 6 = _ := hRR 6 (by decide)
                have q7 : vs 7 = _ := hRR 7 (by decide)
                obtain ⟨k4, q8, hk4, hB4⟩ : ∃ k, vs 8 = .slice (some ⟨k, 0, none⟩) 1 1 ∧ w8.heap.size ≤ k ∧ Bx x9.on k [.int .i64 n, .int .i64 rc, .int .i64 rs, .int .i64 rk, .string rkey, .float .f64 rx, .int .i64 rid] 161 := hRR 8 (by decide)
                obtain ⟨u5, q9, hO5, hr5⟩ : ∃ u, vs 9 = u ∧ x9.on.ownsRow 0 161 7 u (len4 + 1) (m5.done.flatMap eC ++ ([.int .i64 n, .int .i64 rc, .int .i64 rs, .int .i64 rk, .string rkey, .float .f64 rx, .int .i64 rid] : List Value)) ∧ ∀ k, Row u k → Row v4 k ∨ w8.heap.size ≤ k := hRR 9 (by decide)
                have q10 : vs 10 = _ := hRR 10 (by decide)
                have q11 : vs 11 = _ := hRR 11 (by decide)
                clear hRR hx
                simp only [putAll, List.take_succ_cons, List.take_zero, List.drop_succ_cons, List.drop_zero, Act.put, List.setIfInBounds_toArray, List.set_cons_zero, List.set_cons_succ, Nat.reduceAdd, Nat.zero_add]
                simp only [q0, q1, q2, q3, q4, q5, q6, q7, q8, q9, q10, q11]
                clear q0 q1 q2 q3 q4 q5 q6 q7 q8 q9 q10 q11 vs
              obtain ⟨ua, uc, hus⟩ := row_slice hO5
              subst hus
              have PD := Go.Lib.hid (Q8.out.putD (p := (n, ⟨rc, rs, ⟨rk, rkey, rx, rid⟩⟩)) (x9.ext.mono (fun k _ q => by rcases q with q | q; exact q; exact q.elim)) HR.out (by rw [← HL4.out]; exact hO5) hr5)
              have y7 : x9.on.cell? ⟨b, 6, none⟩ = some v4 := (x9.ext.cell (p := ⟨b, 6, none⟩) Q8.out.bx.lt (fun q => by rcases q with q | q; rw [nb4] at q; exact q; exact q)).trans y6
              have f7 : x9.on.frozen? ⟨b, 6, none⟩ = false := froz_of_heap (Q8.out.bx.ext x9.ext (fun q => by rcases q with q | q; rw [nb4] at q; exact q; exact q)).h
              have XF : Hid (Ext (LoF b G) w (x9.on.setCell ⟨b, 6, none⟩ (.slice ua (len4 + 1) uc))) := Go.Lib.hid ((X8.out.step x9.ext (fun k hk q => by
                rcases q with q | q
                · rcases HG5.out k (Q8.out.low.2.2.2 k q) with h | h
                  · exact .inr h
                  · omega
                · exact q.elim)).step ((Ext.refl (One b) _).set1 _) (fun k hk q => .inl q))
              go_wp2
              go_returns
              exact ⟨rfl, _, by rw [FIN.out]; exact ⟨_, _, _, _, _, _, _, _, PD.out⟩, fun k h => by
                rcases h with h | ⟨h, _⟩
                · exact HG5.out k h
                · have := XT8.out; omega, XF.out⟩
            · have d1 : decide (qu ≤ (wl : Int)) = false := decide_eq_false hen
              have FIN : Hid (lookR m n = m5) := Go.Lib.hid (by rw [HLK.out, HDN.out, HEQ.out, d1]; simp; rw [← H5D.out])
              apply wp_region_rel (relR [Mo.is _, Mo.is _, Mo.is _, Mo.is _, Mo.is _, Mo.is _, moSl wl, Mo.is _, Mo.is _, Mo.is _, Mo.is _, Mo.is _, Mo.is _, Mo.is _, Mo.is _, Mo.is _, Mo.is _]) (by kernel_rfl) (by kernel_rfl) (by kernel_rfl) (relR_mono _) (StepD.all ?st3) ?q3
              case st3 =>
                refine ⟨?_, ?_, ?_, ?_, ?_, ?_, ?_, ?_, ?_, ?_, ?_, ?_, ?_, ?_, ?_, ?_, ?_, trivial⟩
                · intro a' w' hx hs hd
                  obtain ⟨y, rfl⟩ := hx.ew
                  have e13 : a'.tmps[13]?.getD undef = _ := hs 13 rfl
                  simp only [List.getElem?_toArray, List.getElem?_cons_succ, List.getElem?_cons_zero, Option.getD_some, Array.getElem?_eq_some_iff] at e13
                  refine .inl ⟨rfl, ?_⟩
                  clear hs hd hx
                  go_simp
                  exact ⟨Ext.refl _ _, rfl⟩
                · intro a' w' hx hs hd
                  obtain ⟨y, rfl⟩ := hx.ew
                  have e108 : a'.tmps[108]?.getD undef = _ := hd 0 108 rfl rfl
                  refine .inl ⟨rfl, ?_⟩
                  clear hs hd hx
                  go_simp
                  exact ⟨Ext.refl _ _, rfl⟩
                · intro a' w' hx hs hd
                  obtain ⟨y, rfl⟩ := hx.ew
                  have e109 : a'.tmps[109]?.getD undef = _ := hd 1 109 rfl rfl
                  refine .inl ⟨rfl, ?_⟩
                  clear hs hd hx
                  go_simp
                  exact ⟨Ext.refl _ _, rfl⟩
                · intro a' w' hx hs hd
                  obtain ⟨y, rfl⟩ := hx.ew
                  have eg : a'.tmps[110]?.getD undef = _ := hd 2 110 rfl rfl
                  first
                  | (refine .inr ⟨unwanted_of (j := 2) (d := 110) rfl rfl eg (by rfl), ?_⟩; exact (rfl : (Mo.is undef).p undef y.on))
                  | (refine .inr ⟨unwanted_und (j := 2) (d := 110) rfl rfl eg, ?_⟩; exact (rfl : (Mo.is undef).p undef y.on))
                  | (have e0 : a'.tmps[0]?.getD undef = _ := hs 0 rfl; simp only [List.getElem?_toArray, List.getElem?_cons_succ, List.getElem?_cons_zero, Option.getD_some, Array.getElem?_eq_some_iff] at e0; refine .inl ⟨wanted_of (j := 2) (d := 110) rfl rfl eg, ?_⟩; clear hs hd hx eg; go_simp; exact ⟨Ext.refl _ _, rfl⟩)
                · intro a' w' hx hs hd
                  obtain ⟨y, rfl⟩ := hx.ew
                  have eg : a'.tmps[110]?.getD undef = _ := hd 2 110 rfl rfl
                  first
                  | (refine .inr ⟨unwanted_of (j := 2) (d := 110) rfl rfl eg (by rfl), ?_⟩; exact (rfl : (Mo.is undef).p undef y.on))
                  | (refine .inr ⟨unwanted_und (j := 2) (d := 110) rfl rfl eg, ?_⟩; exact (rfl : (Mo.is undef).p undef y.on))
                  | (have e1 : a'.tmps[1]?.getD undef = _ := hs 1 rfl; simp only [List.getElem?_toArray, List.getElem?_cons_succ, List.getElem?_cons_zero, Option.getD_some, Array.getElem?_eq_some_iff] at e1; refine .inl ⟨wanted_of (j := 2) (d := 110) rfl rfl eg, ?_⟩; clear hs hd hx eg; go_simp; exact ⟨Ext.refl _ _, rfl⟩)
                · intro a' w' hx hs hd
                  obtain ⟨y, rfl⟩ := hx.ew
                  have eg : a'.tmps[110]?.getD undef = _ := hd 2 110 rfl rfl
                  first
                  | (refine .inr ⟨unwanted_of (j := 2) (d := 110) rfl rfl eg (by rfl), ?_⟩; exact (rfl : (Mo.is undef).p undef y.on))
                  | (refine .inr ⟨unwanted_und (j := 2) (d := 110) rfl rfl eg, ?_⟩; exact (rfl : (Mo.is undef).p undef y.on))
                  | (have e4 : a'.tmps[4]?.getD undef = _ := hs 4 rfl; simp only [List.getElem?_toArray, List.getElem?_cons_succ, List.getElem?_cons_zero, Option.getD_some, Array.getElem?_eq_some_iff] at e4; refine .inl ⟨wanted_of (j := 2) (d := 110) rfl rfl eg, ?_⟩; clear hs hd hx eg; go_simp; exact ⟨Ext.refl _ _, rfl⟩)
                · intro a' w' hx hs hd
                  obtain ⟨y, rfl⟩ := hx.ew
                  have eg : a'.tmps[110]?.getD undef = _ := hd 2 110 rfl rfl
                  first
                  | (refine .inr ⟨unwanted_of (j := 2) (d := 110) rfl rfl eg (by rfl), ?_⟩; exact (rfl : (Mo.is undef).p undef y.on))
                  | (refine .inr ⟨unwanted_und (j := 2) (d := 110) rfl rfl eg, ?_⟩; exact (rfl : (Mo.is undef).p undef y.on))
                  | (have e111 : a'.tmps[111]?.getD undef = _ := hd 3 111 rfl rfl; have e112 : a'.tmps[112]?.getD undef = _ := hd 4 112 rfl rfl; have e113 : a'.tmps[113]?.getD undef = _ := hd 5 113 rfl rfl; refine .inl ⟨wanted_of (j := 2) (d := 110) rfl rfl eg, ?_⟩; clear hs hd hx eg; go_simp; exact (KW3.out _ (X7.out.trans (by (repeat (first | with_reducible (first | exact Ext.refl _ _ | assumption | refine Ext.upN ?_ | refine Ext.alloc ?_ _ | refine Ext.drew ?_ | refine Ext.drewN ?_ _ | refine Ext.upF ?_ | refine Ext.upFF (by first | omega | simp) ?_ | refine Ext.setCellsF _ _ _ (by first | omega | simp) ?_ | refine Ext.setCellF _ _ _ (by first | omega | simp) ?_ | refine Ext.upFN (by first | omega | simp) ?_ | refine Ext.up1F (by first | omega | simp) ?_ | refine Ext.up1N (by first | omega | simp) ?_) | refine Ext.alloc ?_ _ | refine Ext.setCellF _ _ _ (by first | omega | simp) ?_ | refine Ext.setCell ?_ (.inr (by first | omega | simp)) _))))).mono (fun e w'' ⟨⟨a', c', he⟩, hx⟩ => ⟨_, he, hx, a', c', rfl⟩))
                · intro a' w' hx hs hd
                  obtain ⟨y, rfl⟩ := hx.ew
                  have eg : a'.tmps[110]?.getD undef = _ := hd 2 110 rfl rfl
                  first
                  | (refine .inr ⟨unwanted_of (j := 2) (d := 110) rfl rfl eg (by rfl), ?_⟩; exact (rfl : (Mo.is undef).p undef y.on))
                  | (refine .inr ⟨unwanted_und (j := 2) (d := 110) rfl rfl eg, ?_⟩; exact (rfl : (Mo.is undef).p undef y.on))
                  | (obtain ⟨a5, c5, e114⟩ : ∃ a c, a'.tmps[114]?.getD undef = .slice a wl c := hd 6 114 rfl rfl; refine .inl ⟨wanted_of (j := 2) (d := 110) rfl rfl eg, ?_⟩; clear hs hd hx eg; go_simp; exact ⟨Ext.refl _ _, rfl⟩)
                · intro a' w' hx hs hd
                  obtain ⟨y, rfl⟩ := hx.ew
                  have eg : a'.tmps[110]?.getD undef = _ := hd 2 110 rfl rfl
                  first
                  | (refine .inr ⟨unwanted_of (j := 2) (d := 110) rfl rfl eg (by rfl), ?_⟩; exact (rfl : (Mo.is undef).p undef y.on))
                  | (refine .inr ⟨unwanted_und (j := 2) (d := 110) rfl rfl eg, ?_⟩; exact (rfl : (Mo.is undef).p undef y.on))
                  | (have e0 : a'.tmps[0]?.getD undef = _ := hs 0 rfl; simp only [List.getElem?_toArray, List.getElem?_cons_succ, List.getElem?_cons_zero, Option.getD_some, Array.getElem?_eq_some_iff] at e0; refine .inl ⟨wanted_of (j := 2) (d := 110) rfl rfl eg, ?_⟩; clear hs hd hx eg; go_simp; exact ⟨Ext.refl _ _, rfl⟩)
                · intro a' w' hx hs hd
                  obtain ⟨y, rfl⟩ := hx.ew
                  have eg : a'.tmps[110]?.getD undef = _ := hd 2 110 rfl rfl
                  first
                  | (refine .inr ⟨unwanted_of (j := 2) (d := 110) rfl rfl eg (by rfl), ?_⟩; exact (rfl : (Mo.is undef).p undef y.on))
                  | (refine .inr ⟨unwanted_und (j := 2) (d := 110) rfl rfl eg, ?_⟩; exact (rfl : (Mo.is undef).p undef y.on))
                  | (have e116 : a'.tmps[116]?.getD undef = _ := hd 8 116 rfl rfl; refine .inl ⟨wanted_of (j := 2) (d := 110) rfl rfl eg, ?_⟩; clear hs hd hx eg; go_simp; exact ⟨Ext.refl _ _, rfl⟩)
                · intro a' w' hx hs hd
                  obtain ⟨y, rfl⟩ := hx.ew
                  have eg : a'.tmps[110]?.getD undef = _ := hd 2 110 rfl rfl
                  first
                  | (refine .inr ⟨unwanted_of (j := 2) (d := 110) rfl rfl eg (by rfl), ?_⟩; exact (rfl : (Mo.is undef).p undef y.on))
                  | (refine .inr ⟨unwanted_und (j := 2) (d := 110) rfl rfl eg, ?_⟩; exact (rfl : (Mo.is undef).p undef y.on))
                  | (have e117 : a'.tmps[117]?.getD undef = _ := hd 9 117 rfl rfl; refine .inl ⟨wanted_of (j := 2) (d := 110) rfl rfl eg, ?_⟩; clear hs hd hx eg; go_simp; exact ⟨Ext.refl _ _, rfl⟩)
                · intro a' w' hx hs hd
                  obtain ⟨y, rfl⟩ := hx.ew
                  have eg : a'.tmps[110]?.getD undef = _ := hd 2 110 rfl rfl
                  first
                  | (refine .inr ⟨unwanted_of (j := 2) (d := 110) rfl rfl eg (by rfl), ?_⟩; exact (rfl : (Mo.is undef).p undef y.on))
                  | (refine .inr ⟨unwanted_und (j := 2) (d := 110) rfl rfl eg, ?_⟩; exact (rfl : (Mo.is undef).p undef y.on))
                  | (have e118 : a'.tmps[118]?.getD undef = _ := hd 10 118 rfl rfl; refine .inl ⟨wanted_of (j := 2) (d := 110) rfl rfl eg, ?_⟩; clear hs hd hx eg; go_simp; exact ⟨Ext.refl _ _, rfl⟩)
                · intro a' w' hx hs hd
                  obtain ⟨y, rfl⟩ := hx.ew
                  have eg : a'.tmps[110]?.getD undef = _ := hd 2 110 rfl rfl
                  first
                  | (refine .inr ⟨unwanted_of (j := 2) (d := 110) rfl rfl eg (by rfl), ?_⟩; exact (rfl : (Mo.is undef).p undef y.on))
                  | (refine .inr ⟨unwanted_und (j := 2) (d := 110) rfl rfl eg, ?_⟩; exact (rfl : (Mo.is undef).p undef y.on))
                  | (have e119 : a'.tmps[119]?.getD undef = _ := hd 11 119 rfl rfl; refine .inl ⟨wanted_of (j := 2) (d := 110) rfl rfl eg, ?_⟩; clear hs hd hx eg; go_simp; exact ⟨Ext.refl _ _, rfl⟩)
                · intro a' w' hx hs hd
                  obtain ⟨y, rfl⟩ := hx.ew
                  have eg : a'.tmps[110]?.getD undef = _ := hd 2 110 rfl rfl
                  first
                  | (refine .inr ⟨unwanted_of (j := 2) (d := 110) rfl rfl eg (by rfl), ?_⟩; exact (rfl : (Mo.is undef).p undef y.on))
                  | (refine .inr ⟨unwanted_und (j := 2) (d := 110) rfl rfl eg, ?_⟩; exact (rfl : (Mo.is undef).p undef y.on))
                  | (have e120 : a'.tmps[120]?.getD undef = _ := hd 12 120 rfl rfl; refine .inl ⟨wanted_of (j := 2) (d := 110) rfl rfl eg, ?_⟩; clear hs hd hx eg; go_simp; exact ⟨Ext.refl _ _, rfl⟩)
                · intro a' w' hx hs hd
                  obtain ⟨y, rfl⟩ := hx.ew
                  have eg : a'.tmps[110]?.getD undef = _ := hd 2 110 rfl rfl
                  first
                  | (refine .inr ⟨unwanted_of (j := 2) (d := 110) rfl rfl eg (by rfl), ?_⟩; exact (rfl : (Mo.is undef).p undef y.on))
                  | (refine .inr ⟨unwanted_und (j := 2) (d := 110) rfl rfl eg, ?_⟩; exact (rfl : (Mo.is undef).p undef y.on))
                  | (have e121 : a'.tmps[121]?.getD undef = _ := hd 13 121 rfl rfl; refine .inl ⟨wanted_of (j := 2) (d := 110) rfl rfl eg, ?_⟩; clear hs hd hx eg; go_simp; exact (KQ.out _).mono (fun e w'' ⟨he, hx⟩ => ⟨_, he, by rw [hx]; exact Ext.refl _ _, rfl⟩))
                · intro a' w' hx hs hd
                  obtain ⟨y, rfl⟩ := hx.ew
                  have eg : a'.tmps[110]?.getD undef = _ := hd 2 110 rfl rfl
                  first
                  | (refine .inr ⟨unwanted_of (j := 2) (d := 110) rfl rfl eg (by rfl), ?_⟩; exact (rfl : (Mo.is undef).p undef y.on))
                  | (refine .inr ⟨unwanted_und (j := 2) (d := 110) rfl rfl eg, ?_⟩; exact (rfl : (Mo.is undef).p undef y.on))
                  | (have e115 : a'.tmps[115]?.getD undef = _ := hd 7 115 rfl rfl; have e122 : a'.tmps[122]?.getD undef = _ := hd 14 122 rfl rfl; refine .inl ⟨wanted_of (j := 2) (d := 110) rfl rfl eg, ?_⟩; clear hs hd hx eg; go_simp; exact ⟨Ext.refl _ _, rfl⟩)
                · intro a' w' hx hs hd
                  obtain ⟨y, rfl⟩ := hx.ew
                  have e110 : a'.tmps[110]?.getD undef = _ := hd 2 110 rfl rfl
                  have e123 : a'.tmps[123]?.getD undef = _ := hd 15 123 rfl rfl
                  refine .inl ⟨rfl, ?_⟩
                  clear hs hd hx
                  go_simp
                  exact ⟨Ext.refl _ _, rfl⟩
              case' q3 =>
                intro vs w' hx hRR
                obtain ⟨x8, rfl⟩ := hx.ew
                have q0 : vs 0 = _ := hRR 0 (by decide)
                have q1 : vs 1 = _ := hRR 1 (by decide)
                have q2 : vs 2 = _ := hRR 2 (by decide)
                have q3 : vs 3 = _ := hRR 3 (by decide)
                have q4 : vs 4 = _ := hRR 4 (by decide)
                have q5 : vs 5 = _ := hRR 5 (by decide)
                obtain ⟨a5, c5, q6⟩ : ∃ a c, vs 6 = .slice a wl c := hRR 6 (by decide)
                have q7 : vs 7 = _ := hRR 7 (by decide)
                have q8 : vs 8 = _ := hRR 8 (by decide)
                have q9 : vs 9 = _ := hRR 9 (by decide)
                have q10 : vs 10 = _ := hRR 10 (by decide)
                have q11 : vs 11 = _ := hRR 11 (by decide)
                have q12 : vs 12 = _ := hRR 12 (by decide)
                have q13 : vs 13 = _ := hRR 13 (by decide)
                have q14 : vs 14 = _ := hRR 14 (by decide)
                have q15 : vs 15 = _ := hRR 15 (by decide)
                have q16 : vs 16 = _ := hRR 16 (by decide)
                clear hRR hx
                simp only [putAll, List.take_succ_cons, List.take_zero, List.drop_succ_cons, List.drop_zero, Act.put, List.setIfInBounds_toArray, List.set_cons_zero, List.set_cons_succ, Nat.reduceAdd, Nat.zero_add]
                simp only [q0, q1, q2, q3, q4, q5, q6, q7, q8, q9, q10, q11, q12, q13, q14, q15, q16]
                clear q0 q1 q2 q3 q4 q5 q6 q7 q8 q9 q10 q11 q12 q13 q14 q15 q16 vs
              go_wp2
              go_returns
              refine ⟨rfl, G, ?_, HG5.out, XT.out.trans x8.ext.ofNon⟩
              rw [FIN.out]
              exact ⟨_, _, _, _, _, _, _, _, Q7.out.extN x8.ext⟩
        | false =>
          have HNS : Hid (hasR m.kept m.view n = false) := Go.Lib.hid (by rw [← HKM.out, ← hasC_map, ← HSE.out])
          obtain ⟨LW, hLW⟩ : ∃ LW, LW = whoR m.mem m.votes false n ⟨rc, rs, ⟨rk, rkey, rx, rid⟩⟩ := ⟨_, rfl⟩
          have HLW := Go.Lib.hid hLW
          rw [← hLW] at KW4
          have hLWb : LW.length ≤ 100000 := by
            have h1 := whoR_len m.votes false n ⟨rc, rs, ⟨rk, rkey, rx, rid⟩⟩ m.mem
            have h5 : m.mem.length * m.votes.length ≤ 100 * 1000 := Nat.mul_le_mul HF.out.mem HF.out.votes
            rw [hLW]; omega
          have VOK : Hid (∀ v ∈ LW, v.vt.ok) := Go.Lib.hid (fun v hv => by
            rw [hLW] at hv
            unfold whoR at hv
            obtain ⟨_, _, h2⟩ := List.mem_flatMap.1 hv
            exact Q4.out.e2 v (List.mem_filter.1 h2).1)
          clear hLW HSE
          have y0 : w4.cell? ⟨kq, 0, none⟩ = some (.int .i64 rc) := BQ4.out.cell rfl
          have y1 : w4.cell? ⟨kq, 1, none⟩ = some (.int .i64 rs) := BQ4.out.cell rfl
          have y2 : w4.cell? ⟨kq, 2, none⟩ = some (.int .i64 rk) := BQ4.out.cell rfl
          have y3 : w4.cell? ⟨kq, 3, none⟩ = some (.string rkey) := BQ4.out.cell rfl
          have y4 : w4.cell? ⟨kq, 4, none⟩ = some (.float .f64 rx) := BQ4.out.cell rfl
          have y5 : w4.cell? ⟨kq, 5, none⟩ = some (.int .i64 rid) := BQ4.out.cell rfl
          go_upto_region 12 with fail
          apply wp_region_rel_tail 8 (relR [Mo.is _, Mo.is _, Mo.is _, Mo.is _, Mo.is _, Mo.is _, Mo.is _, moBox w4.heap.size ([.int .i64 0, .int .i64 0, .int .i64 0, .int .i64 0, .int .i64 0, .string ByteArray.empty, .float .f64 0, .int .i64 0, .slice none 0 0] : List Value) 52]) (by kernel_rfl) (by kernel_rfl) (by kernel_rfl) (by kernel_rfl) (by kernel_rfl) (by decide) (by kernel_rfl) (relR_mono _) (StepD.all ?st4) ?q4
          case st4 =>
            refine ⟨?_, ?_, ?_, ?_, ?_, ?_, ?_, ?_, trivial⟩
            · intro a' w' hx hs hd
              obtain ⟨y, rfl⟩ := hx.ew
              have e0 : a'.tmps[0]?.getD undef = _ := hs 0 rfl
              simp only [List.getElem?_toArray, List.getElem?_cons_succ, List.getElem?_cons_zero, Option.getD_some, Array.getElem?_eq_some_iff] at e0
              refine .inl ⟨rfl, ?_⟩
              clear hs hd hx
              go_simp
              exact ⟨Ext.refl _ _, rfl⟩
            · intro a' w' hx hs hd
              obtain ⟨y, rfl⟩ := hx.ew
              have e68 : a'.tmps[68]?.getD undef = _ := hd 0 68 rfl rfl
              refine .inl ⟨rfl, ?_⟩
              clear hs hd hx
              go_simp
              exact ⟨Ext.refl _ _, rfl⟩
            · intro a' w' hx hs hd
              obtain ⟨y, rfl⟩ := hx.ew
              have e69 : a'.tmps[69]?.getD undef = _ := hd 1 69 rfl rfl
              refine .inl ⟨rfl, ?_⟩
              clear hs hd hx
              go_simp
              exact ⟨Ext.refl _ _, rfl⟩
            · intro a' w' hx hs hd
              obtain ⟨y, rfl⟩ := hx.ew
              have e70 : a'.tmps[70]?.getD undef = _ := hd 2 70 rfl rfl
              refine .inl ⟨rfl, ?_⟩
              clear hs hd hx
              go_simp
              exact ⟨Ext.refl _ _, rfl⟩
            · intro a' w' hx hs hd
              obtain ⟨y, rfl⟩ := hx.ew
              have e1 : a'.tmps[1]?.getD undef = _ := hs 1 rfl
              simp only [List.getElem?_toArray, List.getElem?_cons_succ, List.getElem?_cons_zero, Option.getD_some, Array.getElem?_eq_some_iff] at e1
              refine .inl ⟨rfl, ?_⟩
              clear hs hd hx
              go_simp
              exact ⟨Ext.refl _ _, rfl⟩
            · intro a' w' hx hs hd
              obtain ⟨y, rfl⟩ := hx.ew
              have e4 : a'.tmps[4]?.getD undef = _ := hs 4 rfl
              simp only [List.getElem?_toArray, List.getElem?_cons_succ, List.getElem?_cons_zero, Option.getD_some, Array.getElem?_eq_some_iff] at e4
              refine .inl ⟨rfl, ?_⟩
              clear hs hd hx
              go_simp
              exact ⟨Ext.refl _ _, rfl⟩
            · intro a' w' hx hs hd
              obtain ⟨y, rfl⟩ := hx.ew
              have e71 : a'.tmps[71]?.getD undef = _ := hd 3 71 rfl rfl
              have e72 : a'.tmps[72]?.getD undef = _ := hd 4 72 rfl rfl
              have e73 : a'.tmps[73]?.getD undef = _ := hd 5 73 rfl rfl
              refine .inl ⟨rfl, ?_⟩
              clear hs hd hx
              go_simp
              exact ⟨Ext.refl _ _, rfl⟩
            · intro a' w' hx hs hd
              obtain ⟨y, rfl⟩ := hx.ew
              refine .inl ⟨rfl, ?_⟩
              clear hs hd hx
              go_simp
              exact ⟨(Ext.refl _ _).alloc _, _, rfl, Bx.newAt _ _ _ _ rfl, y.ext.size⟩
          case' q4 =>
            intro vs w' hx hRR
            obtain ⟨x5, rfl⟩ := hx.ew
            have q0 : vs 0 = _ := hRR 0 (by decide)
            have q1 : vs 1 = _ := hRR 1 (by decide)
            have q2 : vs 2 = _ := hRR 2 (by decide)
            have q3 : vs 3 = _ := hRR 3 (by decide)
            have q4 : vs 4 = _ := hRR 4 (by decide)
            have q5 : vs 5 = _ := hRR 5 (by decide)
            have q6 : vs 6 = _ := hRR 6 (by decide)
            obtain ⟨kx, q7, hkB, hkx0⟩ : ∃ k, vs 7 = .pointer (some ⟨k, 0, none⟩) ∧ Bx x5.on k ([.int .i64 0, .int .i64 0, .int .i64 0, .int .i64 0, .int .i64 0, .string ByteArray.empty, .float .f64 0, .int .i64 0, .slice none 0 0] : List Value) 52 ∧ w4.heap.size ≤ k := hRR 7 (by decide)
            clear hRR hx
            simp only [putAll, List.take_succ_cons, List.take_zero, List.drop_succ_cons, List.drop_zero, Act.put, List.setIfInBounds_toArray, List.set_cons_zero, List.set_cons_succ, Nat.reduceAdd, Nat.zero_add]
            simp only [q0, q1, q2, q3, q4, q5, q6, q7]
            clear q0 q1 q2 q3 q4 q5 q6 q7 vs
          go_upto_region 13 with (refine wpList_store_box rfl 52 _ _ rfl kx _ [.int .i64 m.view, .int .i64 n, .int .i64 rc, .int .i64 rs, .int .i64 rk, .string rkey, .float .f64 rx, .int .i64 rid, .slice none 0 0] _ rfl rfl hkB rfl info_cert (by simp [Value.oneCell']) (fun W hB => ?_); have BC := Go.Lib.hid hB; clear hB)
          have X6 : Hid (Ext Non w4 W.on) := Go.Lib.hid (Ext.up1N hkx0 x5.ext)
          try simp only [Act.put]
          have Q6 := Go.Lib.hid (Q4.out.extN X6.out)
          have BQ6 := Go.Lib.hid (BQ4.out.extN X6.out)
          have HO6 := Go.Lib.hid (ownR_extN HO4.out X6.out)
          have XW6 := Go.Lib.hid (XW4.out.trans X6.out)
          have KW6 := Go.Lib.hid (fun w' (x : Ext Non W.on w') => KW4.out w' (X6.out.trans x))
          clear hkB
          generalize W.on = w6 at *
          have hn14 : n1 ≤ w4.heap.size := HN1.out
          have HOR4 := Go.Lib.hid (own_row HO4.out)
          clear q2 q5 y0 y1 y2 y3 y4 y5 X6 Q4 BQ4 HO4 XW4 KW4
          have y0 : w6.cell? ⟨kq, 0, none⟩ = some (.int .i64 rc) := BQ6.out.cell rfl
          have y1 : w6.cell? ⟨kq, 1, none⟩ = some (.int .i64 rs) := BQ6.out.cell rfl
          have y2 : w6.cell? ⟨kq, 2, none⟩ = some (.int .i64 rk) := BQ6.out.cell rfl
          have y3 : w6.cell? ⟨kq, 3, none⟩ = some (.string rkey) := BQ6.out.cell rfl
          have y4 : w6.cell? ⟨kq, 4, none⟩ = some (.float .f64 rx) := BQ6.out.cell rfl
          have y5 : w6.cell? ⟨kq, 5, none⟩ = some (.int .i64 rid) := BQ6.out.cell rfl
          have hkx6 : kx < w6.heap.size := BC.out.lt
          go_wp2_with fail
          unfold reqV at KW6
          simp only at KW6
          refine (KW6.out _ (Ext.refl _ _)).mono ?_
          rintro e w7 ⟨vw, rfl, how, hx7⟩
          obtain ⟨wa, wc, rfl, hvs⟩ := vots_of how
          have HVS := Go.Lib.hid hvs
          have HVR := Go.Lib.hid (own_row how)
          have Q7 := Go.Lib.hid (Q6.out.extN hx7)
          have BQ7 := Go.Lib.hid (BQ6.out.extN hx7)
          have BC7 := Go.Lib.hid (BC.out.extN hx7)
          have HO7 := Go.Lib.hid (ownR_extN HO6.out hx7)
          have XW7 := Go.Lib.hid (XW6.out.trans hx7)
          have h67 : w6.heap.size ≤ w7.heap.size := hx7.size
          have hvle := hvs.1; have hvsm := hvs.2.1
          clear hvs how hx7 Q6 BQ6 BC HO6 XW6 KW6 y0 y1 y2 y3 y4 y5
          obtain ⟨N2, hN2⟩ : ∃ N2, N2 = LW.length := ⟨_, rfl⟩
          have HN2 := Go.Lib.hid hN2
          rw [← hN2] at hLWb hvle ⊢
          clear hN2
          obtain ⟨nb, hnb⟩ : ∃ nb, nb = w7.heap.size := ⟨_, rfl⟩
          go_wp2_with fail
          go_loopg [11] N2 (fun k iv wr => ∃ (i : Nat) (sv : Value), i ≤ N2 ∧ k = N2 - i ∧ iv = .int .i64 i ∧ Hid (Ext (One kx) w7 wr) ∧ Hid (Bx wr kx [.int .i64 m.view, .int .i64 n, .int .i64 rc, .int .i64 rs, .int .i64 rk, .string rkey, .float .f64 rx, .int .i64 rid, sv] 52) ∧ Hid (wr.ownsRow nb 24 2 sv i (sigCells (sigsR (LW.take i)))))
          case atStart => exact ⟨0, .slice none 0 0, Nat.zero_le _, rfl, rfl, Go.Lib.hid (Ext.refl _ _), BC7, Go.Lib.hid (World.ownsRow_nil _ _ _ _)⟩
          case round =>
            obtain ⟨i2, sv, hi2, hk2, rfl, XO, BXi, ROWi⟩ := hrel
            have HG2 := Go.Lib.hid hk2; clear hk2 BC7
            by_cases hlt2 : i2 < N2
            · have hil : i2 < LW.length := by rw [← HN2.out]; exact hlt2
              obtain ⟨g, rfl, hg, hc⟩ := HVS.out.2.2 i2 hil
              have hg6 : w6.heap.size ≤ g := (HVR.out g (by simp [Row, Value.ownBlock])).1
              have TK : Hid (sigCells (sigsR (LW.take (i2 + 1))) = sigCells (sigsR (LW.take i2)) ++ [.int .i64 (LW[i2]).vt.by_, .string (LW[i2]).vt.text]) := Go.Lib.hid (by
                rw [List.take_succ_eq_append_getElem hil]
                unfold sigsR
                rw [List.map_append]
                exact sigCells_snoc _ _)
              have hc9 := hc 9 (.int .i64 (LW[i2]).vt.by_) rfl
              have hc10 := hc 10 (.string (LW[i2]).vt.text) rfl
              generalize (LW[i2]).vt.by_ = sby at *
              generalize (LW[i2]).vt.text = stx at *
              have p9 : wr.cell? ⟨g, 0 + i2 * 11 + 9, none⟩ = some (.int .i64 sby) := (XO.out.cell (p := ⟨g, 0 + i2 * 11 + 9, none⟩) hg (fun q => by have q : g = kx := q; omega)).trans hc9
              have p10 : wr.cell? ⟨g, 0 + i2 * 11 + 10, none⟩ = some (.string stx) := (XO.out.cell (p := ⟨g, 0 + i2 * 11 + 10, none⟩) hg (fun q => by have q : g = kx := q; omega)).trans hc10
              simp only [Nat.zero_add] at p9 p10
              clear hc hc9 hc10
              have q8 : wr.cell? ⟨kx, 8, none⟩ = some sv := BXi.out.cell rfl
              have HRV2 := Go.Lib.hid (own_row ROWi.out)
              have hnw : nb ≤ wr.heap.size := by rw [hnb]; exact XO.out.size
              have nk2 : Row sv kx = False := by simp only [eq_iff_iff, iff_false]; intro q; have := (HRV2.out kx q).1; omega
              have ng2 : Row sv g = False := by simp only [eq_iff_iff, iff_false]; intro q; have := (HRV2.out g q).1; omega
              have nn1 : Non kx = False := rfl
              have nn2 : Non g = False := rfl
              have HR2 : Hid (∀ k, Row sv k → k < wr.heap.size) := Go.Lib.hid (fun k q => (HRV2.out k q).2)
              obtain ⟨row, hrow⟩ : ∃ row, row = sigCells (sigsR (LW.take i2)) := ⟨_, rfl⟩
              rw [← hrow] at TK ROWi
              have hi26 : i2 ≤ 1000000 := by omega
              clear hrow
              go_upto_region 17 with fail
              apply wp_region_wr 10 [Mo.is _, Mo.is _, Mo.is _, Mo.is _, Mo.is _, Mo.is _, Mo.is _, moOne wr.heap.size [.int .i64 sby, .string stx] 24, moRow sv wr.heap.size nb 24 2 (i2 + 1) (row ++ ([.int .i64 sby, .string stx] : List Value)), Mo.is _] (Row sv) 8 (fun w' => w'.ownsRow nb 24 2 sv i2 row) (Non) 9999 (fun _ => True) (by kernel_rfl) (by kernel_rfl) (by kernel_rfl) (by kernel_rfl) (by kernel_rfl) (by decide) (by kernel_rfl) (by decide) ?ta5 ?tb5 ?ha5 ?hb5 ?hc5 ?hd5 ?ma5 ?mb5 ?st5 ?q5
              case ta5 => exact ROWi.out
              case tb5 => exact trivial
              case ha5 => exact fun _ _ x h => ownR_extN h x
              case hb5 => exact fun _ _ x h => ownR_extN h x
              case hc5 => exact fun _ _ _ _ => trivial
              case hd5 => exact fun _ _ _ _ => trivial
              case st5 =>
                refine ⟨?_, ?_, ?_, ?_, ?_, ?_, ?_, ?_, ?_, ?_, trivial⟩
                · refine .inl ⟨by decide, by decide, ?_⟩
                  intro a' w' hx hs hd
                  obtain ⟨y, rfl⟩ := hx.ew
                  have e9 : a'.tmps[9]?.getD undef = _ := hs 9 rfl
                  simp only [List.getElem?_toArray, List.getElem?_cons_succ, List.getElem?_cons_zero, Option.getD_some, Array.getElem?_eq_some_iff] at e9
                  refine .inl ⟨rfl, ?_⟩
                  clear hs hd hx
                  go_simp
                  exact ⟨Ext.refl _ _, rfl⟩
                · refine .inl ⟨by decide, by decide, ?_⟩
                  intro a' w' hx hs hd
                  obtain ⟨y, rfl⟩ := hx.ew
                  have e85 : a'.tmps[85]?.getD undef = _ := hd 0 85 rfl rfl
                  refine .inl ⟨rfl, ?_⟩
                  clear hs hd hx
                  go_simp
                  exact ⟨Ext.refl _ _, rfl⟩
                · refine .inl ⟨by decide, by decide, ?_⟩
                  intro a' w' hx hs hd
                  obtain ⟨y, rfl⟩ := hx.ew
                  have e10 : a'.tmps[10]?.getD undef = _ := hs 10 rfl
                  simp only [List.getElem?_toArray, List.getElem?_cons_succ, List.getElem?_cons_zero, Option.getD_some, Array.getElem?_eq_some_iff] at e10
                  refine .inl ⟨rfl, ?_⟩
                  clear hs hd hx
                  go_simp
                  exact ⟨Ext.refl _ _, rfl⟩
                · refine .inl ⟨by decide, by decide, ?_⟩
                  intro a' w' hx hs hd
                  obtain ⟨y, rfl⟩ := hx.ew
                  have e11 : a'.tmps[11]?.getD undef = _ := hs 11 rfl
                  simp only [List.getElem?_toArray, List.getElem?_cons_succ, List.getElem?_cons_zero, Option.getD_some, Array.getElem?_eq_some_iff] at e11
                  refine .inl ⟨rfl, ?_⟩
                  clear hs hd hx
                  go_simp
                  exact ⟨Ext.refl _ _, rfl⟩
                · refine .inl ⟨by decide, by decide, ?_⟩
                  intro a' w' hx hs hd
                  obtain ⟨y, rfl⟩ := hx.ew
                  have e87 : a'.tmps[87]?.getD undef = _ := hd 2 87 rfl rfl
                  have e88 : a'.tmps[88]?.getD undef = _ := hd 3 88 rfl rfl
                  refine .inl ⟨rfl, ?_⟩
                  clear hs hd hx
                  go_simp
                  exact ⟨Ext.refl _ _, rfl⟩
                · refine .inl ⟨by decide, by decide, ?_⟩
                  intro a' w' hx hs hd
                  obtain ⟨y, rfl⟩ := hx.ew
                  have e89 : a'.tmps[89]?.getD undef = _ := hd 4 89 rfl rfl
                  refine .inl ⟨rfl, ?_⟩
                  clear hs hd hx
                  go_simp
                  exact ⟨Ext.refl _ _, rfl⟩
                · refine .inl ⟨by decide, by decide, ?_⟩
                  intro a' w' hx hs hd
                  obtain ⟨y, rfl⟩ := hx.ew
                  have e90 : a'.tmps[90]?.getD undef = _ := hd 5 90 rfl rfl
                  refine .inl ⟨rfl, ?_⟩
                  clear hs hd hx
                  go_simp
                  exact ⟨Ext.refl _ _, rfl⟩
                · refine .inl ⟨by decide, by decide, ?_⟩
                  intro a' w' hx hs hd
                  obtain ⟨y, rfl⟩ := hx.ew
                  have e91 : a'.tmps[91]?.getD undef = _ := hd 6 91 rfl rfl
                  refine .inl ⟨rfl, ?_⟩
                  clear hs hd hx
                  go_simp
                  exact ⟨(Ext.refl _ _).alloc _, _, rfl, y.ext.size, Bx.newAt _ _ _ _ rfl⟩
                · refine .inr (.inl ⟨rfl, ?_⟩)
                  intro a' w' hx hst hs hd
                  obtain ⟨y, rfl⟩ := hx.ew
                  have e86 : a'.tmps[86]?.getD undef = _ := hd 1 86 rfl rfl
                  obtain ⟨k4, e92, hk4, hB4⟩ : ∃ k, a'.tmps[92]?.getD undef = .slice (some ⟨k, 0, none⟩) 1 1 ∧ wr.heap.size ≤ k ∧ Bx y.on k [.int .i64 sby, .string stx] 24 := hd 7 92 rfl rfl
                  refine ⟨rfl, ?_⟩
                  clear hs hd hx
                  exact rel_append_row _ _ 50 rfl nb 24 2 24 _ Try.underlying50 info_sig (by rfl) (by omega) (by omega) sv i2 row ((eval_tmp _ _).trans e86) hst k4 _ _ ((eval_tmp _ _).trans e92) hB4 rfl (by intro u hu; simp at hu; rcases hu with rfl | rfl <;> rfl) (by omega) (by have := y.ext.size; omega) (fun v' w' x o r => ⟨v', rfl, o, fun k hk => (r k hk).imp id (fun z => Nat.le_trans y.ext.size z)⟩)
                · refine .inl ⟨by decide, by decide, ?_⟩
                  intro a' w' hx hs hd
                  obtain ⟨y, rfl⟩ := hx.ew
                  have e9 : a'.tmps[9]?.getD undef = _ := hs 9 rfl
                  simp only [List.getElem?_toArray, List.getElem?_cons_succ, List.getElem?_cons_zero, Option.getD_some, Array.getElem?_eq_some_iff] at e9
                  refine .inl ⟨rfl, ?_⟩
                  clear hs hd hx
                  go_simp
                  exact ⟨Ext.refl _ _, rfl⟩
              case ma5 => exact ⟨.inr (Mo.is_still _ _), .inr (Mo.is_still _ _), .inr (Mo.is_still _ _), .inr (Mo.is_still _ _), .inr (Mo.is_still _ _), .inr (Mo.is_still _ _), .inr (Mo.is_still _ _), .inr (moOne_still HR2.out), .inl rfl, .inr (Mo.is_still _ _), trivial⟩
              case mb5 => exact ⟨.inr (Mo.mono _), .inr (Mo.mono _), .inr (Mo.mono _), .inr (Mo.mono _), .inr (Mo.mono _), .inr (Mo.mono _), .inr (Mo.mono _), .inr (Mo.mono _), .inr (Mo.mono _), .inr (Mo.mono _), trivial⟩
              case' q5 =>
                intro vs w' hx hRR
                obtain ⟨x9, rfl⟩ := hx.ew
                have q0 : vs 0 = _ := hRR 0 (by decide)
                have q1 : vs 1 = _ := hRR 1 (by decide)
                have q2 : vs 2 = _ := hRR 2 (by decide)
                have q3 : vs 3 = _ := hRR 3 (by decide)
                have q4 : vs 4 = _ := hRR 4 (by decide)
                have q5 : vs 5 = _ := hRR 5 (by decide)
                have q6 : vs 6 = _ := hRR 6 (by decide)
                obtain ⟨k4, q7, hk4, hB4⟩ : ∃ k, vs 7 = .slice (some ⟨k, 0, none⟩) 1 1 ∧ wr.heap.size ≤ k ∧ Bx x9.on k [.int .i64 sby, .string stx] 24 := hRR 7 (by decide)
                obtain ⟨u5, q8, hO5, hr5⟩ : ∃ u, vs 8 = u ∧ x9.on.ownsRow nb 24 2 u (i2 + 1) (row ++ ([.int .i64 sby, .string stx] : List Value)) ∧ ∀ k, Row u k → Row sv k ∨ wr.heap.size ≤ k := hRR 8 (by decide)
                have q9 : vs 9 = _ := hRR 9 (by decide)
                clear hRR hx
                simp only [putAll, List.take_succ_cons, List.take_zero, List.drop_succ_cons, List.drop_zero, Act.put, List.setIfInBounds_toArray, List.set_cons_zero, List.set_cons_succ, Nat.reduceAdd, Nat.zero_add]
                simp only [q0, q1, q2, q3, q4, q5, q6, q7, q8, q9]
                clear q0 q1 q2 q3 q4 q5 q6 q7 q8 q9 vs
              obtain ⟨ua, uc, hus⟩ := row_slice hO5
              subst hus
              have HB9 := Go.Lib.hid (BXi.out.ext x9.ext (fun q => by rcases q with q | q; rw [nk2] at q; exact q; exact q))
              have XO9 := Go.Lib.hid (XO.out.step x9.ext (fun k hk q => by rcases q with q | q; have := (HRV2.out k q).1; omega; exact q.elim))
              have HO9 := Go.Lib.hid hO5
              have HU9 : Hid (¬ Row (.slice ua (i2 + 1) uc) kx) := Go.Lib.hid (fun q => by rcases hr5 kx q with z | z; rw [nk2] at z; exact z; omega)
              clear hO5 hr5 hB4 hk4 q8 p9 p10 nk2 ng2 nn1 nn2
              generalize x9.on = w9 at *
              have y8 : w9.cell? ⟨kx, 8, none⟩ = some sv := HB9.out.cell rfl
              have f8 : w9.frozen? ⟨kx, 8, none⟩ = false := froz_of_heap HB9.out.h
              go_wp2_with fail
              have X1 : Ext (One kx) w9 (w9.setCell ⟨kx, 8, none⟩ (.slice ua (i2 + 1) uc)) := (Ext.refl _ _).set1 _
              go_roundg (N2 - (i2 + 1))
              case measure => have := HG2.out; omega
              case rel => exact ⟨i2 + 1, .slice ua (i2 + 1) uc, hlt2, rfl, by go_num, Go.Lib.hid (XO9.out.trans X1), Go.Lib.hid (HB9.out.set (j := 8) (.slice ua (i2 + 1) uc)), Go.Lib.hid (by rw [TK.out]; exact ownR_ext HO9.out X1 (fun k hk q => by have q : k = kx := q; subst q; exact HU9.out hk))⟩
            · obtain rfl : i2 = N2 := by omega
              have h1 := ROWi.out
              rw [HN2.out, List.take_length] at h1
              obtain ⟨sa, sc, rfl, hsg⟩ := sigs_of_own h1 (sigsR_len LW).symm (fun s hs => by
                unfold sigsR at hs
                obtain ⟨v, hv, rfl⟩ := List.mem_map.1 hs
                exact (VOK.out v hv).2)
              have HSG := Go.Lib.hid hsg
              have HSR := Go.Lib.hid (own_row h1)
              obtain ⟨SL, hSL⟩ : ∃ SL, SL = sigsR LW := ⟨_, rfl⟩
              have HSL := Go.Lib.hid hSL
              have hsl1 : LW.length = SL.length := by rw [hSL]; exact (sigsR_len LW).symm
              rw [← hSL] at HSG
              obtain ⟨nl, hnl⟩ : ∃ nl, nl = LW.length := ⟨_, rfl⟩
              rw [← hnl] at HSR BXi hsl1
              have HSLL := Go.Lib.hid hsl1
              clear h1 hsg hSL ROWi hnl hsl1
              have hkw : ∀ k, LoF b G k → k ≠ kx := fun k q e => by have := HLOW.out k q; omega
              have Q8 := Go.Lib.hid (Q7.out.ext XO.out (fun k q e => hkw k q e))
              have BQ8 := Go.Lib.hid (BQ7.out.ext XO.out (fun e => by have e : kq = kx := e; omega))
              have HOR := Go.Lib.hid (own_row HO7.out)
              have HOV := Go.Lib.hid (fun k q => HOR4.out k q)
              have HO8 := Go.Lib.hid (ownR_ext HO7.out XO.out (fun k hk e => by have e : k = kx := e; have := (HOR4.out k hk).2; omega))
              have XW8 := Go.Lib.hid (XW7.out.step XO.out (fun k hk e => by have e : k = kx := e; omega))
              have hnw : w7.heap.size ≤ wr.heap.size := XO.out.size
              have hLl : L.length ≤ 1000000 := by
                rw [HLE.out]
                have h2 : (othC ka n).length ≤ ka.length := List.length_filter_le _ _
                rw [← HK.out] at h2
                omega
              have nv1 : Row u6 b = False := by simp only [eq_iff_iff, iff_false]; intro q; have := (HOR4.out b q).1; omega
              have nv2 : Row u6 kx = False := by simp only [eq_iff_iff, iff_false]; intro q; have := (HOR4.out kx q).2; omega
              have nn1 : Non b = False := rfl
              clear Q7 BQ7 HO7 XW7 HOR XO hkw
              have y0 : wr.cell? ⟨kx, 0, none⟩ = some (.int .i64 m.view) := BXi.out.cell rfl
              have y1 : wr.cell? ⟨kx, 1, none⟩ = some (.int .i64 n) := BXi.out.cell rfl
              have y2 : wr.cell? ⟨kx, 2, none⟩ = some (.int .i64 rc) := BXi.out.cell rfl
              have y3 : wr.cell? ⟨kx, 3, none⟩ = some (.int .i64 rs) := BXi.out.cell rfl
              have y4 : wr.cell? ⟨kx, 4, none⟩ = some (.int .i64 rk) := BXi.out.cell rfl
              have y5 : wr.cell? ⟨kx, 5, none⟩ = some (.string rkey) := BXi.out.cell rfl
              have y6 : wr.cell? ⟨kx, 6, none⟩ = some (.float .f64 rx) := BXi.out.cell rfl
              have y7 : wr.cell? ⟨kx, 7, none⟩ = some (.int .i64 rid) := BXi.out.cell rfl
              have y8 : wr.cell? ⟨kx, 8, none⟩ = some (.slice sa nl sc) := BXi.out.cell rfl
              have y9 : wr.cell? ⟨b, 5, none⟩ = some (.slice a3 ka.length c3) := Q8.out.c5
              have f9 : wr.frozen? ⟨b, 5, none⟩ = false := Q8.out.fz 5
              obtain ⟨ns, hns⟩ : ∃ ns, ns = wr.heap.size := ⟨_, rfl⟩
              go_upto_region 19 with (at_builtin; refine wpList_append_row rfl _ _ 22 rfl n1 52 9 96 _ Try.underlying22 info_cert3 (by rfl) (by omega) (by omega) u6 L.length _ rfl (ownR_extN HO8.out (by (repeat (first | with_reducible (first | exact Ext.refl _ _ | assumption | refine Ext.upN ?_ | refine Ext.alloc ?_ _ | refine Ext.drew ?_ | refine Ext.drewN ?_ _ | refine Ext.upF ?_ | refine Ext.upFF (by first | omega | simp) ?_ | refine Ext.setCellsF _ _ _ (by first | omega | simp) ?_ | refine Ext.setCellF _ _ _ (by first | omega | simp) ?_ | refine Ext.upFN (by first | omega | simp) ?_ | refine Ext.up1F (by first | omega | simp) ?_ | refine Ext.up1N (by first | omega | simp) ?_) | refine Ext.alloc ?_ _ | refine Ext.setCellF _ _ _ (by first | omega | simp) ?_ | refine Ext.setCell ?_ (.inr (by first | omega | simp)) _)))) wr.heap.size [.int .i64 m.view, .int .i64 n, .int .i64 rc, .int .i64 rs, .int .i64 rk, .string rkey, .float .f64 rx, .int .i64 rid, .slice sa nl sc] _ rfl (Bx.newAt _ _ _ _ rfl) rfl (by simp [Value.oneCell']) (by omega) (by simp; omega) (fun v' W2 hO hro => ?_); obtain ⟨va, vc, hvv⟩ := row_slice hO; subst hvv; have HO9 := Go.Lib.hid hO; have HR9 := Go.Lib.hid hro; clear hO hro; have X9 := Go.Lib.hid (((Ext.refl (Row u6) wr).alloc _).trans W2.ext); have y10 : W2.on.cell? ⟨b, 5, none⟩ = some (.slice a3 ka.length c3) := X9.out.cell (p := ⟨b, 5, none⟩) Q8.out.bx.lt (fun q => by rw [nv1] at q; exact q) |>.trans y9; have f10 : W2.on.frozen? ⟨b, 5, none⟩ = false := froz_of_heap (Q8.out.bx.ext X9.out (fun q => by rw [nv1] at q; exact q)).h)
              clear y0 y1 y2 y3 y4 y5 y6 y7 y8 y9 y10 f9 f10
              have hbg : ∀ k, G k → k < w.heap.size := fun k q => HLOW.out k (.inr q)
              have hrow9 : ∀ k, Row (.slice va (L.length + 1) vc) k → w.heap.size ≤ k := fun k q => by
                rcases HR9.out k q with h | h
                · have := (HOV.out k h).1; omega
                · simp at h; omega
              have hun : ∀ k, G k → ¬ Row u6 k := fun k h q => by have := (HOV.out k q).1; have := hbg k h; omega
              have Q9 := Go.Lib.hid (Q8.out.ext X9.out (fun k q => by
                rcases q with q | q
                · rw [q, nv1]; exact fun f => f
                · exact hun k q))
              have BQ9 := Go.Lib.hid (BQ8.out.ext X9.out (fun q => by have := (HOV.out kq q).1; omega))
              have hkx9 : kq < W2.on.heap.size := BQ9.out.lt
              obtain ⟨ka5, hka5⟩ : ∃ ka5, ka5 = L ++ [((⟨m.view, n, ⟨rc, rs, ⟨rk, rkey, rx, rid⟩⟩, SL⟩, sa, sc) : CtR)] := ⟨_, rfl⟩
              have hkl : ka5.length = L.length + 1 := by rw [hka5]; simp
              have hkm5 : ka5.map (·.1) = keptR m n ⟨rc, rs, ⟨rk, rkey, rx, rid⟩⟩ := by
                rw [hka5, List.map_append, HLE.out, othC_map, HKM.out]
                unfold keptR
                rw [HNS.out, HSL.out, HLW.out]
                rfl
              have hck5 : ∀ q ∈ ka5, CtOk W2.on q ∧ ∀ k o, q.2.1 = some ⟨k, o, none⟩ → S k ∨ (w.heap.size ≤ k ∧ k < W2.on.heap.size ∧ ¬ Row (.slice va (L.length + 1) vc) k) := fun q hq => by
                rw [hka5] at hq
                rcases List.mem_append.1 hq with hq | hq
                · rw [HLE.out] at hq
                  have h1 := Q8.out.ck q (List.mem_filter.1 hq).1
                  exact ⟨h1.1.ext X9.out (fun k o e => hun k (Q8.out.sG k (h1.2 k o e))), fun k o e => .inl (h1.2 k o e)⟩
                · rw [List.mem_singleton.1 hq]
                  have hr1 : ∀ k o, sa = some ⟨k, o, none⟩ → nb ≤ k ∧ k < wr.heap.size := fun k o e => HSR.out k (by rw [e]; simp [Row, Value.ownBlock])
                  have hr2 : ∀ k o, sa = some ⟨k, o, none⟩ → ¬ Row u6 k := fun k o e q => by have h1 := (HOV.out k q).2; have h2 := (hr1 k o e).1; omega
                  have h0 : CtOk wr ((⟨m.view, n, ⟨rc, rs, ⟨rk, rkey, rx, rid⟩⟩, SL⟩, sa, sc) : CtR) := ⟨HSG.out, HR.out, HF.out.vw, HN64.out⟩
                  refine ⟨h0.ext X9.out hr2, fun k o e => .inr ⟨by have := (hr1 k o e).1; omega, Nat.lt_of_lt_of_le (hr1 k o e).2 X9.out.size, fun q => ?_⟩⟩
                  rcases HR9.out k q with h | h
                  · exact hr2 k o e h
                  · have := (hr1 k o e).2; simp at h; omega
              have ho5 : W2.on.ownsRow 0 52 9 (.slice va (L.length + 1) vc) ka5.length (ka5.flatMap ctRow) := by
                have e5 : ka5.flatMap ctRow = L.flatMap ctRow ++ ctRow (⟨m.view, n, ⟨rc, rs, ⟨rk, rkey, rx, rid⟩⟩, SL⟩, sa, sc) := by rw [hka5, List.flatMap_append]; simp
                have e6 : ctRow (⟨m.view, n, ⟨rc, rs, ⟨rk, rkey, rx, rid⟩⟩, SL⟩, sa, sc) = ([.int .i64 m.view, .int .i64 n, .int .i64 rc, .int .i64 rs, .int .i64 rk, .string rkey, .float .f64 rx, .int .i64 rid, .slice sa nl sc] : List Value) := by rw [HSLL.out]; rfl
                have h1 := ownR_base HO9.out (Nat.zero_le _)
                rw [e5, e6, hkl]
                exact h1
              have PK := Go.Lib.hid (Q9.out.putK HLOW.out ho5 hrow9 hkm5 hck5)
              have X5 : Hid (Ext (LoF b G) w (W2.on.setCell ⟨b, 5, none⟩ (.slice va (L.length + 1) vc))) := Go.Lib.hid ((XW8.out.ofNon.step X9.out (fun k hk q => by have := (HOV.out k q).1; omega)).step ((Ext.refl (One b) _).set1 _) (fun k hk q => .inl q))
              have HKQ5 : Hid (¬ Row v4 kq) := Go.Lib.hid (fun h => HKQ.out (.inr (Q9.out.low.2.2.2 kq h)))
              have BQ5 : Hid (Bx (W2.on.setCell ⟨b, 5, none⟩ (.slice va (L.length + 1) vc)) kq [.int .i64 rc, .int .i64 rs, .int .i64 rk, .string rkey, .float .f64 rx, .int .i64 rid] 49) := Go.Lib.hid (BQ9.out.ext ((Ext.refl (One b) _).set1 _) (fun e => by have e : kq = b := e; exact HKQ.out (.inl e)))
              obtain ⟨m5, hm5⟩ : ∃ m5 : RL14, m5 = { m with kept := keptR m n ⟨rc, rs, ⟨rk, rkey, rx, rid⟩⟩ } := ⟨_, rfl⟩
              have HLK : Hid (lookR m n = { m5 with done := doneR m n ⟨rc, rs, ⟨rk, rkey, rx, rid⟩⟩ }) := Go.Lib.hid (by rw [HLK0.out, hm5])
              have H5D : Hid (m5.done = m.done) := Go.Lib.hid (by rw [hm5])
              have H5M : Hid (m5.mem = m.mem) := Go.Lib.hid (by rw [hm5])
              have H5V : Hid (m5.votes = m.votes) := Go.Lib.hid (by rw [hm5])
              rw [← hm5] at PK
              obtain ⟨G5, hG5⟩ : ∃ G5, G5 = GrG G w.heap.size W2.on.heap.size := ⟨_, rfl⟩
              rw [← hG5] at PK
              have HG5 : Hid (∀ k, G5 k → G k ∨ w.heap.size ≤ k) := Go.Lib.hid (fun k h => by
                rw [hG5] at h
                rcases h with h | ⟨h, _⟩
                · exact .inl h
                · exact .inr h)
              have Q5 := PK
              have hbw2 : w.heap.size ≤ W2.on.heap.size := Nat.le_trans XW8.out.size X9.out.size
              clear hka5 hkl hkm5 hck5 ho5 hm5 hG5 PK hrow9 hun Q9 BQ9 HO9 HR9 X9 HSG HSR HSL HSLL HOV HO8 XW8 Q8 BQ8 nv1 nv2 nn1 hbg hkx9 HVS HVR BXi
              generalize W2.on.setCell ⟨b, 5, none⟩ (.slice va (L.length + 1) vc) = w5 at *
              have W5 : R14W w5 b G5 m5 := ⟨_, _, _, _, _, _, _, _, Q5.out⟩
              have KC := Go.Lib.hid (ref14_Committed b G5 m5 n w5 W5)
              rw [H5D.out] at KC
              have KW2 := Go.Lib.hid (fun w' (x : Ext Non w5 w') => ref14_who b G5 m5 true n ⟨rc, rs, ⟨rk, rkey, rx, rid⟩⟩ HR.out (by rw [H5M.out]; exact HF.out.mem) (by rw [H5V.out]; exact HF.out.votes) w' (W5.extN x))
              rw [H5M.out, H5V.out] at KW2
              have qc1 := Q5.out.c1
              rw [H5M.out] at qc1
              have hbw5 : b < w5.heap.size := W5.lt.1
              clear W5
              obtain ⟨od, hod⟩ : ∃ od, od = getG m.done n := ⟨_, rfl⟩
              have HOD := Go.Lib.hid hod
              rw [← hod] at KC
              clear hod
              obtain ⟨wl, hwl⟩ : ∃ wl, wl = (whoR m.mem m.votes true n ⟨rc, rs, ⟨rk, rkey, rx, rid⟩⟩).length := ⟨_, rfl⟩
              have HWL := Go.Lib.hid hwl
              have hwb : wl ≤ 100000 := by
                have h1 := whoR_len m.votes true n ⟨rc, rs, ⟨rk, rkey, rx, rid⟩⟩ m.mem
                have h5 : m.mem.length * m.votes.length ≤ 100 * 1000 := Nat.mul_le_mul HF.out.mem HF.out.votes
                omega
              have KW3 : Hid (∀ w', Ext Non w5 w' → Calls Try.prog 127 #[.pointer (some ⟨b, 0, none⟩), .bool true, .int .i64 n, reqV ⟨rc, rs, ⟨rk, rkey, rx, rid⟩⟩] w' fun e w'' => (∃ a c, e = .returned (.slice a wl c)) ∧ Ext Non w' w'') := Go.Lib.hid (fun w' x => (KW2.out w' x).mono fun e w'' ⟨v, he, ho, hx⟩ => by
                obtain ⟨a', c', hv⟩ := row_slice ho
                exact ⟨⟨a', c', by rw [he, hv, hwl]⟩, hx⟩)
              have HEQ : Hid (enoughB m.mem wl = decide (quorumI (m.mem.length : Int) ≤ (wl : Int))) := Go.Lib.hid rfl
              have HDN : Hid (doneR m n ⟨rc, rs, ⟨rk, rkey, rx, rid⟩⟩ = if od.isNone && enoughB m.mem wl then m.done ++ [(n, ⟨rc, rs, ⟨rk, rkey, rx, rid⟩⟩)] else m.done) := Go.Lib.hid (by unfold doneR; rw [HOD.out, HWL.out])
              clear hwl KW2
              have HML : Hid (m.mem.length = ml) := Go.Lib.hid HMLN.out
              rw [HML.out] at HEQ qc1
              have KQ := Go.Lib.hid (fun w' => ref_Quorum (ml : Int) (by omega) (by omega) w')
              generalize quorumI (ml : Int) = qu at *
              unfold toldV reqV at KC
              unfold reqV at KW3
              simp only at KW3
              obtain ⟨o0, ho0⟩ : ∃ o0, o0 = od.getD nullR := ⟨_, rfl⟩
              rw [← ho0] at KC
              clear ho0
              obtain ⟨oc, os, ⟨ok, okey, ox, oid⟩⟩ := o0
              simp only at KC
              go_wp2_with fail
              refine Calls.ew KC.out ?_
              rintro e x6 rfl
              go_upto_region 20 with (refine wpList_store_box rfl 49 _ _ rfl x6.on.heap.size _ [.int .i64 oc, .int .i64 os, .int .i64 ok, .string okey, .float .f64 ox, .int .i64 oid] _ rfl rfl (Bx.newAt _ _ _ _ rfl) rfl info_req6 (by simp [Value.oneCell']) (fun W hB => ?_); have BZ7 := Go.Lib.hid hB; clear hB)
              have X7 := Go.Lib.hid ((by (repeat (first | with_reducible (first | exact Ext.refl _ _ | assumption | refine Ext.upN ?_ | refine Ext.alloc ?_ _ | refine Ext.drew ?_ | refine Ext.drewN ?_ _ | refine Ext.upF ?_ | refine Ext.upFF (by first | omega | simp) ?_ | refine Ext.setCellsF _ _ _ (by first | omega | simp) ?_ | refine Ext.setCellF _ _ _ (by first | omega | simp) ?_ | refine Ext.upFN (by first | omega | simp) ?_ | refine Ext.up1F (by first | omega | simp) ?_ | refine Ext.up1N (by first | omega | simp) ?_) | refine Ext.alloc ?_ _ | refine Ext.setCellF _ _ _ (by first | omega | simp) ?_ | refine Ext.setCell ?_ (.inr (by first | omega | simp)) _)) : Ext Non w5 x6.on).trans (by (repeat (first | with_reducible (first | exact Ext.refl _ _ | assumption | refine Ext.upN ?_ | refine Ext.alloc ?_ _ | refine Ext.drew ?_ | refine Ext.drewN ?_ _ | refine Ext.upF ?_ | refine Ext.upFF (by first | omega | simp) ?_ | refine Ext.setCellsF _ _ _ (by first | omega | simp) ?_ | refine Ext.setCellF _ _ _ (by first | omega | simp) ?_ | refine Ext.upFN (by first | omega | simp) ?_ | refine Ext.up1F (by first | omega | simp) ?_ | refine Ext.up1N (by first | omega | simp) ?_) | refine Ext.alloc ?_ _ | refine Ext.setCellF _ _ _ (by first | omega | simp) ?_ | refine Ext.setCell ?_ (.inr (by first | omega | simp)) _)) : Ext Non x6.on W.on))
              try simp only [Act.put]
              clear BZ7
              have C1 : W.on.cell? ⟨b, 0 + 1, none⟩ = some (.slice a ml c) := (X7.out.cell (p := ⟨b, 0 + 1, none⟩) hbw5 (fun f => f)).trans qc1
              simp only [Nat.zero_add] at C1
              have BR7 := Go.Lib.hid (BQ5.out.extN X7.out)
              have Q7 := Go.Lib.hid (Q5.out.extN X7.out)
              have XT := Go.Lib.hid (X5.out.trans X7.out.ofNon)
              generalize x6.on.heap.size = kz at *
              generalize W.on = w7 at *
              clear qc1
              have z0 : w7.cell? ⟨kq, 0, none⟩ = some (.int .i64 rc) := BR7.out.cell rfl
              have z1 : w7.cell? ⟨kq, 1, none⟩ = some (.int .i64 rs) := BR7.out.cell rfl
              have z2 : w7.cell? ⟨kq, 2, none⟩ = some (.int .i64 rk) := BR7.out.cell rfl
              have z3 : w7.cell? ⟨kq, 3, none⟩ = some (.string rkey) := BR7.out.cell rfl
              have z4 : w7.cell? ⟨kq, 4, none⟩ = some (.float .f64 rx) := BR7.out.cell rfl
              have z5 : w7.cell? ⟨kq, 5, none⟩ = some (.int .i64 rid) := BR7.out.cell rfl
              cases od with
              | some y =>
                have FIN : Hid (lookR m n = m5) := Go.Lib.hid (by rw [HLK.out, HDN.out]; simp; rw [← H5D.out])
                simp only [Option.isSome_some]
                (refine wp_region_ext_lit (by kernel_rfl) (by kernel_rfl) ?_)
                ((try simp only [Bool.not_true, Bool.not_false, Bool.or_false, Bool.or_true, Bool.false_or, Bool.true_or, Bool.and_true, Bool.true_and, Bool.and_false, Bool.false_and]); (repeat (go_big_quiet_step (fail))))
                (refine wpQuiet_nil ?_; intro _ hw'; obtain ⟨xq, hw''⟩ := hw'; subst hw'')
                go_wp2
                go_returns
                refine ⟨rfl, G5, ?_, HG5.out, XT.out.trans xq.ext.ofNon⟩
                rw [FIN.out]
                exact ⟨_, _, _, _, _, _, _, _, Q7.out.extN xq.ext⟩
              | none =>
                simp only [Option.isSome_none]
                have HDN2 := Go.Lib.hid HDN.out
                by_cases hen : qu ≤ (wl : Int)
                · have d1 : decide (qu ≤ (wl : Int)) = true := decide_eq_true hen
                  have FIN : Hid (lookR m n = { m5 with done := m5.done ++ [(n, ⟨rc, rs, ⟨rk, rkey, rx, rid⟩⟩)] }) := Go.Lib.hid (by rw [HLK.out, HDN.out, HEQ.out, d1, H5D.out]; simp)
                  apply wp_region_rel (relR [Mo.is _, Mo.is _, Mo.is _, Mo.is _, Mo.is _, Mo.is _, moSl wl, Mo.is _, Mo.is _, Mo.is _, Mo.is _, Mo.is _, Mo.is _, Mo.is _, Mo.is _, Mo.is _, Mo.is _]) (by kernel_rfl) (by kernel_rfl) (by kernel_rfl) (relR_mono _) (StepD.all ?st6) ?q6
                  case st6 =>
                    refine ⟨?_, ?_, ?_, ?_, ?_, ?_, ?_, ?_, ?_, ?_, ?_, ?_, ?_, ?_, ?_, ?_, ?_, trivial⟩
                    · intro a' w' hx hs hd
                      obtain ⟨y, rfl⟩ := hx.ew
                      have e13 : a'.tmps[13]?.getD undef = _ := hs 13 rfl
                      simp only [List.getElem?_toArray, List.getElem?_cons_succ, List.getElem?_cons_zero, Option.getD_some, Array.getElem?_eq_some_iff] at e13
                      refine .inl ⟨rfl, ?_⟩
                      clear hs hd hx
                      go_simp
                      exact ⟨Ext.refl _ _, rfl⟩
                    · intro a' w' hx hs hd
                      obtain ⟨y, rfl⟩ := hx.ew
                      have e108 : a'.tmps[108]?.getD undef = _ := hd 0 108 rfl rfl
                      refine .inl ⟨rfl, ?_⟩
                      clear hs hd hx
                      go_simp
                      exact ⟨Ext.refl _ _, rfl⟩
                    · intro a' w' hx hs hd
                      obtain ⟨y, rfl⟩ := hx.ew
                      have e109 : a'.tmps[109]?.getD undef = _ := hd 1 109 rfl rfl
                      refine .inl ⟨rfl, ?_⟩
                      clear hs hd hx
                      go_simp
                      exact ⟨Ext.refl _ _, rfl⟩
                    · intro a' w' hx hs hd
                      obtain ⟨y, rfl⟩ := hx.ew
                      have eg : a'.tmps[110]?.getD undef = _ := hd 2 110 rfl rfl
                      first
                      | (refine .inr ⟨unwanted_of (j := 2) (d := 110) rfl rfl eg (by rfl), ?_⟩; exact (rfl : (Mo.is undef).p undef y.on))
                      | (refine .inr ⟨unwanted_und (j := 2) (d := 110) rfl rfl eg, ?_⟩; exact (rfl : (Mo.is undef).p undef y.on))
                      | (have e0 : a'.tmps[0]?.getD undef = _ := hs 0 rfl; simp only [List.getElem?_toArray, List.getElem?_cons_succ, List.getElem?_cons_zero, Option.getD_some, Array.getElem?_eq_some_iff] at e0; refine .inl ⟨wanted_of (j := 2) (d := 110) rfl rfl eg, ?_⟩; clear hs hd hx eg; go_simp; exact ⟨Ext.refl _ _, rfl⟩)
                    · intro a' w' hx hs hd
                      obtain ⟨y, rfl⟩ := hx.ew
                      have eg : a'.tmps[110]?.getD undef = _ := hd 2 110 rfl rfl
                      first
                      | (refine .inr ⟨unwanted_of (j := 2) (d := 110) rfl rfl eg (by rfl), ?_⟩; exact (rfl : (Mo.is undef).p undef y.on))
                      | (refine .inr ⟨unwanted_und (j := 2) (d := 110) rfl rfl eg, ?_⟩; exact (rfl : (Mo.is undef).p undef y.on))
                      | (have e1 : a'.tmps[1]?.getD undef = _ := hs 1 rfl; simp only [List.getElem?_toArray, List.getElem?_cons_succ, List.getElem?_cons_zero, Option.getD_some, Array.getElem?_eq_some_iff] at e1; refine .inl ⟨wanted_of (j := 2) (d := 110) rfl rfl eg, ?_⟩; clear hs hd hx eg; go_simp; exact ⟨Ext.refl _ _, rfl⟩)
                    · intro a' w' hx hs hd
                      obtain ⟨y, rfl⟩ := hx.ew
                      have eg : a'.tmps[110]?.getD undef = _ := hd 2 110 rfl rfl
                      first
                      | (refine .inr ⟨unwanted_of (j := 2) (d := 110) rfl rfl eg (by rfl), ?_⟩; exact (rfl : (Mo.is undef).p undef y.on))
                      | (refine .inr ⟨unwanted_und (j := 2) (d := 110) rfl rfl eg, ?_⟩; exact (rfl : (Mo.is undef).p undef y.on))
                      | (have e4 : a'.tmps[4]?.getD undef = _ := hs 4 rfl; simp only [List.getElem?_toArray, List.getElem?_cons_succ, List.getElem?_cons_zero, Option.getD_some, Array.getElem?_eq_some_iff] at e4; refine .inl ⟨wanted_of (j := 2) (d := 110) rfl rfl eg, ?_⟩; clear hs hd hx eg; go_simp; exact ⟨Ext.refl _ _, rfl⟩)
                    · intro a' w' hx hs hd
                      obtain ⟨y, rfl⟩ := hx.ew
                      have eg : a'.tmps[110]?.getD undef = _ := hd 2 110 rfl rfl
                      first
                      | (refine .inr ⟨unwanted_of (j := 2) (d := 110) rfl rfl eg (by rfl), ?_⟩; exact (rfl : (Mo.is undef).p undef y.on))
                      | (refine .inr ⟨unwanted_und (j := 2) (d := 110) rfl rfl eg, ?_⟩; exact (rfl : (Mo.is undef).p undef y.on))
                      | (have e111 : a'.tmps[111]?.getD undef = _ := hd 3 111 rfl rfl; have e112 : a'.tmps[112]?.getD undef = _ := hd 4 112 rfl rfl; have e113 : a'.tmps[113]?.getD undef = _ := hd 5 113 rfl rfl; refine .inl ⟨wanted_of (j := 2) (d := 110) rfl rfl eg, ?_⟩; clear hs hd hx eg; go_simp; exact (KW3.out _ (X7.out.trans (by (repeat (first | with_reducible (first | exact Ext.refl _ _ | assumption | refine Ext.upN ?_ | refine Ext.alloc ?_ _ | refine Ext.drew ?_ | refine Ext.drewN ?_ _ | refine Ext.upF ?_ | refine Ext.upFF (by first | omega | simp) ?_ | refine Ext.setCellsF _ _ _ (by first | omega | simp) ?_ | refine Ext.setCellF _ _ _ (by first | omega | simp) ?_ | refine Ext.upFN (by first | omega | simp) ?_ | refine Ext.up1F (by first | omega | simp) ?_ | refine Ext.up1N (by first | omega | simp) ?_) | refine Ext.alloc ?_ _ | refine Ext.setCellF _ _ _ (by first | omega | simp) ?_ | refine Ext.setCell ?_ (.inr (by first | omega | simp)) _))))).mono (fun e w'' ⟨⟨a', c', he⟩, hx⟩ => ⟨_, he, hx, a', c', rfl⟩))
                    · intro a' w' hx hs hd
                      obtain ⟨y, rfl⟩ := hx.ew
                      have eg : a'.tmps[110]?.getD undef = _ := hd 2 110 rfl rfl
                      first
                      | (refine .inr ⟨unwanted_of (j := 2) (d := 110) rfl rfl eg (by rfl), ?_⟩; exact (rfl : (Mo.is undef).p undef y.on))
                      | (refine .inr ⟨unwanted_und (j := 2) (d := 110) rfl rfl eg, ?_⟩; exact (rfl : (Mo.is undef).p undef y.on))
                      | (obtain ⟨a5, c5, e114⟩ : ∃ a c, a'.tmps[114]?.getD undef = .slice a wl c := hd 6 114 rfl rfl; refine .inl ⟨wanted_of (j := 2) (d := 110) rfl rfl eg, ?_⟩; clear hs hd hx eg; go_simp; exact ⟨Ext.refl _ _, rfl⟩)
                    · intro a' w' hx hs hd
                      obtain ⟨y, rfl⟩ := hx.ew
                      have eg : a'.tmps[110]?.getD undef = _ := hd 2 110 rfl rfl
                      first
                      | (refine .inr ⟨unwanted_of (j := 2) (d := 110) rfl rfl eg (by rfl), ?_⟩; exact (rfl : (Mo.is undef).p undef y.on))
                      | (refine .inr ⟨unwanted_und (j := 2) (d := 110) rfl rfl eg, ?_⟩; exact (rfl : (Mo.is undef).p undef y.on))
                      | (have e0 : a'.tmps[0]?.getD undef = _ := hs 0 rfl; simp only [List.getElem?_toArray, List.getElem?_cons_succ, List.getElem?_cons_zero, Option.getD_some, Array.getElem?_eq_some_iff] at e0; refine .inl ⟨wanted_of (j := 2) (d := 110) rfl rfl eg, ?_⟩; clear hs hd hx eg; go_simp; exact ⟨Ext.refl _ _, rfl⟩)
                    · intro a' w' hx hs hd
                      obtain ⟨y, rfl⟩ := hx.ew
                      have eg : a'.tmps[110]?.getD undef = _ := hd 2 110 rfl rfl
                      first
                      | (refine .inr ⟨unwanted_of (j := 2) (d := 110) rfl rfl eg (by rfl), ?_⟩; exact (rfl : (Mo.is undef).p undef y.on))
                      | (refine .inr ⟨unwanted_und (j := 2) (d := 110) rfl rfl eg, ?_⟩; exact (rfl : (Mo.is undef).p undef y.on))
                      | (have e116 : a'.tmps[116]?.getD undef = _ := hd 8 116 rfl rfl; refine .inl ⟨wanted_of (j := 2) (d := 110) rfl rfl eg, ?_⟩; clear hs hd hx eg; go_simp; exact ⟨Ext.refl _ _, rfl⟩)
                    · intro a' w' hx hs hd
                      obtain ⟨y, rfl⟩ := hx.ew
                      have eg : a'.tmps[110]?.getD undef = _ := hd 2 110 rfl rfl
                      first
                      | (refine .inr ⟨unwanted_of (j := 2) (d := 110) rfl rfl eg (by rfl), ?_⟩; exact (rfl : (Mo.is undef).p undef y.on))
                      | (refine .inr ⟨unwanted_und (j := 2) (d := 110) rfl rfl eg, ?_⟩; exact (rfl : (Mo.is undef).p undef y.on))
                      | (have e117 : a'.tmps[117]?.getD undef = _ := hd 9 117 rfl rfl; refine .inl ⟨wanted_of (j := 2) (d := 110) rfl rfl eg, ?_⟩; clear hs hd hx eg; go_simp; exact ⟨Ext.refl _ _, rfl⟩)
                    · intro a' w' hx hs hd
                      obtain ⟨y, rfl⟩ := hx.ew
                      have eg : a'.tmps[110]?.getD undef = _ := hd 2 110 rfl rfl
                      first
                      | (refine .inr ⟨unwanted_of (j := 2) (d := 110) rfl rfl eg (by rfl), ?_⟩; exact (rfl : (Mo.is undef).p undef y.on))
                      | (refine .inr ⟨unwanted_und (j := 2) (d := 110) rfl rfl eg, ?_⟩; exact (rfl : (Mo.is undef).p undef y.on))
                      | (have e118 : a'.tmps[118]?.getD undef = _ := hd 10 118 rfl rfl; refine .inl ⟨wanted_of (j := 2) (d := 110) rfl rfl eg, ?_⟩; clear hs hd hx eg; go_simp; exact ⟨Ext.refl _ _, rfl⟩)
                    · intro a' w' hx hs hd
                      obtain ⟨y, rfl⟩ := hx.ew
                      have eg : a'.tmps[110]?.getD undef = _ := hd 2 110 rfl rfl
                      first
                      | (refine .inr ⟨unwanted_of (j := 2) (d := 110) rfl rfl eg (by rfl), ?_⟩; exact (rfl : (Mo.is undef).p undef y.on))
                      | (refine .inr ⟨unwanted_und (j := 2) (d := 110) rfl rfl eg, ?_⟩; exact (rfl : (Mo.is undef).p undef y.on))
                      | (have e119 : a'.tmps[119]?.getD undef = _ := hd 11 119 rfl rfl; refine .inl ⟨wanted_of (j := 2) (d := 110) rfl rfl eg, ?_⟩; clear hs hd hx eg; go_simp; exact ⟨Ext.refl _ _, rfl⟩)
                    · intro a' w' hx hs hd
                      obtain ⟨y, rfl⟩ := hx.ew
                      have eg : a'.tmps[110]?.getD undef = _ := hd 2 110 rfl rfl
                      first
                      | (refine .inr ⟨unwanted_of (j := 2) (d := 110) rfl rfl eg (by rfl), ?_⟩; exact (rfl : (Mo.is undef).p undef y.on))
                      | (refine .inr ⟨unwanted_und (j := 2) (d := 110) rfl rfl eg, ?_⟩; exact (rfl : (Mo.is undef).p undef y.on))
                      | (have e120 : a'.tmps[120]?.getD undef = _ := hd 12 120 rfl rfl; refine .inl ⟨wanted_of (j := 2) (d := 110) rfl rfl eg, ?_⟩; clear hs hd hx eg; go_simp; exact ⟨Ext.refl _ _, rfl⟩)
                    · intro a' w' hx hs hd
                      obtain ⟨y, rfl⟩ := hx.ew
                      have eg : a'.tmps[110]?.getD undef = _ := hd 2 110 rfl rfl
                      first
                      | (refine .inr ⟨unwanted_of (j := 2) (d := 110) rfl rfl eg (by rfl), ?_⟩; exact (rfl : (Mo.is undef).p undef y.on))
                      | (refine .inr ⟨unwanted_und (j := 2) (d := 110) rfl rfl eg, ?_⟩; exact (rfl : (Mo.is undef).p undef y.on))
                      | (have e121 : a'.tmps[121]?.getD undef = _ := hd 13 121 rfl rfl; refine .inl ⟨wanted_of (j := 2) (d := 110) rfl rfl eg, ?_⟩; clear hs hd hx eg; go_simp; exact (KQ.out _).mono (fun e w'' ⟨he, hx⟩ => ⟨_, he, by rw [hx]; exact Ext.refl _ _, rfl⟩))
                    · intro a' w' hx hs hd
                      obtain ⟨y, rfl⟩ := hx.ew
                      have eg : a'.tmps[110]?.getD undef = _ := hd 2 110 rfl rfl
                      first
                      | (refine .inr ⟨unwanted_of (j := 2) (d := 110) rfl rfl eg (by rfl), ?_⟩; exact (rfl : (Mo.is undef).p undef y.on))
                      | (refine .inr ⟨unwanted_und (j := 2) (d := 110) rfl rfl eg, ?_⟩; exact (rfl : (Mo.is undef).p undef y.on))
                      | (have e115 : a'.tmps[115]?.getD undef = _ := hd 7 115 rfl rfl; have e122 : a'.tmps[122]?.getD undef = _ := hd 14 122 rfl rfl; refine .inl ⟨wanted_of (j := 2) (d := 110) rfl rfl eg, ?_⟩; clear hs hd hx eg; go_simp; exact ⟨Ext.refl _ _, rfl⟩)
                    · intro a' w' hx hs hd
                      obtain ⟨y, rfl⟩ := hx.ew
                      have e110 : a'.tmps[110]?.getD undef = _ := hd 2 110 rfl rfl
                      have e123 : a'.tmps[123]?.getD undef = _ := hd 15 123 rfl rfl
                      refine .inl ⟨rfl, ?_⟩
                      clear hs hd hx
                      go_simp
                      exact ⟨Ext.refl _ _, rfl⟩
                  case' q6 =>
                    intro vs w' hx hRR
                    obtain ⟨x8, rfl⟩ := hx.ew
                    have q0 : vs 0 = _ := hRR 0 (by decide)
                    have q1 : vs 1 = _ := hRR 1 (by decide)
                    have q2 : vs 2 = _ := hRR 2 (by decide)
                    have q3 : vs 3 = _ := hRR 3 (by decide)
                    have q4 : vs 4 = _ := hRR 4 (by decide)
                    have q5 : vs 5 = _ := hRR 5 (by decide)
                    obtain ⟨a5, c5, q6⟩ : ∃ a c, vs 6 = .slice a wl c := hRR 6 (by decide)
                    have q7 : vs 7 = _ := hRR 7 (by decide)
                    have q8 : vs 8 = _ := hRR 8 (by decide)
                    have q9 : vs 9 = _ := hRR 9 (by decide)
                    have q10 : vs 10 = _ := hRR 10 (by decide)
                    have q11 : vs 11 = _ := hRR 11 (by decide)
                    have q12 : vs 12 = _ := hRR 12 (by decide)
                    have q13 : vs 13 = _ := hRR 13 (by decide)
                    have q14 : vs 14 = _ := hRR 14 (by decide)
                    have q15 : vs 15 = _ := hRR 15 (by decide)
                    have q16 : vs 16 = _ := hRR 16 (by decide)
                    clear hRR hx
                    simp only [putAll, List.take_succ_cons, List.take_zero, List.drop_succ_cons, List.drop_zero, Act.put, List.setIfInBounds_toArray, List.set_cons_zero, List.set_cons_succ, Nat.reduceAdd, Nat.zero_add]
                    simp only [q0, q1, q2, q3, q4, q5, q6, q7, q8, q9, q10, q11, q12, q13, q14, q15, q16]
                    clear q0 q1 q2 q3 q4 q5 q6 q7 q8 q9 q10 q11 q12 q13 q14 q15 q16 vs
                  have Q8 := Go.Lib.hid (Q7.out.extN x8.ext)
                  have X8 := Go.Lib.hid (XT.out.trans x8.ext.ofNon)
                  have BR8 := Go.Lib.hid (BR7.out.extN x8.ext)
                  have XT8 : Hid (w.heap.size ≤ x8.on.heap.size) := Go.Lib.hid X8.out.size
                  clear Q7 XT BR7 X7 z0 z1 z2 z3 z4 z5 C1 HDN HDN2 HEQ KW3 KC KQ
                  generalize x8.on = w8 at *
                  go_upto_region 21 with fail
                  have z0 : w8.cell? ⟨kq, 0, none⟩ = some (.int .i64 rc) := BR8.out.cell rfl
                  have z1 : w8.cell? ⟨kq, 1, none⟩ = some (.int .i64 rs) := BR8.out.cell rfl
                  have z2 : w8.cell? ⟨kq, 2, none⟩ = some (.int .i64 rk) := BR8.out.cell rfl
                  have z3 : w8.cell? ⟨kq, 3, none⟩ = some (.string rkey) := BR8.out.cell rfl
                  have z4 : w8.cell? ⟨kq, 4, none⟩ = some (.float .f64 rx) := BR8.out.cell rfl
                  have z5 : w8.cell? ⟨kq, 5, none⟩ = some (.int .i64 rid) := BR8.out.cell rfl
                  have y6 : w8.cell? ⟨b, 5 + 1, none⟩ = some v4 := Q8.out.c6
                  simp only [Nat.reduceAdd] at y6
                  have O4 := Go.Lib.hid Q8.out.o4
                  have HDL : Hid (m5.done.length ≤ 1000) := Go.Lib.hid (by rw [H5D.out]; exact HF.out.done)
                  obtain ⟨len4, hlen4⟩ : ∃ l, l = m5.done.length := ⟨_, rfl⟩
                  rw [← hlen4] at O4 HDL
                  have HL4 := Go.Lib.hid hlen4
                  clear hlen4
                  have hd4 := HDL.out
                  have HRV := Go.Lib.hid (own_row O4.out)
                  have nb4 : Row v4 b = False := by simp only [eq_iff_iff, iff_false]; intro q; exact Q8.out.nb (Q8.out.low.2.2.2 b q)
                  have nq4 : Row v4 kq = False := by simp only [eq_iff_iff, iff_false]; intro q; exact HKQ5.out q
                  have nn1 : Non b = False := rfl
                  have nn2 : Non kq = False := rfl
                  have HR2 : Hid (∀ k, Row v4 k → k < w8.heap.size) := Go.Lib.hid (fun k q => (HRV.out k q).2)
                  apply wp_region_wr 12 [Mo.is _, Mo.is _, Mo.is _, Mo.is _, Mo.is _, Mo.is _, Mo.is _, Mo.is _, moOne w8.heap.size [.int .i64 n, .int .i64 rc, .int .i64 rs, .int .i64 rk, .string rkey, .float .f64 rx, .int .i64 rid] 161, moRow v4 w8.heap.size 0 161 7 (len4 + 1) (m5.done.flatMap eC ++ ([.int .i64 n, .int .i64 rc, .int .i64 rs, .int .i64 rk, .string rkey, .float .f64 rx, .int .i64 rid] : List Value)), Mo.is _, Mo.is _] (Row v4) 9 (fun w' => w'.ownsRow 0 161 7 v4 len4 (m5.done.flatMap eC)) (Non) 9999 (fun _ => True) (by kernel_rfl) (by kernel_rfl) (by kernel_rfl) (by kernel_rfl) (by kernel_rfl) (by decide) (by kernel_rfl) (by decide) ?ta7 ?tb7 ?ha7 ?hb7 ?hc7 ?hd7 ?ma7 ?mb7 ?st7 ?q7
                  case ta7 => exact O4.out
                  case tb7 => exact trivial
                  case ha7 => exact fun _ _ x h => ownR_extN h x
                  case hb7 => exact fun _ _ x h => ownR_extN h x
                  case hc7 => exact fun _ _ _ _ => trivial
                  case hd7 => exact fun _ _ _ _ => trivial
                  case st7 =>
                    refine ⟨?_, ?_, ?_, ?_, ?_, ?_, ?_, ?_, ?_, ?_, ?_, ?_, trivial⟩
                    · refine .inl ⟨by decide, by decide, ?_⟩
                      intro a' w' hx hs hd
                      obtain ⟨y, rfl⟩ := hx.ew
                      have e0 : a'.tmps[0]?.getD undef = _ := hs 0 rfl
                      simp only [List.getElem?_toArray, List.getElem?_cons_succ, List.getElem?_cons_zero, Option.getD_some, Array.getElem?_eq_some_iff] at e0
                      refine .inl ⟨rfl, ?_⟩
                      clear hs hd hx
                      go_simp
                      exact ⟨Ext.refl _ _, rfl⟩
                    · refine .inl ⟨by decide, by decide, ?_⟩
                      intro a' w' hx hs hd
                      obtain ⟨y, rfl⟩ := hx.ew
                      have e0 : a'.tmps[0]?.getD undef = _ := hs 0 rfl
                      simp only [List.getElem?_toArray, List.getElem?_cons_succ, List.getElem?_cons_zero, Option.getD_some, Array.getElem?_eq_some_iff] at e0
                      refine .inl ⟨rfl, ?_⟩
                      clear hs hd hx
                      go_simp
                      exact ⟨Ext.refl _ _, rfl⟩
                    · refine .inl ⟨by decide, by decide, ?_⟩
                      intro a' w' hx hs hd
                      obtain ⟨y, rfl⟩ := hx.ew
                      have e126 : a'.tmps[126]?.getD undef = _ := hd 1 126 rfl rfl
                      refine .inl ⟨rfl, ?_⟩
                      clear hs hd hx
                      go_simp
                      exact ⟨Ext.refl _ _, rfl⟩
                    · refine .inl ⟨by decide, by decide, ?_⟩
                      intro a' w' hx hs hd
                      obtain ⟨y, rfl⟩ := hx.ew
                      have e127 : a'.tmps[127]?.getD undef = _ := hd 2 127 rfl rfl
                      refine .inl ⟨rfl, ?_⟩
                      clear hs hd hx
                      go_simp
                      exact ⟨Ext.refl _ _, rfl⟩
                    · refine .inl ⟨by decide, by decide, ?_⟩
                      intro a' w' hx hs hd
                      obtain ⟨y, rfl⟩ := hx.ew
                      have e128 : a'.tmps[128]?.getD undef = _ := hd 3 128 rfl rfl
                      refine .inl ⟨rfl, ?_⟩
                      clear hs hd hx
                      go_simp
                      exact ⟨Ext.refl _ _, rfl⟩
                    · refine .inl ⟨by decide, by decide, ?_⟩
                      intro a' w' hx hs hd
                      obtain ⟨y, rfl⟩ := hx.ew
                      have e1 : a'.tmps[1]?.getD undef = _ := hs 1 rfl
                      simp only [List.getElem?_toArray, List.getElem?_cons_succ, List.getElem?_cons_zero, Option.getD_some, Array.getElem?_eq_some_iff] at e1
                      refine .inl ⟨rfl, ?_⟩
                      clear hs hd hx
                      go_simp
                      exact ⟨Ext.refl _ _, rfl⟩
                    · refine .inl ⟨by decide, by decide, ?_⟩
                      intro a' w' hx hs hd
                      obtain ⟨y, rfl⟩ := hx.ew
                      have e4 : a'.tmps[4]?.getD undef = _ := hs 4 rfl
                      simp only [List.getElem?_toArray, List.getElem?_cons_succ, List.getElem?_cons_zero, Option.getD_some, Array.getElem?_eq_some_iff] at e4
                      refine .inl ⟨rfl, ?_⟩
                      clear hs hd hx
                      go_simp
                      exact ⟨Ext.refl _ _, rfl⟩
                    · refine .inl ⟨by decide, by decide, ?_⟩
                      intro a' w' hx hs hd
                      obtain ⟨y, rfl⟩ := hx.ew
                      have e130 : a'.tmps[130]?.getD undef = _ := hd 5 130 rfl rfl
                      have e131 : a'.tmps[131]?.getD undef = _ := hd 6 131 rfl rfl
                      refine .inl ⟨rfl, ?_⟩
                      clear hs hd hx
                      go_simp
                      exact ⟨Ext.refl _ _, rfl⟩
                    · refine .inl ⟨by decide, by decide, ?_⟩
                      intro a' w' hx hs hd
                      obtain ⟨y, rfl⟩ := hx.ew
                      have e132 : a'.tmps[132]?.getD undef = _ := hd 7 132 rfl rfl
                      refine .inl ⟨rfl, ?_⟩
                      clear hs hd hx
                      go_simp
                      exact ⟨(Ext.refl _ _).alloc _, _, rfl, y.ext.size, Bx.newAt _ _ _ _ rfl⟩
                    · refine .inr (.inl ⟨rfl, ?_⟩)
                      intro a' w' hx hst hs hd
                      obtain ⟨y, rfl⟩ := hx.ew
                      have e129 : a'.tmps[129]?.getD undef = _ := hd 4 129 rfl rfl
                      obtain ⟨k4, e133, hk4, hB4⟩ : ∃ k, a'.tmps[133]?.getD undef = .slice (some ⟨k, 0, none⟩) 1 1 ∧ w8.heap.size ≤ k ∧ Bx y.on k [.int .i64 n, .int .i64 rc, .int .i64 rs, .int .i64 rk, .string rkey, .float .f64 rx, .int .i64 rid] 161 := hd 8 133 rfl rfl
                      refine ⟨rfl, ?_⟩
                      clear hs hd hx
                      exact rel_append_row _ _ 135 rfl 0 161 7 64 _ Try.underlying135 info_entry14 (by rfl) (by omega) (by omega) v4 len4 (m5.done.flatMap eC) ((eval_tmp _ _).trans e129) hst k4 _ _ ((eval_tmp _ _).trans e133) hB4 rfl (by intro u hu; simp at hu; rcases hu with rfl | rfl | rfl | rfl | rfl | rfl | rfl <;> rfl) (by omega) (by omega) (fun v' w' x o r => ⟨v', rfl, o, fun k hk => (r k hk).imp id (fun z => Nat.le_trans y.ext.size z)⟩)
                    · refine .inl ⟨by decide, by decide, ?_⟩
                      intro a' w' hx hs hd
                      obtain ⟨y, rfl⟩ := hx.ew
                      have e125 : a'.tmps[125]?.getD undef = _ := hd 0 125 rfl rfl
                      refine .inl ⟨rfl, ?_⟩
                      clear hs hd hx
                      go_simp
                      exact ⟨Ext.refl _ _, rfl⟩
                    · refine .inl ⟨by decide, by decide, ?_⟩
                      intro a' w' hx hs hd
                      obtain ⟨y, rfl⟩ := hx.ew
                      have e135 : a'.tmps[135]?.getD undef = _ := hd 10 135 rfl rfl
                      refine .inl ⟨rfl, ?_⟩
                      clear hs hd hx
                      go_simp
                      exact ⟨Ext.refl _ _, rfl⟩
                  case ma7 => exact ⟨.inr (Mo.is_still _ _), .inr (Mo.is_still _ _), .inr (Mo.is_still _ _), .inr (Mo.is_still _ _), .inr (Mo.is_still _ _), .inr (Mo.is_still _ _), .inr (Mo.is_still _ _), .inr (Mo.is_still _ _), .inr (moOne_still HR2.out), .inl rfl, .inr (Mo.is_still _ _), .inr (Mo.is_still _ _), trivial⟩
                  case mb7 => exact ⟨.inr (Mo.mono _), .inr (Mo.mono _), .inr (Mo.mono _), .inr (Mo.mono _), .inr (Mo.mono _), .inr (Mo.mono _), .inr (Mo.mono _), .inr (Mo.mono _), .inr (Mo.mono _), .inr (Mo.mono _), .inr (Mo.mono _), .inr (Mo.mono _), trivial⟩
                  case' q7 =>
                    intro vs w' hx hRR
                    obtain ⟨x9, rfl⟩ := hx.ew
                    have q0 : vs 0 = _ := hRR 0 (by decide)
                    have q1 : vs 1 = _ := hRR 1 (by decide)
                    have q2 : vs 2 = _ := hRR 2 (by decide)
                    have q3 : vs 3 = _ := hRR 3 (by decide)
                    have q4 : vs 4 = _ := hRR 4 (by decide)
                    have q5 : vs 5 = _ := hRR 5 (by decide)
                    have q6 : vs 6 = _ := hRR 6 (by decide)
                    have q7 : vs 7 = _ := hRR 7 (by decide)
                    obtain ⟨k4, q8, hk4, hB4⟩ : ∃ k, vs 8 = .slice (some ⟨k, 0, none⟩) 1 1 ∧ w8.heap.size ≤ k ∧ Bx x9.on k [.int .i64 n, .int .i64 rc, .int .i64 rs, .int .i64 rk, .string rkey, .float .f64 rx, .int .i64 rid] 161 := hRR 8 (by decide)
                    obtain ⟨u5, q9, hO5, hr5⟩ : ∃ u, vs 9 = u ∧ x9.on.ownsRow 0 161 7 u (len4 + 1) (m5.done.flatMap eC ++ ([.int .i64 n, .int .i64 rc, .int .i64 rs, .int .i64 rk, .string rkey, .float .f64 rx, .int .i64 rid] : List Value)) ∧ ∀ k, Row u k → Row v4 k ∨ w8.heap.size ≤ k := hRR 9 (by decide)
                    have q10 : vs 10 = _ := hRR 10 (by decide)
                    have q11 : vs 11 = _ := hRR 11 (by decide)
                    clear hRR hx
                    simp only [putAll, List.take_succ_cons, List.take_zero, List.drop_succ_cons, List.drop_zero, Act.put, List.setIfInBounds_toArray, List.set_cons_zero, List.set_cons_succ, Nat.reduceAdd, Nat.zero_add]
                    simp only [q0, q1, q2, q3, q4, q5, q6, q7, q8, q9, q10, q11]
                    clear q0 q1 q2 q3 q4 q5 q6 q7 q8 q9 q10 q11 vs
                  obtain ⟨ua, uc, hus⟩ := row_slice hO5
                  subst hus
                  have PD := Go.Lib.hid (Q8.out.putD (p := (n, ⟨rc, rs, ⟨rk, rkey, rx, rid⟩⟩)) (x9.ext.mono (fun k _ q => by rcases q with q | q; exact q; exact q.elim)) HR.out (by rw [← HL4.out]; exact hO5) hr5)
                  have y7 : x9.on.cell? ⟨b, 6, none⟩ = some v4 := (x9.ext.cell (p := ⟨b, 6, none⟩) Q8.out.bx.lt (fun q => by rcases q with q | q; rw [nb4] at q; exact q; exact q)).trans y6
                  have f7 : x9.on.frozen? ⟨b, 6, none⟩ = false := froz_of_heap (Q8.out.bx.ext x9.ext (fun q => by rcases q with q | q; rw [nb4] at q; exact q; exact q)).h
                  have XF : Hid (Ext (LoF b G) w (x9.on.setCell ⟨b, 6, none⟩ (.slice ua (len4 + 1) uc))) := Go.Lib.hid ((X8.out.step x9.ext (fun k hk q => by
                    rcases q with q | q
                    · rcases HG5.out k (Q8.out.low.2.2.2 k q) with h | h
                      · exact .inr h
                      · omega
                    · exact q.elim)).step ((Ext.refl (One b) _).set1 _) (fun k hk q => .inl q))
                  go_wp2
                  go_returns
                  exact ⟨rfl, _, by rw [FIN.out]; exact ⟨_, _, _, _, _, _, _, _, PD.out⟩, fun k h => by
                    rcases h with h | ⟨h, _⟩
                    · exact HG5.out k h
                    · have := XT8.out; omega, XF.out⟩
                · have d1 : decide (qu ≤ (wl : Int)) = false := decide_eq_false hen
                  have FIN : Hid (lookR m n = m5) := Go.Lib.hid (by rw [HLK.out, HDN.out, HEQ.out, d1]; simp; rw [← H5D.out])
                  apply wp_region_rel (relR [Mo.is _, Mo.is _, Mo.is _, Mo.is _, Mo.is _, Mo.is _, moSl wl, Mo.is _, Mo.is _, Mo.is _, Mo.is _, Mo.is _, Mo.is _, Mo.is _, Mo.is _, Mo.is _, Mo.is _]) (by kernel_rfl) (by kernel_rfl) (by kernel_rfl) (relR_mono _) (StepD.all ?st8) ?q8
                  case st8 =>
                    refine ⟨?_, ?_, ?_, ?_, ?_, ?_, ?_, ?_, ?_, ?_, ?_, ?_, ?_, ?_, ?_, ?_, ?_, trivial⟩
                    · intro a' w' hx hs hd
                      obtain ⟨y, rfl⟩ := hx.ew
                      have e13 : a'.tmps[13]?.getD undef = _ := hs 13 rfl
                      simp only [List.getElem?_toArray, List.getElem?_cons_succ, List.getElem?_cons_zero, Option.getD_some, Array.getElem?_eq_some_iff] at e13
                      refine .inl ⟨rfl, ?_⟩
                      clear hs hd hx
                      go_simp
                      exact ⟨Ext.refl _ _, rfl⟩
                    · intro a' w' hx hs hd
                      obtain ⟨y, rfl⟩ := hx.ew
                      have e108 : a'.tmps[108]?.getD undef = _ := hd 0 108 rfl rfl
                      refine .inl ⟨rfl, ?_⟩
                      clear hs hd hx
                      go_simp
                      exact ⟨Ext.refl _ _, rfl⟩
                    · intro a' w' hx hs hd
                      obtain ⟨y, rfl⟩ := hx.ew
                      have e109 : a'.tmps[109]?.getD undef = _ := hd 1 109 rfl rfl
                      refine .inl ⟨rfl, ?_⟩
                      clear hs hd hx
                      go_simp
                      exact ⟨Ext.refl _ _, rfl⟩
                    · intro a' w' hx hs hd
                      obtain ⟨y, rfl⟩ := hx.ew
                      have eg : a'.tmps[110]?.getD undef = _ := hd 2 110 rfl rfl
                      first
                      | (refine .inr ⟨unwanted_of (j := 2) (d := 110) rfl rfl eg (by rfl), ?_⟩; exact (rfl : (Mo.is undef).p undef y.on))
                      | (refine .inr ⟨unwanted_und (j := 2) (d := 110) rfl rfl eg, ?_⟩; exact (rfl : (Mo.is undef).p undef y.on))
                      | (have e0 : a'.tmps[0]?.getD undef = _ := hs 0 rfl; simp only [List.getElem?_toArray, List.getElem?_cons_succ, List.getElem?_cons_zero, Option.getD_some, Array.getElem?_eq_some_iff] at e0; refine .inl ⟨wanted_of (j := 2) (d := 110) rfl rfl eg, ?_⟩; clear hs hd hx eg; go_simp; exact ⟨Ext.refl _ _, rfl⟩)
                    · intro a' w' hx hs hd
                      obtain ⟨y, rfl⟩ := hx.ew
                      have eg : a'.tmps[110]?.getD undef = _ := hd 2 110 rfl rfl
                      first
                      | (refine .inr ⟨unwanted_of (j := 2) (d := 110) rfl rfl eg (by rfl), ?_⟩; exact (rfl : (Mo.is undef).p undef y.on))
                      | (refine .inr ⟨unwanted_und (j := 2) (d := 110) rfl rfl eg, ?_⟩; exact (rfl : (Mo.is undef).p undef y.on))
                      | (have e1 : a'.tmps[1]?.getD undef = _ := hs 1 rfl; simp only [List.getElem?_toArray, List.getElem?_cons_succ, List.getElem?_cons_zero, Option.getD_some, Array.getElem?_eq_some_iff] at e1; refine .inl ⟨wanted_of (j := 2) (d := 110) rfl rfl eg, ?_⟩; clear hs hd hx eg; go_simp; exact ⟨Ext.refl _ _, rfl⟩)
                    · intro a' w' hx hs hd
                      obtain ⟨y, rfl⟩ := hx.ew
                      have eg : a'.tmps[110]?.getD undef = _ := hd 2 110 rfl rfl
                      first
                      | (refine .inr ⟨unwanted_of (j := 2) (d := 110) rfl rfl eg (by rfl), ?_⟩; exact (rfl : (Mo.is undef).p undef y.on))
                      | (refine .inr ⟨unwanted_und (j := 2) (d := 110) rfl rfl eg, ?_⟩; exact (rfl : (Mo.is undef).p undef y.on))
                      | (have e4 : a'.tmps[4]?.getD undef = _ := hs 4 rfl; simp only [List.getElem?_toArray, List.getElem?_cons_succ, List.getElem?_cons_zero, Option.getD_some, Array.getElem?_eq_some_iff] at e4; refine .inl ⟨wanted_of (j := 2) (d := 110) rfl rfl eg, ?_⟩; clear hs hd hx eg; go_simp; exact ⟨Ext.refl _ _, rfl⟩)
                    · intro a' w' hx hs hd
                      obtain ⟨y, rfl⟩ := hx.ew
                      have eg : a'.tmps[110]?.getD undef = _ := hd 2 110 rfl rfl
                      first
                      | (refine .inr ⟨unwanted_of (j := 2) (d := 110) rfl rfl eg (by rfl), ?_⟩; exact (rfl : (Mo.is undef).p undef y.on))
                      | (refine .inr ⟨unwanted_und (j := 2) (d := 110) rfl rfl eg, ?_⟩; exact (rfl : (Mo.is undef).p undef y.on))
                      | (have e111 : a'.tmps[111]?.getD undef = _ := hd 3 111 rfl rfl; have e112 : a'.tmps[112]?.getD undef = _ := hd 4 112 rfl rfl; have e113 : a'.tmps[113]?.getD undef = _ := hd 5 113 rfl rfl; refine .inl ⟨wanted_of (j := 2) (d := 110) rfl rfl eg, ?_⟩; clear hs hd hx eg; go_simp; exact (KW3.out _ (X7.out.trans (by (repeat (first | with_reducible (first | exact Ext.refl _ _ | assumption | refine Ext.upN ?_ | refine Ext.alloc ?_ _ | refine Ext.drew ?_ | refine Ext.drewN ?_ _ | refine Ext.upF ?_ | refine Ext.upFF (by first | omega | simp) ?_ | refine Ext.setCellsF _ _ _ (by first | omega | simp) ?_ | refine Ext.setCellF _ _ _ (by first | omega | simp) ?_ | refine Ext.upFN (by first | omega | simp) ?_ | refine Ext.up1F (by first | omega | simp) ?_ | refine Ext.up1N (by first | omega | simp) ?_) | refine Ext.alloc ?_ _ | refine Ext.setCellF _ _ _ (by first | omega | simp) ?_ | refine Ext.setCell ?_ (.inr (by first | omega | simp)) _))))).mono (fun e w'' ⟨⟨a', c', he⟩, hx⟩ => ⟨_, he, hx, a', c', rfl⟩))
                    · intro a' w' hx hs hd
                      obtain ⟨y, rfl⟩ := hx.ew
                      have eg : a'.tmps[110]?.getD undef = _ := hd 2 110 rfl rfl
                      first
                      | (refine .inr ⟨unwanted_of (j := 2) (d := 110) rfl rfl eg (by rfl), ?_⟩; exact (rfl : (Mo.is undef).p undef y.on))
                      | (refine .inr ⟨unwanted_und (j := 2) (d := 110) rfl rfl eg, ?_⟩; exact (rfl : (Mo.is undef).p undef y.on))
                      | (obtain ⟨a5, c5, e114⟩ : ∃ a c, a'.tmps[114]?.getD undef = .slice a wl c := hd 6 114 rfl rfl; refine .inl ⟨wanted_of (j := 2) (d := 110) rfl rfl eg, ?_⟩; clear hs hd hx eg; go_simp; exact ⟨Ext.refl _ _, rfl⟩)
                    · intro a' w' hx hs hd
                      obtain ⟨y, rfl⟩ := hx.ew
                      have eg : a'.tmps[110]?.getD undef = _ := hd 2 110 rfl rfl
                      first
                      | (refine .inr ⟨unwanted_of (j := 2) (d := 110) rfl rfl eg (by rfl), ?_⟩; exact (rfl : (Mo.is undef).p undef y.on))
                      | (refine .inr ⟨unwanted_und (j := 2) (d := 110) rfl rfl eg, ?_⟩; exact (rfl : (Mo.is undef).p undef y.on))
                      | (have e0 : a'.tmps[0]?.getD undef = _ := hs 0 rfl; simp only [List.getElem?_toArray, List.getElem?_cons_succ, List.getElem?_cons_zero, Option.getD_some, Array.getElem?_eq_some_iff] at e0; refine .inl ⟨wanted_of (j := 2) (d := 110) rfl rfl eg, ?_⟩; clear hs hd hx eg; go_simp; exact ⟨Ext.refl _ _, rfl⟩)
                    · intro a' w' hx hs hd
                      obtain ⟨y, rfl⟩ := hx.ew
                      have eg : a'.tmps[110]?.getD undef = _ := hd 2 110 rfl rfl
                      first
                      | (refine .inr ⟨unwanted_of (j := 2) (d := 110) rfl rfl eg (by rfl), ?_⟩; exact (rfl : (Mo.is undef).p undef y.on))
                      | (refine .inr ⟨unwanted_und (j := 2) (d := 110) rfl rfl eg, ?_⟩; exact (rfl : (Mo.is undef).p undef y.on))
                      | (have e116 : a'.tmps[116]?.getD undef = _ := hd 8 116 rfl rfl; refine .inl ⟨wanted_of (j := 2) (d := 110) rfl rfl eg, ?_⟩; clear hs hd hx eg; go_simp; exact ⟨Ext.refl _ _, rfl⟩)
                    · intro a' w' hx hs hd
                      obtain ⟨y, rfl⟩ := hx.ew
                      have eg : a'.tmps[110]?.getD undef = _ := hd 2 110 rfl rfl
                      first
                      | (refine .inr ⟨unwanted_of (j := 2) (d := 110) rfl rfl eg (by rfl), ?_⟩; exact (rfl : (Mo.is undef).p undef y.on))
                      | (refine .inr ⟨unwanted_und (j := 2) (d := 110) rfl rfl eg, ?_⟩; exact (rfl : (Mo.is undef).p undef y.on))
                      | (have e117 : a'.tmps[117]?.getD undef = _ := hd 9 117 rfl rfl; refine .inl ⟨wanted_of (j := 2) (d := 110) rfl rfl eg, ?_⟩; clear hs hd hx eg; go_simp; exact ⟨Ext.refl _ _, rfl⟩)
                    · intro a' w' hx hs hd
                      obtain ⟨y, rfl⟩ := hx.ew
                      have eg : a'.tmps[110]?.getD undef = _ := hd 2 110 rfl rfl
                      first
                      | (refine .inr ⟨unwanted_of (j := 2) (d := 110) rfl rfl eg (by rfl), ?_⟩; exact (rfl : (Mo.is undef).p undef y.on))
                      | (refine .inr ⟨unwanted_und (j := 2) (d := 110) rfl rfl eg, ?_⟩; exact (rfl : (Mo.is undef).p undef y.on))
                      | (have e118 : a'.tmps[118]?.getD undef = _ := hd 10 118 rfl rfl; refine .inl ⟨wanted_of (j := 2) (d := 110) rfl rfl eg, ?_⟩; clear hs hd hx eg; go_simp; exact ⟨Ext.refl _ _, rfl⟩)
                    · intro a' w' hx hs hd
                      obtain ⟨y, rfl⟩ := hx.ew
                      have eg : a'.tmps[110]?.getD undef = _ := hd 2 110 rfl rfl
                      first
                      | (refine .inr ⟨unwanted_of (j := 2) (d := 110) rfl rfl eg (by rfl), ?_⟩; exact (rfl : (Mo.is undef).p undef y.on))
                      | (refine .inr ⟨unwanted_und (j := 2) (d := 110) rfl rfl eg, ?_⟩; exact (rfl : (Mo.is undef).p undef y.on))
                      | (have e119 : a'.tmps[119]?.getD undef = _ := hd 11 119 rfl rfl; refine .inl ⟨wanted_of (j := 2) (d := 110) rfl rfl eg, ?_⟩; clear hs hd hx eg; go_simp; exact ⟨Ext.refl _ _, rfl⟩)
                    · intro a' w' hx hs hd
                      obtain ⟨y, rfl⟩ := hx.ew
                      have eg : a'.tmps[110]?.getD undef = _ := hd 2 110 rfl rfl
                      first
                      | (refine .inr ⟨unwanted_of (j := 2) (d := 110) rfl rfl eg (by rfl), ?_⟩; exact (rfl : (Mo.is undef).p undef y.on))
                      | (refine .inr ⟨unwanted_und (j := 2) (d := 110) rfl rfl eg, ?_⟩; exact (rfl : (Mo.is undef).p undef y.on))
                      | (have e120 : a'.tmps[120]?.getD undef = _ := hd 12 120 rfl rfl; refine .inl ⟨wanted_of (j := 2) (d := 110) rfl rfl eg, ?_⟩; clear hs hd hx eg; go_simp; exact ⟨Ext.refl _ _, rfl⟩)
                    · intro a' w' hx hs hd
                      obtain ⟨y, rfl⟩ := hx.ew
                      have eg : a'.tmps[110]?.getD undef = _ := hd 2 110 rfl rfl
                      first
                      | (refine .inr ⟨unwanted_of (j := 2) (d := 110) rfl rfl eg (by rfl), ?_⟩; exact (rfl : (Mo.is undef).p undef y.on))
                      | (refine .inr ⟨unwanted_und (j := 2) (d := 110) rfl rfl eg, ?_⟩; exact (rfl : (Mo.is undef).p undef y.on))
                      | (have e121 : a'.tmps[121]?.getD undef = _ := hd 13 121 rfl rfl; refine .inl ⟨wanted_of (j := 2) (d := 110) rfl rfl eg, ?_⟩; clear hs hd hx eg; go_simp; exact (KQ.out _).mono (fun e w'' ⟨he, hx⟩ => ⟨_, he, by rw [hx]; exact Ext.refl _ _, rfl⟩))
                    · intro a' w' hx hs hd
                      obtain ⟨y, rfl⟩ := hx.ew
                      have eg : a'.tmps[110]?.getD undef = _ := hd 2 110 rfl rfl
                      first
                      | (refine .inr ⟨unwanted_of (j := 2) (d := 110) rfl rfl eg (by rfl), ?_⟩; exact (rfl : (Mo.is undef).p undef y.on))
                      | (refine .inr ⟨unwanted_und (j := 2) (d := 110) rfl rfl eg, ?_⟩; exact (rfl : (Mo.is undef).p undef y.on))
                      | (have e115 : a'.tmps[115]?.getD undef = _ := hd 7 115 rfl rfl; have e122 : a'.tmps[122]?.getD undef = _ := hd 14 122 rfl rfl; refine .inl ⟨wanted_of (j := 2) (d := 110) rfl rfl eg, ?_⟩; clear hs hd hx eg; go_simp; exact ⟨Ext.refl _ _, rfl⟩)
                    · intro a' w' hx hs hd
                      obtain ⟨y, rfl⟩ := hx.ew
                      have e110 : a'.tmps[110]?.getD undef = _ := hd 2 110 rfl rfl
                      have e123 : a'.tmps[123]?.getD undef = _ := hd 15 123 rfl rfl
                      refine .inl ⟨rfl, ?_⟩
                      clear hs hd hx
                      go_simp
                      exact ⟨Ext.refl _ _, rfl⟩
                  case' q8 =>
                    intro vs w' hx hRR
                    obtain ⟨x8, rfl⟩ := hx.ew
                    have q0 : vs 0 = _ := hRR 0 (by decide)
                    have q1 : vs 1 = _ := hRR 1 (by decide)
                    have q2 : vs 2 = _ := hRR 2 (by decide)
                    have q3 : vs 3 = _ := hRR 3 (by decide)
                    have q4 : vs 4 = _ := hRR 4 (by decide)
                    have q5 : vs 5 = _ := hRR 5 (by decide)
                    obtain ⟨a5, c5, q6⟩ : ∃ a c, vs 6 = .slice a wl c := hRR 6 (by decide)
                    have q7 : vs 7 = _ := hRR 7 (by decide)
                    have q8 : vs 8 = _ := hRR 8 (by decide)
                    have q9 : vs 9 = _ := hRR 9 (by decide)
                    have q10 : vs 10 = _ := hRR 10 (by decide)
                    have q11 : vs 11 = _ := hRR 11 (by decide)
                    have q12 : vs 12 = _ := hRR 12 (by decide)
                    have q13 : vs 13 = _ := hRR 13 (by decide)
                    have q14 : vs 14 = _ := hRR 14 (by decide)
                    have q15 : vs 15 = _ := hRR 15 (by decide)
                    have q16 : vs 16 = _ := hRR 16 (by decide)
                    clear hRR hx
                    simp only [putAll, List.take_succ_cons, List.take_zero, List.drop_succ_cons, List.drop_zero, Act.put, List.setIfInBounds_toArray, List.set_cons_zero, List.set_cons_succ, Nat.reduceAdd, Nat.zero_add]
                    simp only [q0, q1, q2, q3, q4, q5, q6, q7, q8, q9, q10, q11, q12, q13, q14, q15, q16]
                    clear q0 q1 q2 q3 q4 q5 q6 q7 q8 q9 q10 q11 q12 q13 q14 q15 q16 vs
                  go_wp2
                  go_returns
                  refine ⟨rfl, G5, ?_, HG5.out, XT.out.trans x8.ext.ofNon⟩
                  rw [FIN.out]
                  exact ⟨_, _, _, _, _, _, _, _, Q7.out.extN x8.ext⟩
end Go.Proofs.Ytakbkpklfihfiaa
