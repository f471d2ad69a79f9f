/- The law LedgerMembers, walked. -/
import Derived.Test.YtfefeepljbfcdaaOps12
namespace Go.Proofs.Ytfefeepljbfcdaa
open Go.RowKit F64
set_option linter.unusedSimpArgs false
set_option linter.unusedVariables false
attribute [local go_sem] run_store_float
attribute [local go_sem] undef

/-- What was told of a ledger's configuration and next members, kept in block k and in rows of their own. -/
structure Was (w : World) (k : Nat) (g : Lg) (a1 : Option Addr) (c1 : Nat) (a2 : Option Addr) (c2 : Nat) : Prop where
  q0 : w.cell? ⟨k, 0, none⟩ = some (.int .i64 g.epoch)
  q1 : w.cell? ⟨k, 1, none⟩ = some (.slice a1 g.mem.length c1)
  i1 : Ints w a1 c1 g.mem
  t1 : intT w a1
  i2 : Ints w a2 c2 g.next
  t2 : intT w a2
theorem Was.ext {S : Nat → Prop} {w w' : World} {k : Nat} {g : Lg} {a1 : Option Addr} {c1 : Nat} {a2 : Option Addr} {c2 : Nat} (h : Was w k g a1 c1 a2 c2) (x : Ext S w w') (hk : ¬ S k) (hs : NoInts S w) : Was w' k g a1 c1 a2 c2 :=
  ⟨(x.cell (p := ⟨k, 0, none⟩) (lt_of_cell h.q0) hk).trans h.q0, (x.cell (p := ⟨k, 1, none⟩) (lt_of_cell h.q1) hk).trans h.q1, h.i1.extT h.t1 x hs, h.t1.ext x hs, h.i2.extT h.t2 x hs, h.t2.ext x hs⟩
theorem Was.extN {w w' : World} {k : Nat} {g : Lg} {a1 : Option Addr} {c1 : Nat} {a2 : Option Addr} {c2 : Nat} (h : Was w k g a1 c1 a2 c2) (x : Ext Non w w') : Was w' k g a1 c1 a2 c2 := h.ext x (fun f => f) (NoInts.non w)

theorem join_len {l : List Int} {id : Int} (h : joinE l id = 0) : (joinL l id).length = l.length + 1 := by
  have he := h
  unfold joinE at he
  by_cases hf : (membersB l && decide (0 ≤ id) && decide (id < 16)) = true
  · have hm : membersB l = true := by simp only [Bool.and_eq_true] at hf; exact hf.1.1
    obtain ⟨s1, s2, s3⟩ := sorted_place l id (members_facts hm).2.1
    unfold joinL; rw [if_pos h, s2, s3]; simp; omega
  · rw [if_neg hf] at he; cases he
theorem leave_len {l : List Int} {id : Int} (h : leaveE l id = 0) : (leaveL l id).length + 1 = l.length := by
  have he := h
  unfold leaveE at he
  by_cases hf : (membersB l && decide (0 ≤ id) && decide (id < 16)) = true
  · rw [if_pos hf] at he
    have hm : membersB l = true := by simp only [Bool.and_eq_true] at hf; exact hf.1.1
    cases hh : hasB l id
    · rw [hh] at he; simp at he
    · obtain ⟨k1, k2⟩ := leave_facts l id (members_facts hm).2.1 hh
      unfold leaveL; rw [if_pos h, k2]; simp; omega
  · rw [if_neg hf] at he; cases he
/-- What an operation does to the next members. -/
def Moves (l l' : List Int) (kind e code : Int) : Prop :=
  (l' = l) ∨ (l'.length = l.length + 1 ∧ kind = 6 ∧ e = 0 ∧ code = 0) ∨ (l'.length + 1 = l.length ∧ kind = 7 ∧ e = 0 ∧ code = 0)
theorem apply_moves (g : Lg) (o : Opn) : Moves g.next (applyL g o).next o.kind 0 (applyR g o).code := by
  unfold Moves applyL applyR
  by_cases h6 : o.kind = 6
  · rw [if_pos h6, if_pos h6]
    by_cases hj : joinE g.next o.id = 0
    · right; left
      unfold moveL moveC; rw [if_pos hj, if_pos hj]
      exact ⟨join_len hj, h6, rfl, rfl⟩
    · left; unfold moveL; rw [if_neg hj]
  · rw [if_neg h6, if_neg h6]
    by_cases h7 : o.kind = 7
    · rw [if_pos h7, if_pos h7]
      by_cases hj : leaveE g.next o.id = 0
      · right; right
        unfold moveL moveC; rw [if_pos hj, if_pos hj]
        exact ⟨leave_len hj, h7, rfl, rfl⟩
      · left; unfold moveL; rw [if_neg hj]
    · rw [if_neg h7, if_neg h7]
      left
      (repeat' split) <;> rfl
theorem apply_conf (g : Lg) (o : Opn) : (applyL g o).epoch = g.epoch ∧ (applyL g o).mem = g.mem := by
  unfold applyL moveL
  (repeat' split) <;> exact ⟨rfl, rfl⟩
theorem do_moves (g : Lg) (r : Req) : Moves g.next (doL g r).next r.op.kind (doE g r) (doR g r).code ∧ (doL g r).epoch = g.epoch ∧ (doL g r).mem = g.mem := by
  unfold doL doR
  by_cases he : doE g r ≠ 0
  · rw [if_pos he, if_pos he]; exact ⟨.inl rfl, rfl, rfl⟩
  · rw [if_neg he, if_neg he]
    have he : doE g r = 0 := by simpa using he
    rw [he]
    by_cases hn : nullB r = true
    · rw [if_pos hn, if_pos hn]; exact ⟨.inl rfl, rfl, rfl⟩
    · rw [if_neg hn, if_neg hn]
      by_cases h1 : r.stamp < (g.cl (idxR r)).stamp
      · rw [if_pos h1, if_pos h1]; exact ⟨.inl rfl, rfl, rfl⟩
      · rw [if_neg h1, if_neg h1]
        by_cases h2 : (g.cl (idxR r)).stamp < r.stamp
        · rw [if_pos h2, if_pos h2]; exact ⟨apply_moves (tick g) r.op, apply_conf (tick g) r.op⟩
        · rw [if_neg h2, if_neg h2]; exact ⟨.inl rfl, rfl, rfl⟩

set_option maxHeartbeats 8000000 in
set_option maxRecDepth 100000 in
theorem members_ok (a : Option Addr) (cap : Nat) (xs : List Int) (hx : membersB xs = true) (sa : Option Addr) (len scap : Nat) (F : Nat → Qop) (hl : len ≤ maxLen) (w : World) (h : Ints w a cap xs) (hs : Ops w sa len F) :
    Calls Try.prog 3 #[.agg #[.int .i64 0, .slice a xs.length cap], .slice sa len scap] w fun e w' => e = .returned (.bool true) ∧ Ext Non w w' := by
  unfold maxLen at hl
  have HH := Go.Lib.hid h
  have HS := Go.Lib.hid hs
  have HX := Go.Lib.hid hx
  clear h hs hx
  go_enter Try.func3, Try.ntmps3
  go_wp2_with fail
  refine (law12_lives _).mono ?_
  rintro e w1 ⟨rfl, x1⟩
  have X1 := Go.Lib.hid (((Ext.refl Non w).alloc (.cells #[.int .i64 0, .slice a xs.length cap] 24)).trans x1)
  have q0 : w1.cell? ⟨w.heap.size, 0, none⟩ = some (.int .i64 0) := (x1.cell (p := ⟨w.heap.size, 0, none⟩) (by simp) id).trans (cell_new w [.int .i64 0, .slice a xs.length cap] _ rfl)
  have q1 : w1.cell? ⟨w.heap.size, 1, none⟩ = some (.slice a xs.length cap) := (x1.cell (p := ⟨w.heap.size, 1, none⟩) (by simp) id).trans (cell_new w [.int .i64 0, .slice a xs.length cap] _ rfl)
  clear x1
  go_wp2_with fail
  refine (ledger_New_ok _ _ _ HX.out _ (HH.out.extN X1.out)).mono ?_
  rintro e w2 ⟨b, m, rfl, x2, L2, hb, hm⟩
  have hb0 : w.heap.size ≤ b := Nat.le_trans X1.out.size hb
  have hm0 : w.heap.size ≤ m := Nat.le_trans X1.out.size hm
  have X2 := Go.Lib.hid (X1.out.trans x2)
  have L2' := Go.Lib.hid L2
  clear x2 L2 q0 q1 hb hm
  go_wp2_with fail
  go_loopg [7] len (fun k iv wr => ∃ (i : Nat) (g : Lg), i ≤ len ∧ k = len - i ∧ iv = .int .i64 i ∧ Inv g ∧ LD wr b m g ∧ Ext Non w wr)
  case atStart => exact ⟨0, newL xs, Nat.zero_le _, rfl, rfl, inv_new HX.out, L2'.out, X2.out⟩
  case round =>
    obtain ⟨i, g, hi, rfl, rfl, I, L, x⟩ := hrel
    have II := Go.Lib.hid I; have LL := Go.Lib.hid L; have XX := Go.Lib.hid x
    clear I L x L2' X2 X1
    by_cases hlt : i < len
    · obtain ⟨sb, so, rfl, hsb0, _⟩ := HS.out.at_ i hlt
      obtain ⟨sb', so', e', hsb, p0, p1, p2, p3, p4, p5, p6⟩ := (HS.out.extN XX.out).at_ i hlt
      obtain ⟨rfl, rfl⟩ : sb = sb' ∧ so = so' := by cases e'; exact ⟨rfl, rfl⟩
      clear e'
      have OK := Go.Lib.hid (HS.out.ok i hlt)
      have P : Hid (∀ W', Ext Non wr W' → W'.cell? ⟨sb, so + i * 7, none⟩ = some (.bool (F i).turn) ∧
        W'.cell? ⟨sb, so + i * 7 + 1, none⟩ = some (.int .i64 (F i).c) ∧ W'.cell? ⟨sb, so + i * 7 + 2, none⟩ = some (.int .i64 (F i).s) ∧ W'.cell? ⟨sb, so + i * 7 + 3, none⟩ = some (.int .i64 (F i).k) ∧
        W'.cell? ⟨sb, so + i * 7 + 4, none⟩ = some (.string (F i).key) ∧ W'.cell? ⟨sb, so + i * 7 + 5, none⟩ = some (.int .u64 (F i).bits) ∧ W'.cell? ⟨sb, so + i * 7 + 6, none⟩ = some (.int .i64 (F i).id)) := Go.Lib.hid (fun W' x =>
          have t : ∀ {k v}, wr.cell? ⟨sb, k, none⟩ = some v → W'.cell? ⟨sb, k, none⟩ = some v := fun {k v} hc => (x.cell (p := ⟨sb, k, none⟩) hsb id).trans hc
          ⟨t p0, t p1, t p2, t p3, t p4, t p5, t p6⟩)
      clear p0 p1 p2 p3 p4 p5 p6
      generalize F i = q at *
      go_wp2_with fail
      refine (ledger_Conf b m g II.out _ LL.out).mono ?_
      rintro e w3 ⟨a1, c1, rfl, x3, i1, f1⟩
      go_wp2_with fail
      refine (ledger_Next b m g II.out _ (LL.out.extN x3)).mono ?_
      rintro e w4 ⟨a2, c2, rfl, x4, i2, f2⟩
      have AL : Ext Non w4 (w4.alloc (.cells #[.int .i64 g.epoch, .slice a1 g.mem.length c1] 24)) := (Ext.refl _ _).alloc _
      have X4 := Go.Lib.hid ((x3.trans x4).trans AL)
      have WS : Hid (Was (w4.alloc (.cells #[.int .i64 g.epoch, .slice a1 g.mem.length c1] 24)) w4.heap.size g a1 c1 a2 c2) := Go.Lib.hid
        ⟨cell_new w4 [.int .i64 g.epoch, .slice a1 g.mem.length c1] _ rfl, cell_new w4 [.int .i64 g.epoch, .slice a1 g.mem.length c1] _ rfl, i1.extN (x4.trans AL), f1.typed.ext (x4.trans AL) (NoInts.non _), i2.extN AL, f2.typed.ext AL (NoInts.non _)⟩
      have hk0 : wr.heap.size ≤ w4.heap.size := (x3.trans x4).size
      have p0 := (P.out _ X4.out).1
      clear i1 f1 i2 f2 AL x3 x4
      go_upto_if 42 with fail
      clear p0
      generalize w4.heap.size = k at *
      generalize hW5 : w4.alloc _ = w5 at *
      clear hW5
      go_cut [10, 11, 12, 13, 14, 15, 16] (fun _ _ _ _ _ _ _ wx => ∃ g', Inv g' ∧ LD wx b m g' ∧ Ext Non w wx)
      case first =>
        have L5 := Go.Lib.hid (LL.out.extN X4.out)
        have hkb : k ≠ b := by have := LL.out.lt; omega
        have hkm : k ≠ m := by have := LL.out.mp.lt; omega
        have X5 := Go.Lib.hid (XX.out.trans X4.out)
        have hnk : ¬ Two b m k := by rintro (e | e); exact hkb e; exact hkm e
        have HNK := Go.Lib.hid hnk; clear hnk
        generalize hqt : q.turn = t
        cases t
        · clear hqt
          have MV := do_moves g q.req
          have ID := inv_do II.out q.req (by have := OK.out.b0; have := OK.out.b1; show q.bits.toNat < _; omega)
          obtain ⟨u0, u1, u2, u3, u4', u5, u6⟩ := P.out _ X4.out
          have MVS := Go.Lib.hid MV; have IDS := Go.Lib.hid ID
          clear MV ID
          go_wp2_with fail
          refine (ask_Request _ _ _ _ _ _ _).mono ?_
          rintro e w6 ⟨rfl, x6⟩
          go_wp2_with fail
          refine (ledger_Do b m g II.out _ _ _ _ _ _ OK.out.c OK.out.s OK.out.k OK.out.id (by have := OK.out.b0; have := OK.out.b1; omega) _ (L5.out.extN x6)).mono ?_
          rintro e w7 ⟨rfl, x7, L7⟩
          obtain ⟨Ms, Me, Mm⟩ := MVS.out
          have W7 := Go.Lib.hid ((WS.out.extN x6).ext x7 HNK.out (L5.out.extN x6).noInts)
          have X7 := Go.Lib.hid ((X5.out.trans x6).step x7 (fun i hi s => by rcases s with s | s <;> omega))
          have L7' : Hid (LD w7 b m (doL g q.req)) := Go.Lib.hid L7
          have EP := Go.Lib.hid Me; have EM := Go.Lib.hid Mm
          rw [show (⟨q.c, q.s, ⟨q.k, q.key, q.bits.toNat, q.id⟩⟩ : Req) = q.req from rfl]
          have I7 := Go.Lib.hid IDS.out.1
          have l1 := (members_facts II.out.mn).2.2.2
          have l2 := (members_facts I7.out.mn).2.2.2
          have K3 : Hid (∀ W', Ext Non w7 W' → W'.cell? ⟨sb, so + i * 7 + 3, none⟩ = some (.int .i64 q.k)) := Go.Lib.hid (fun W' y => by
            have c : w7.cell? ⟨sb, so + i * 7 + 3, none⟩ = some (.int .i64 q.k) := (x7.cell (p := ⟨sb, so + i * 7 + 3, none⟩) (Nat.lt_of_lt_of_le hsb (Nat.le_trans X4.out.size x6.size)) (by
              rintro (e | e) <;> have e : sb = _ := e <;> omega)).trans (P.out _ (X4.out.trans x6)).2.2.2.1
            exact (y.cell (p := ⟨sb, so + i * 7 + 3, none⟩) (lt_of_cell c) id).trans c)
          generalize hG : doL g q.req = G at *
          generalize hR : doR g q.req = R at *
          generalize hEE : doE g q.req = ee at *
          obtain ⟨code, rl⟩ := R
          clear hG hR hEE Me Mm x7 L7 u0 u1 u2 u3 u4' u5 u6 MVS IDS
          generalize hN : G.next = N at *
          generalize hM : g.next = M at *
          have HN := Go.Lib.hid hN; have HM := Go.Lib.hid hM
          clear hN hM
          have AL : Ext Non w7 (w7.alloc (.cells #[.int .i64 code, .float .f64 rl] 43)) := (Ext.refl _ _).alloc _
          rcases Ms with h | ⟨h1, h2, h3, h4⟩ | ⟨h1, h2, h3, h4⟩
          · as_aux_lemma =>
            have hw : IntKind.i64.wrap ((N.length : Int) - (M.length : Int)) = 0 := by rw [h, Int.sub_self]; rfl
            have HQ := Go.Lib.hid h; clear h
            go_wp2_with fail
            refine (ledger_Next b m G I7.out _ (L7'.out.extN AL)).mono ?_
            rintro e w8 ⟨a3, c3, rfl, x8, i3, f3⟩
            rw [HN.out]
            have k3 := K3.out _ (AL.trans x8)
            have W8 := Go.Lib.hid (W7.out.extN (AL.trans x8))
            have X8 := Go.Lib.hid (X7.out.trans (AL.trans x8))
            have L8 := Go.Lib.hid (L7'.out.extN (AL.trans x8))
            have I2 : Hid (Ints w8 a2 c2 M) := Go.Lib.hid (by have := W8.out.i2; rw [HM.out] at this; exact this)
            have E0 := Ext.refl Non w8
            have RC : w8.cell? ⟨w7.heap.size, 0, none⟩ = some (.int .i64 code) := (x8.cell (p := ⟨w7.heap.size, 0, none⟩) (by simp) id).trans (cell_new w7 [.int .i64 code, .float .f64 rl] _ rfl)
            have KW : Hid (∀ W', Ext Non w8 W' → W'.cell? ⟨k, 0, none⟩ = some (.int .i64 g.epoch) ∧ W'.cell? ⟨k, 1, none⟩ = some (.slice a1 g.mem.length c1) ∧ W'.cell? ⟨w7.heap.size, 0, none⟩ = some (.int .i64 code)) :=
              Go.Lib.hid (fun W' y => ⟨(W8.out.extN y).q0, (W8.out.extN y).q1, (y.cell (p := ⟨w7.heap.size, 0, none⟩) (lt_of_cell RC) id).trans RC⟩)
            clear x8 AL i3 f3 RC
            go_upto_region 19 with fail
            clear k3
            go_cut [162] (fun v wx => v = .bool false ∧ Ext Non w8 wx)
            case first =>
              obtain ⟨r0, r1, r2⟩ := KW.out _ E0
              refine wp_region_held_drew (S := (fun w' => w'.cell? ⟨k, 0, none⟩ = some (.int .i64 g.epoch) ∧ w'.cell? ⟨k, 1, none⟩ = some (.slice a1 g.mem.length c1) ∧ w'.cell? ⟨w7.heap.size, 0, none⟩ = some (.int .i64 code))) (by kernel_rfl) (by first | exact KW.out _ (by (first | exact E4 | exact Ext.drew E4 | exact Ext.alloc E4 _ | exact Ext.alloc (Ext.drew E4) _ | exact Ext.drew (Ext.alloc E4 _) | exact Ext.alloc (Ext.alloc E4 _) _ | exact Ext.alloc (Ext.alloc (Ext.drew E4) _) _ | exact Ext.alloc (Ext.drew (Ext.alloc E4 _)) _ | exact Ext.drew (Ext.alloc (Ext.alloc E4 _) _))) | exact KW.out _ (by (first | exact E3 | exact Ext.drew E3 | exact Ext.alloc E3 _ | exact Ext.alloc (Ext.drew E3) _ | exact Ext.drew (Ext.alloc E3 _) | exact Ext.alloc (Ext.alloc E3 _) _ | exact Ext.alloc (Ext.alloc (Ext.drew E3) _) _ | exact Ext.alloc (Ext.drew (Ext.alloc E3 _)) _ | exact Ext.drew (Ext.alloc (Ext.alloc E3 _) _))) | exact KW.out _ (by (first | exact E2 | exact Ext.drew E2 | exact Ext.alloc E2 _ | exact Ext.alloc (Ext.drew E2) _ | exact Ext.drew (Ext.alloc E2 _) | exact Ext.alloc (Ext.alloc E2 _) _ | exact Ext.alloc (Ext.alloc (Ext.drew E2) _) _ | exact Ext.alloc (Ext.drew (Ext.alloc E2 _)) _ | exact Ext.drew (Ext.alloc (Ext.alloc E2 _) _))) | exact KW.out _ (by (first | exact E1 | exact Ext.drew E1 | exact Ext.alloc E1 _ | exact Ext.alloc (Ext.drew E1) _ | exact Ext.drew (Ext.alloc E1 _) | exact Ext.alloc (Ext.alloc E1 _) _ | exact Ext.alloc (Ext.alloc (Ext.drew E1) _) _ | exact Ext.alloc (Ext.drew (Ext.alloc E1 _)) _ | exact Ext.drew (Ext.alloc (Ext.alloc E1 _) _))) | exact KW.out _ (by (first | exact E0 | exact Ext.drew E0 | exact Ext.alloc E0 _ | exact Ext.alloc (Ext.drew E0) _ | exact Ext.drew (Ext.alloc E0 _) | exact Ext.alloc (Ext.alloc E0 _) _ | exact Ext.alloc (Ext.alloc (Ext.drew E0) _) _ | exact Ext.alloc (Ext.drew (Ext.alloc E0 _)) _ | exact Ext.drew (Ext.alloc (Ext.alloc E0 _) _)))) (fun hHeld => ?_)
              refine' wpAnyH_take (i := 0) ?hia0 (by kernel_rfl) (by kernel_rfl) (by kernel_rfl) ?hQa0 ?hya0 hHeld ?ha0
              case hia0 => (simp only [List.getElem?_toArray, List.getElem?_cons_succ, List.getElem?_cons_zero]; rfl)
              case hQa0 => exact fun _ _ _ h => h
              case hya0 => (refine Or.inl ⟨by rfl, ?_⟩; intro w hSw; (try dsimp only at hSw); go_simp <;> with_reducible rfl)
              try simp only [Act.put, List.setIfInBounds_toArray, List.set_cons_zero, List.set_cons_succ]
              refine' wpAnyH_take (i := 2) ?hia2 (by kernel_rfl) (by kernel_rfl) (by kernel_rfl) ?hQa2 ?hya2 hHeld ?ha2
              case hia2 => (simp only [List.getElem?_toArray, List.getElem?_cons_succ, List.getElem?_cons_zero]; rfl)
              case hQa2 => exact fun _ _ _ h => h
              case hya2 => (refine Or.inl ⟨by rfl, ?_⟩; intro w hSw; (try dsimp only at hSw); go_simp <;> with_reducible rfl)
              try simp only [Act.put, List.setIfInBounds_toArray, List.set_cons_zero, List.set_cons_succ]
              refine wpAnyH_ready (rs := [1]) (by kernel_rfl) (by simp) ?_
              refine AllReadyH.cons (o := _) (by simp only [List.getElem?_toArray, List.getElem?_cons_succ, List.getElem?_cons_zero]; rfl) (fun K hK => ?_) AllReadyH.nil
              go_simp
              go_at_call 10
              refine Calls.mono (ledger_Conf b m G I7.out _ (L8.out.extN (by (first | exact E0 | exact Ext.drew E0 | exact Ext.alloc E0 _ | exact Ext.alloc (Ext.drew E0) _ | exact Ext.drew (Ext.alloc E0 _) | exact Ext.alloc (Ext.alloc E0 _) _ | exact Ext.alloc (Ext.alloc (Ext.drew E0) _) _ | exact Ext.alloc (Ext.drew (Ext.alloc E0 _)) _ | exact Ext.drew (Ext.alloc (Ext.alloc E0 _) _))))) ?_
              rintro e w9 ⟨a4, c4, rfl, x9, i9, f9⟩
              rw [EP.out, EM.out]
              rw [EM.out] at i9
              have E1 : Ext Non w8 w9 := (by (first | exact E0 | exact Ext.drew E0 | exact Ext.alloc E0 _ | exact Ext.alloc (Ext.drew E0) _ | exact Ext.drew (Ext.alloc E0 _) | exact Ext.alloc (Ext.alloc E0 _) _ | exact Ext.alloc (Ext.alloc (Ext.drew E0) _) _ | exact Ext.alloc (Ext.drew (Ext.alloc E0 _)) _ | exact Ext.drew (Ext.alloc (Ext.alloc E0 _) _)) : Ext Non w8 _).trans x9
              have Z1 := Ext.refl Non w9
              dsimp only
              refine hK.out _ _ (by first | exact KW.out _ (by (first | exact E4 | exact Ext.drew E4 | exact Ext.alloc E4 _ | exact Ext.alloc (Ext.drew E4) _ | exact Ext.drew (Ext.alloc E4 _) | exact Ext.alloc (Ext.alloc E4 _) _ | exact Ext.alloc (Ext.alloc (Ext.drew E4) _) _ | exact Ext.alloc (Ext.drew (Ext.alloc E4 _)) _ | exact Ext.drew (Ext.alloc (Ext.alloc E4 _) _))) | exact KW.out _ (by (first | exact E3 | exact Ext.drew E3 | exact Ext.alloc E3 _ | exact Ext.alloc (Ext.drew E3) _ | exact Ext.drew (Ext.alloc E3 _) | exact Ext.alloc (Ext.alloc E3 _) _ | exact Ext.alloc (Ext.alloc (Ext.drew E3) _) _ | exact Ext.alloc (Ext.drew (Ext.alloc E3 _)) _ | exact Ext.drew (Ext.alloc (Ext.alloc E3 _) _))) | exact KW.out _ (by (first | exact E2 | exact Ext.drew E2 | exact Ext.alloc E2 _ | exact Ext.alloc (Ext.drew E2) _ | exact Ext.drew (Ext.alloc E2 _) | exact Ext.alloc (Ext.alloc E2 _) _ | exact Ext.alloc (Ext.alloc (Ext.drew E2) _) _ | exact Ext.alloc (Ext.drew (Ext.alloc E2 _)) _ | exact Ext.drew (Ext.alloc (Ext.alloc E2 _) _))) | exact KW.out _ (by (first | exact E1 | exact Ext.drew E1 | exact Ext.alloc E1 _ | exact Ext.alloc (Ext.drew E1) _ | exact Ext.drew (Ext.alloc E1 _) | exact Ext.alloc (Ext.alloc E1 _) _ | exact Ext.alloc (Ext.alloc (Ext.drew E1) _) _ | exact Ext.alloc (Ext.drew (Ext.alloc E1 _)) _ | exact Ext.drew (Ext.alloc (Ext.alloc E1 _) _))) | exact KW.out _ (by (first | exact E0 | exact Ext.drew E0 | exact Ext.alloc E0 _ | exact Ext.alloc (Ext.drew E0) _ | exact Ext.drew (Ext.alloc E0 _) | exact Ext.alloc (Ext.alloc E0 _) _ | exact Ext.alloc (Ext.alloc (Ext.drew E0) _) _ | exact Ext.alloc (Ext.drew (Ext.alloc E0 _)) _ | exact Ext.drew (Ext.alloc (Ext.alloc E0 _) _)))) (fun hHeld => ?_)
              clear hK K
              try simp only [Act.put, List.setIfInBounds_toArray, List.set_cons_zero, List.set_cons_succ]
              refine wpAnyH_ready (rs := [3]) (by kernel_rfl) (by simp) ?_
              refine AllReadyH.cons (o := _) (by simp only [List.getElem?_toArray, List.getElem?_cons_succ, List.getElem?_cons_zero]; rfl) (fun K hK => ?_) AllReadyH.nil
              go_simp
              go_at_call 15
              refine Calls.mono (ref_Same _ _ _ _ _ _ _ _ _ (i9.extN (by (first | exact Z1 | exact Ext.drew Z1 | exact Ext.alloc Z1 _ | exact Ext.alloc (Ext.drew Z1) _ | exact Ext.drew (Ext.alloc Z1 _) | exact Ext.alloc (Ext.alloc Z1 _) _ | exact Ext.alloc (Ext.alloc (Ext.drew Z1) _) _ | exact Ext.alloc (Ext.drew (Ext.alloc Z1 _)) _ | exact Ext.drew (Ext.alloc (Ext.alloc Z1 _) _)))) (W8.out.i1.extN (by (first | exact E1 | exact Ext.drew E1 | exact Ext.alloc E1 _ | exact Ext.alloc (Ext.drew E1) _ | exact Ext.drew (Ext.alloc E1 _) | exact Ext.alloc (Ext.alloc E1 _) _ | exact Ext.alloc (Ext.alloc (Ext.drew E1) _) _ | exact Ext.alloc (Ext.drew (Ext.alloc E1 _)) _ | exact Ext.drew (Ext.alloc (Ext.alloc E1 _) _))))) ?_
              rintro e w10 ⟨rfl, x10⟩
              rw [decide_eq_true (rfl : g.mem = g.mem), decide_eq_true (rfl : g.epoch = g.epoch)]
              have E2 : Ext Non w8 w10 := (by (first | exact E1 | exact Ext.drew E1 | exact Ext.alloc E1 _ | exact Ext.alloc (Ext.drew E1) _ | exact Ext.drew (Ext.alloc E1 _) | exact Ext.alloc (Ext.alloc E1 _) _ | exact Ext.alloc (Ext.alloc (Ext.drew E1) _) _ | exact Ext.alloc (Ext.drew (Ext.alloc E1 _)) _ | exact Ext.drew (Ext.alloc (Ext.alloc E1 _) _)) : Ext Non w8 _).trans x10
              dsimp only
              refine hK.out _ _ (by first | exact KW.out _ (by (first | exact E4 | exact Ext.drew E4 | exact Ext.alloc E4 _ | exact Ext.alloc (Ext.drew E4) _ | exact Ext.drew (Ext.alloc E4 _) | exact Ext.alloc (Ext.alloc E4 _) _ | exact Ext.alloc (Ext.alloc (Ext.drew E4) _) _ | exact Ext.alloc (Ext.drew (Ext.alloc E4 _)) _ | exact Ext.drew (Ext.alloc (Ext.alloc E4 _) _))) | exact KW.out _ (by (first | exact E3 | exact Ext.drew E3 | exact Ext.alloc E3 _ | exact Ext.alloc (Ext.drew E3) _ | exact Ext.drew (Ext.alloc E3 _) | exact Ext.alloc (Ext.alloc E3 _) _ | exact Ext.alloc (Ext.alloc (Ext.drew E3) _) _ | exact Ext.alloc (Ext.drew (Ext.alloc E3 _)) _ | exact Ext.drew (Ext.alloc (Ext.alloc E3 _) _))) | exact KW.out _ (by (first | exact E2 | exact Ext.drew E2 | exact Ext.alloc E2 _ | exact Ext.alloc (Ext.drew E2) _ | exact Ext.drew (Ext.alloc E2 _) | exact Ext.alloc (Ext.alloc E2 _) _ | exact Ext.alloc (Ext.alloc (Ext.drew E2) _) _ | exact Ext.alloc (Ext.drew (Ext.alloc E2 _)) _ | exact Ext.drew (Ext.alloc (Ext.alloc E2 _) _))) | exact KW.out _ (by (first | exact E1 | exact Ext.drew E1 | exact Ext.alloc E1 _ | exact Ext.alloc (Ext.drew E1) _ | exact Ext.drew (Ext.alloc E1 _) | exact Ext.alloc (Ext.alloc E1 _) _ | exact Ext.alloc (Ext.alloc (Ext.drew E1) _) _ | exact Ext.alloc (Ext.drew (Ext.alloc E1 _)) _ | exact Ext.drew (Ext.alloc (Ext.alloc E1 _) _))) | exact KW.out _ (by (first | exact E0 | exact Ext.drew E0 | exact Ext.alloc E0 _ | exact Ext.alloc (Ext.drew E0) _ | exact Ext.drew (Ext.alloc E0 _) | exact Ext.alloc (Ext.alloc E0 _) _ | exact Ext.alloc (Ext.alloc (Ext.drew E0) _) _ | exact Ext.alloc (Ext.drew (Ext.alloc E0 _)) _ | exact Ext.drew (Ext.alloc (Ext.alloc E0 _) _)))) (fun hHeld => ?_)
              clear hK K
              try simp only [Act.put, List.setIfInBounds_toArray, List.set_cons_zero, List.set_cons_succ]
              refine' wpAnyH_take (i := 4) ?hia4 (by kernel_rfl) (by kernel_rfl) (by kernel_rfl) ?hQa4 ?hya4 hHeld ?ha4
              case hia4 => (simp only [List.getElem?_toArray, List.getElem?_cons_succ, List.getElem?_cons_zero]; rfl)
              case hQa4 => exact fun _ _ _ h => h
              case hya4 => (refine Or.inl ⟨by rfl, ?_⟩; intro w hSw; (try dsimp only at hSw); go_simp <;> with_reducible rfl)
              try simp only [Act.put, List.setIfInBounds_toArray, List.set_cons_zero, List.set_cons_succ]
              refine' wpAnyH_take (i := 5) ?hia5 (by kernel_rfl) (by kernel_rfl) (by kernel_rfl) ?hQa5 ?hya5 hHeld ?ha5
              case hia5 => (simp only [List.getElem?_toArray, List.getElem?_cons_succ, List.getElem?_cons_zero]; rfl)
              case hQa5 => exact fun _ _ _ h => h
              case hya5 => (refine Or.inl ⟨by rfl, ?_⟩; intro w hSw; (try dsimp only at hSw); go_simp <;> with_reducible rfl)
              try simp only [Act.put, List.setIfInBounds_toArray, List.set_cons_zero, List.set_cons_succ]
              refine' wpAnyH_take (i := 6) ?hia6 (by kernel_rfl) (by kernel_rfl) (by kernel_rfl) ?hQa6 ?hya6 hHeld ?ha6
              case hia6 => (simp only [List.getElem?_toArray, List.getElem?_cons_succ, List.getElem?_cons_zero]; rfl)
              case hQa6 => exact fun _ _ _ h => h
              case hya6 => (refine Or.inl ⟨by rfl, ?_⟩; intro w hSw; (try dsimp only at hSw); go_simp <;> with_reducible rfl)
              try simp only [Act.put, List.setIfInBounds_toArray, List.set_cons_zero, List.set_cons_succ]
              refine' wpAnyH_take (i := 7) ?hia7 (by kernel_rfl) (by kernel_rfl) (by kernel_rfl) ?hQa7 ?hya7 hHeld ?ha7
              case hia7 => (simp only [List.getElem?_toArray, List.getElem?_cons_succ, List.getElem?_cons_zero]; rfl)
              case hQa7 => exact fun _ _ _ h => h
              case hya7 => (refine Or.inl ⟨by rfl, ?_⟩; intro w hSw; (try dsimp only at hSw); go_simp <;> with_reducible rfl)
              try simp only [Act.put, List.setIfInBounds_toArray, List.set_cons_zero, List.set_cons_succ]
              refine' wpAnyH_take (i := 8) ?hia8 (by kernel_rfl) (by kernel_rfl) (by kernel_rfl) ?hQa8 ?hya8 hHeld ?ha8
              case hia8 => (simp only [List.getElem?_toArray, List.getElem?_cons_succ, List.getElem?_cons_zero]; rfl)
              case hQa8 => exact fun _ _ _ h => h
              case hya8 => (refine Or.inl ⟨by rfl, ?_⟩; intro w hSw; (try dsimp only at hSw); go_simp <;> with_reducible rfl)
              try simp only [Act.put, List.setIfInBounds_toArray, List.set_cons_zero, List.set_cons_succ]
              refine' wpAnyH_take (i := 9) ?hia9 (by kernel_rfl) (by kernel_rfl) (by kernel_rfl) ?hQa9 ?hya9 hHeld ?ha9
              case hia9 => (simp only [List.getElem?_toArray, List.getElem?_cons_succ, List.getElem?_cons_zero]; rfl)
              case hQa9 => exact fun _ _ _ h => h
              case hya9 => (refine Or.inl ⟨by rfl, ?_⟩; intro w hSw; (try dsimp only at hSw); go_simp <;> with_reducible rfl)
              try simp only [Act.put, List.setIfInBounds_toArray, List.set_cons_zero, List.set_cons_succ]
              refine' wpAnyH_take (i := 10) ?hia10 (by kernel_rfl) (by kernel_rfl) (by kernel_rfl) ?hQa10 ?hya10 hHeld ?ha10
              case hia10 => (simp only [List.getElem?_toArray, List.getElem?_cons_succ, List.getElem?_cons_zero]; rfl)
              case hQa10 => exact fun _ _ _ h => h
              case hya10 => (refine Or.inl ⟨by rfl, ?_⟩; intro w hSw; (try dsimp only at hSw); go_simp <;> with_reducible rfl)
              try simp only [Act.put, List.setIfInBounds_toArray, List.set_cons_zero, List.set_cons_succ]
              refine' wpAnyH_take (i := 11) ?hia11 (by kernel_rfl) (by kernel_rfl) (by kernel_rfl) ?hQa11 ?hya11 hHeld ?ha11
              case hia11 => (simp only [List.getElem?_toArray, List.getElem?_cons_succ, List.getElem?_cons_zero]; rfl)
              case hQa11 => exact fun _ _ _ h => h
              case hya11 => (refine Or.inl ⟨by rfl, ?_⟩; intro w hSw; (try dsimp only at hSw); go_simp <;> with_reducible rfl)
              try simp only [Act.put, List.setIfInBounds_toArray, List.set_cons_zero, List.set_cons_succ]
              refine' wpAnyH_take (i := 12) ?hia12 (by kernel_rfl) (by kernel_rfl) (by kernel_rfl) ?hQa12 ?hya12 hHeld ?ha12
              case hia12 => (simp only [List.getElem?_toArray, List.getElem?_cons_succ, List.getElem?_cons_zero]; rfl)
              case hQa12 => exact fun _ _ _ h => h
              case hya12 => (refine Or.inl ⟨by rfl, ?_⟩; intro w hSw; (try dsimp only at hSw); go_simp <;> with_reducible rfl)
              try simp only [Act.put, List.setIfInBounds_toArray, List.set_cons_zero, List.set_cons_succ]
              refine' wpAnyH_take (i := 13) ?hia13 (by kernel_rfl) (by kernel_rfl) (by kernel_rfl) ?hQa13 ?hya13 hHeld ?ha13
              case hia13 => (simp only [List.getElem?_toArray, List.getElem?_cons_succ, List.getElem?_cons_zero]; rfl)
              case hQa13 => exact fun _ _ _ h => h
              case hya13 => (refine Or.inl ⟨by rfl, ?_⟩; intro w hSw; (try dsimp only at hSw); go_simp <;> with_reducible rfl)
              try simp only [Act.put, List.setIfInBounds_toArray, List.set_cons_zero, List.set_cons_succ]
              refine' wpAnyH_take (i := 14) ?hia14 (by kernel_rfl) (by kernel_rfl) (by kernel_rfl) ?hQa14 ?hya14 hHeld ?ha14
              case hia14 => (simp only [List.getElem?_toArray, List.getElem?_cons_succ, List.getElem?_cons_zero]; rfl)
              case hQa14 => exact fun _ _ _ h => h
              case hya14 => (refine Or.inl ⟨by rfl, ?_⟩; intro w hSw; (try dsimp only at hSw); go_simp <;> with_reducible rfl)
              try simp only [Act.put, List.setIfInBounds_toArray, List.set_cons_zero, List.set_cons_succ]
              refine' wpAnyH_take (i := 15) ?hia15 (by kernel_rfl) (by kernel_rfl) (by kernel_rfl) ?hQa15 ?hya15 hHeld ?ha15
              case hia15 => (simp only [List.getElem?_toArray, List.getElem?_cons_succ, List.getElem?_cons_zero]; rfl)
              case hQa15 => exact fun _ _ _ h => h
              case hya15 => (refine Or.inl ⟨by rfl, ?_⟩; intro w hSw; (try dsimp only at hSw); go_simp <;> with_reducible rfl)
              try simp only [Act.put, List.setIfInBounds_toArray, List.set_cons_zero, List.set_cons_succ]
              refine' wpAnyH_take (i := 16) ?hia16 (by kernel_rfl) (by kernel_rfl) (by kernel_rfl) ?hQa16 ?hya16 hHeld ?ha16
              case hia16 => (simp only [List.getElem?_toArray, List.getElem?_cons_succ, List.getElem?_cons_zero]; rfl)
              case hQa16 => exact fun _ _ _ h => h
              case hya16 => (refine Or.inl ⟨by rfl, ?_⟩; intro w hSw; (try dsimp only at hSw); go_simp <;> with_reducible rfl)
              try simp only [Act.put, List.setIfInBounds_toArray, List.set_cons_zero, List.set_cons_succ]
              refine' wpAnyH_take (i := 17) ?hia17 (by kernel_rfl) (by kernel_rfl) (by kernel_rfl) ?hQa17 ?hya17 hHeld ?ha17
              case hia17 => (simp only [List.getElem?_toArray, List.getElem?_cons_succ, List.getElem?_cons_zero]; rfl)
              case hQa17 => exact fun _ _ _ h => h
              case hya17 => exact Or.inr ⟨by rfl, rfl⟩
              try simp only [Act.put, List.setIfInBounds_toArray, List.set_cons_zero, List.set_cons_succ]
              refine' wpAnyH_take (i := 18) ?hia18 (by kernel_rfl) (by kernel_rfl) (by kernel_rfl) ?hQa18 ?hya18 hHeld ?ha18
              case hia18 => (simp only [List.getElem?_toArray, List.getElem?_cons_succ, List.getElem?_cons_zero]; rfl)
              case hQa18 => exact fun _ _ _ h => h
              case hya18 => exact Or.inr ⟨by rfl, rfl⟩
              try simp only [Act.put, List.setIfInBounds_toArray, List.set_cons_zero, List.set_cons_succ]
              refine' wpAnyH_take (i := 19) ?hia19 (by kernel_rfl) (by kernel_rfl) (by kernel_rfl) ?hQa19 ?hya19 hHeld ?ha19
              case hia19 => (simp only [List.getElem?_toArray, List.getElem?_cons_succ, List.getElem?_cons_zero]; rfl)
              case hQa19 => exact fun _ _ _ h => h
              case hya19 => (refine Or.inl ⟨by rfl, ?_⟩; intro w hSw; (try dsimp only at hSw); go_simp <;> with_reducible rfl)
              try simp only [Act.put, List.setIfInBounds_toArray, List.set_cons_zero, List.set_cons_succ]
              refine' wpAnyH_take (i := 20) ?hia20 (by kernel_rfl) (by kernel_rfl) (by kernel_rfl) ?hQa20 ?hya20 hHeld ?ha20
              case hia20 => (simp only [List.getElem?_toArray, List.getElem?_cons_succ, List.getElem?_cons_zero]; rfl)
              case hQa20 => exact fun _ _ _ h => h
              case hya20 => (refine Or.inl ⟨by rfl, ?_⟩; intro w hSw; (try dsimp only at hSw); go_simp <;> with_reducible rfl)
              try simp only [Act.put, List.setIfInBounds_toArray, List.set_cons_zero, List.set_cons_succ]
              refine' wpAnyH_take (i := 21) ?hia21 (by kernel_rfl) (by kernel_rfl) (by kernel_rfl) ?hQa21 ?hya21 hHeld ?ha21
              case hia21 => (simp only [List.getElem?_toArray, List.getElem?_cons_succ, List.getElem?_cons_zero]; rfl)
              case hQa21 => exact fun _ _ _ h => h
              case hya21 => (refine Or.inl ⟨by rfl, ?_⟩; intro w hSw; (try dsimp only at hSw); go_simp <;> with_reducible rfl)
              try simp only [Act.put, List.setIfInBounds_toArray, List.set_cons_zero, List.set_cons_succ]
              refine' wpAnyH_take (i := 22) ?hia22 (by kernel_rfl) (by kernel_rfl) (by kernel_rfl) ?hQa22 ?hya22 hHeld ?ha22
              case hia22 => (simp only [List.getElem?_toArray, List.getElem?_cons_succ, List.getElem?_cons_zero]; rfl)
              case hQa22 => exact fun _ _ _ h => h
              case hya22 => (refine Or.inl ⟨by rfl, ?_⟩; intro w hSw; (try dsimp only at hSw); go_simp <;> with_reducible rfl)
              try simp only [Act.put, List.setIfInBounds_toArray, List.set_cons_zero, List.set_cons_succ]
              refine' wpAnyH_take (i := 23) ?hia23 (by kernel_rfl) (by kernel_rfl) (by kernel_rfl) ?hQa23 ?hya23 hHeld ?ha23
              case hia23 => (simp only [List.getElem?_toArray, List.getElem?_cons_succ, List.getElem?_cons_zero]; rfl)
              case hQa23 => exact fun _ _ _ h => h
              case hya23 => (refine Or.inl ⟨by rfl, ?_⟩; intro w hSw; (try dsimp only at hSw); go_simp <;> with_reducible rfl)
              try simp only [Act.put, List.setIfInBounds_toArray, List.set_cons_zero, List.set_cons_succ]
              refine' wpAnyH_take (i := 24) ?hia24 (by kernel_rfl) (by kernel_rfl) (by kernel_rfl) ?hQa24 ?hya24 hHeld ?ha24
              case hia24 => (simp only [List.getElem?_toArray, List.getElem?_cons_succ, List.getElem?_cons_zero]; rfl)
              case hQa24 => exact fun _ _ _ h => h
              case hya24 => (refine Or.inl ⟨by rfl, ?_⟩; intro w hSw; (try dsimp only at hSw); go_simp <;> with_reducible rfl)
              try simp only [Act.put, List.setIfInBounds_toArray, List.set_cons_zero, List.set_cons_succ]
              refine' wpAnyH_take (i := 25) ?hia25 (by kernel_rfl) (by kernel_rfl) (by kernel_rfl) ?hQa25 ?hya25 hHeld ?ha25
              case hia25 => (simp only [List.getElem?_toArray, List.getElem?_cons_succ, List.getElem?_cons_zero]; rfl)
              case hQa25 => exact fun _ _ _ h => h
              case hya25 => exact Or.inr ⟨by rfl, rfl⟩
              try simp only [Act.put, List.setIfInBounds_toArray, List.set_cons_zero, List.set_cons_succ]
              refine' wpAnyH_take (i := 26) ?hia26 (by kernel_rfl) (by kernel_rfl) (by kernel_rfl) ?hQa26 ?hya26 hHeld ?ha26
              case hia26 => (simp only [List.getElem?_toArray, List.getElem?_cons_succ, List.getElem?_cons_zero]; rfl)
              case hQa26 => exact fun _ _ _ h => h
              case hya26 => exact Or.inr ⟨by rfl, rfl⟩
              try simp only [Act.put, List.setIfInBounds_toArray, List.set_cons_zero, List.set_cons_succ]
              refine' wpAnyH_take (i := 27) ?hia27 (by kernel_rfl) (by kernel_rfl) (by kernel_rfl) ?hQa27 ?hya27 hHeld ?ha27
              case hia27 => (simp only [List.getElem?_toArray, List.getElem?_cons_succ, List.getElem?_cons_zero]; rfl)
              case hQa27 => exact fun _ _ _ h => h
              case hya27 => (refine Or.inl ⟨by rfl, ?_⟩; intro w hSw; (try dsimp only at hSw); go_simp <;> with_reducible rfl)
              try simp only [Act.put, List.setIfInBounds_toArray, List.set_cons_zero, List.set_cons_succ]
              refine' wpAnyH_take (i := 28) ?hia28 (by kernel_rfl) (by kernel_rfl) (by kernel_rfl) ?hQa28 ?hya28 hHeld ?ha28
              case hia28 => (simp only [List.getElem?_toArray, List.getElem?_cons_succ, List.getElem?_cons_zero]; rfl)
              case hQa28 => exact fun _ _ _ h => h
              case hya28 => (refine Or.inl ⟨by rfl, ?_⟩; intro w hSw; (try dsimp only at hSw); go_simp <;> with_reducible rfl)
              try simp only [Act.put, List.setIfInBounds_toArray, List.set_cons_zero, List.set_cons_succ]
              refine' wpAnyH_take (i := 29) ?hia29 (by kernel_rfl) (by kernel_rfl) (by kernel_rfl) ?hQa29 ?hya29 hHeld ?ha29
              case hia29 => (simp only [List.getElem?_toArray, List.getElem?_cons_succ, List.getElem?_cons_zero]; rfl)
              case hQa29 => exact fun _ _ _ h => h
              case hya29 => (refine Or.inl ⟨by rfl, ?_⟩; intro w hSw; (try dsimp only at hSw); go_simp <;> with_reducible rfl)
              try simp only [Act.put, List.setIfInBounds_toArray, List.set_cons_zero, List.set_cons_succ]
              refine' wpAnyH_take (i := 30) ?hia30 (by kernel_rfl) (by kernel_rfl) (by kernel_rfl) ?hQa30 ?hya30 hHeld ?ha30
              case hia30 => (simp only [List.getElem?_toArray, List.getElem?_cons_succ, List.getElem?_cons_zero]; rfl)
              case hQa30 => exact fun _ _ _ h => h
              case hya30 => (refine Or.inl ⟨by rfl, ?_⟩; intro w hSw; (try dsimp only at hSw); go_simp <;> with_reducible rfl)
              try simp only [Act.put, List.setIfInBounds_toArray, List.set_cons_zero, List.set_cons_succ]
              refine' wpAnyH_take (i := 31) ?hia31 (by kernel_rfl) (by kernel_rfl) (by kernel_rfl) ?hQa31 ?hya31 hHeld ?ha31
              case hia31 => (simp only [List.getElem?_toArray, List.getElem?_cons_succ, List.getElem?_cons_zero]; rfl)
              case hQa31 => exact fun _ _ _ h => h
              case hya31 => (refine Or.inl ⟨by rfl, ?_⟩; intro w hSw; (try dsimp only at hSw); go_simp <;> with_reducible rfl)
              try simp only [Act.put, List.setIfInBounds_toArray, List.set_cons_zero, List.set_cons_succ]
              refine' wpAnyH_take (i := 32) ?hia32 (by kernel_rfl) (by kernel_rfl) (by kernel_rfl) ?hQa32 ?hya32 hHeld ?ha32
              case hia32 => (simp only [List.getElem?_toArray, List.getElem?_cons_succ, List.getElem?_cons_zero]; rfl)
              case hQa32 => exact fun _ _ _ h => h
              case hya32 => (refine Or.inl ⟨by rfl, ?_⟩; intro w hSw; (try dsimp only at hSw); go_simp <;> with_reducible rfl)
              try simp only [Act.put, List.setIfInBounds_toArray, List.set_cons_zero, List.set_cons_succ]
              refine' wpAnyH_take (i := 33) ?hia33 (by kernel_rfl) (by kernel_rfl) (by kernel_rfl) ?hQa33 ?hya33 hHeld ?ha33
              case hia33 => (simp only [List.getElem?_toArray, List.getElem?_cons_succ, List.getElem?_cons_zero]; rfl)
              case hQa33 => exact fun _ _ _ h => h
              case hya33 => exact Or.inr ⟨by rfl, rfl⟩
              try simp only [Act.put, List.setIfInBounds_toArray, List.set_cons_zero, List.set_cons_succ]
              refine' wpAnyH_take (i := 34) ?hia34 (by kernel_rfl) (by kernel_rfl) (by kernel_rfl) ?hQa34 ?hya34 hHeld ?ha34
              case hia34 => (simp only [List.getElem?_toArray, List.getElem?_cons_succ, List.getElem?_cons_zero]; rfl)
              case hQa34 => exact fun _ _ _ h => h
              case hya34 => exact Or.inr ⟨by rfl, rfl⟩
              try simp only [Act.put, List.setIfInBounds_toArray, List.set_cons_zero, List.set_cons_succ]
              refine' wpAnyH_take (i := 35) ?hia35 (by kernel_rfl) (by kernel_rfl) (by kernel_rfl) ?hQa35 ?hya35 hHeld ?ha35
              case hia35 => (simp only [List.getElem?_toArray, List.getElem?_cons_succ, List.getElem?_cons_zero]; rfl)
              case hQa35 => exact fun _ _ _ h => h
              case hya35 => exact Or.inr ⟨by rfl, rfl⟩
              try simp only [Act.put, List.setIfInBounds_toArray, List.set_cons_zero, List.set_cons_succ]
              refine' wpAnyH_take (i := 36) ?hia36 (by kernel_rfl) (by kernel_rfl) (by kernel_rfl) ?hQa36 ?hya36 hHeld ?ha36
              case hia36 => (simp only [List.getElem?_toArray, List.getElem?_cons_succ, List.getElem?_cons_zero]; rfl)
              case hQa36 => exact fun _ _ _ h => h
              case hya36 => exact Or.inr ⟨by rfl, rfl⟩
              try simp only [Act.put, List.setIfInBounds_toArray, List.set_cons_zero, List.set_cons_succ]
              refine' wpAnyH_take (i := 37) ?hia37 (by kernel_rfl) (by kernel_rfl) (by kernel_rfl) ?hQa37 ?hya37 hHeld ?ha37
              case hia37 => (simp only [List.getElem?_toArray, List.getElem?_cons_succ, List.getElem?_cons_zero]; rfl)
              case hQa37 => exact fun _ _ _ h => h
              case hya37 => exact Or.inr ⟨by rfl, rfl⟩
              try simp only [Act.put, List.setIfInBounds_toArray, List.set_cons_zero, List.set_cons_succ]
              refine' wpAnyH_take (i := 38) ?hia38 (by kernel_rfl) (by kernel_rfl) (by kernel_rfl) ?hQa38 ?hya38 hHeld ?ha38
              case hia38 => (simp only [List.getElem?_toArray, List.getElem?_cons_succ, List.getElem?_cons_zero]; rfl)
              case hQa38 => exact fun _ _ _ h => h
              case hya38 => exact Or.inr ⟨by rfl, rfl⟩
              try simp only [Act.put, List.setIfInBounds_toArray, List.set_cons_zero, List.set_cons_succ]
              refine' wpAnyH_take (i := 39) ?hia39 (by kernel_rfl) (by kernel_rfl) (by kernel_rfl) ?hQa39 ?hya39 hHeld ?ha39
              case hia39 => (simp only [List.getElem?_toArray, List.getElem?_cons_succ, List.getElem?_cons_zero]; rfl)
              case hQa39 => exact fun _ _ _ h => h
              case hya39 => exact Or.inr ⟨by rfl, rfl⟩
              try simp only [Act.put, List.setIfInBounds_toArray, List.set_cons_zero, List.set_cons_succ]
              refine' wpAnyH_take (i := 40) ?hia40 (by kernel_rfl) (by kernel_rfl) (by kernel_rfl) ?hQa40 ?hya40 hHeld ?ha40
              case hia40 => (simp only [List.getElem?_toArray, List.getElem?_cons_succ, List.getElem?_cons_zero]; rfl)
              case hQa40 => exact fun _ _ _ h => h
              case hya40 => (refine Or.inl ⟨by rfl, ?_⟩; intro w hSw; (try dsimp only at hSw); go_simp <;> with_reducible rfl)
              try simp only [Act.put, List.setIfInBounds_toArray, List.set_cons_zero, List.set_cons_succ]
              refine' wpAnyH_take (i := 41) ?hia41 (by kernel_rfl) (by kernel_rfl) (by kernel_rfl) ?hQa41 ?hya41 hHeld ?ha41
              case hia41 => (simp only [List.getElem?_toArray, List.getElem?_cons_succ, List.getElem?_cons_zero]; rfl)
              case hQa41 => exact fun _ _ _ h => h
              case hya41 => (refine Or.inl ⟨by rfl, ?_⟩; intro w hSw; (try dsimp only at hSw); go_simp <;> with_reducible rfl)
              try simp only [Act.put, List.setIfInBounds_toArray, List.set_cons_zero, List.set_cons_succ]
              refine' wpAnyH_take (i := 42) ?hia42 (by kernel_rfl) (by kernel_rfl) (by kernel_rfl) ?hQa42 ?hya42 hHeld ?ha42
              case hia42 => (simp only [List.getElem?_toArray, List.getElem?_cons_succ, List.getElem?_cons_zero]; rfl)
              case hQa42 => exact fun _ _ _ h => h
              case hya42 => (refine Or.inl ⟨by rfl, ?_⟩; intro w hSw; (try dsimp only at hSw); go_simp <;> with_reducible rfl)
              try simp only [Act.put, List.setIfInBounds_toArray, List.set_cons_zero, List.set_cons_succ]
              refine' wpAnyH_take (i := 43) ?hia43 (by kernel_rfl) (by kernel_rfl) (by kernel_rfl) ?hQa43 ?hya43 hHeld ?ha43
              case hia43 => (simp only [List.getElem?_toArray, List.getElem?_cons_succ, List.getElem?_cons_zero]; rfl)
              case hQa43 => exact fun _ _ _ h => h
              case hya43 => (refine Or.inl ⟨by rfl, ?_⟩; intro w hSw; (try dsimp only at hSw); go_simp <;> with_reducible rfl)
              try simp only [Act.put, List.setIfInBounds_toArray, List.set_cons_zero, List.set_cons_succ]
              refine' wpAnyH_take (i := 44) ?hia44 (by kernel_rfl) (by kernel_rfl) (by kernel_rfl) ?hQa44 ?hya44 hHeld ?ha44
              case hia44 => (simp only [List.getElem?_toArray, List.getElem?_cons_succ, List.getElem?_cons_zero]; rfl)
              case hQa44 => exact fun _ _ _ h => h
              case hya44 => (refine Or.inl ⟨by rfl, ?_⟩; intro w hSw; (try dsimp only at hSw); go_simp <;> with_reducible rfl)
              try simp only [Act.put, List.setIfInBounds_toArray, List.set_cons_zero, List.set_cons_succ]
              refine' wpAnyH_take (i := 45) ?hia45 (by kernel_rfl) (by kernel_rfl) (by kernel_rfl) ?hQa45 ?hya45 hHeld ?ha45
              case hia45 => (simp only [List.getElem?_toArray, List.getElem?_cons_succ, List.getElem?_cons_zero]; rfl)
              case hQa45 => exact fun _ _ _ h => h
              case hya45 => (refine Or.inl ⟨by rfl, ?_⟩; intro w hSw; (try dsimp only at hSw); go_simp <;> with_reducible rfl)
              try simp only [Act.put, List.setIfInBounds_toArray, List.set_cons_zero, List.set_cons_succ]
              refine' wpAnyH_take (i := 46) ?hia46 (by kernel_rfl) (by kernel_rfl) (by kernel_rfl) ?hQa46 ?hya46 hHeld ?ha46
              case hia46 => (simp only [List.getElem?_toArray, List.getElem?_cons_succ, List.getElem?_cons_zero]; rfl)
              case hQa46 => exact fun _ _ _ h => h
              case hya46 => (refine Or.inl ⟨by rfl, ?_⟩; intro w hSw; (try dsimp only at hSw); go_simp <;> with_reducible rfl)
              try simp only [Act.put, List.setIfInBounds_toArray, List.set_cons_zero, List.set_cons_succ]
              refine' wpAnyH_take (i := 48) ?hia48 (by kernel_rfl) (by kernel_rfl) (by kernel_rfl) ?hQa48 ?hya48 hHeld ?ha48
              case hia48 => (simp only [List.getElem?_toArray, List.getElem?_cons_succ, List.getElem?_cons_zero]; rfl)
              case hQa48 => exact fun _ _ _ h => h
              case hya48 => (refine Or.inl ⟨by rfl, ?_⟩; intro w hSw; (try dsimp only at hSw); go_simp <;> with_reducible rfl)
              try simp only [Act.put, List.setIfInBounds_toArray, List.set_cons_zero, List.set_cons_succ]
              refine wpAnyH_ready (rs := [47]) (by kernel_rfl) (by simp) ?_
              refine AllReadyH.cons (o := _) (by simp only [List.getElem?_toArray, List.getElem?_cons_succ, List.getElem?_cons_zero]; rfl) (fun K hK => ?_) AllReadyH.nil
              go_simp
              go_at_call 11
              refine Calls.mono (ledger_Next b m G I7.out _ (L8.out.extN (by (first | exact E2 | exact Ext.drew E2 | exact Ext.alloc E2 _ | exact Ext.alloc (Ext.drew E2) _ | exact Ext.drew (Ext.alloc E2 _) | exact Ext.alloc (Ext.alloc E2 _) _ | exact Ext.alloc (Ext.alloc (Ext.drew E2) _) _ | exact Ext.alloc (Ext.drew (Ext.alloc E2 _)) _ | exact Ext.drew (Ext.alloc (Ext.alloc E2 _) _))))) ?_
              rintro e w11 ⟨a5, c5, rfl, x11, i11, f11⟩
              rw [HN.out]
              rw [HN.out] at i11
              have E3 : Ext Non w8 w11 := (by (first | exact E2 | exact Ext.drew E2 | exact Ext.alloc E2 _ | exact Ext.alloc (Ext.drew E2) _ | exact Ext.drew (Ext.alloc E2 _) | exact Ext.alloc (Ext.alloc E2 _) _ | exact Ext.alloc (Ext.alloc (Ext.drew E2) _) _ | exact Ext.alloc (Ext.drew (Ext.alloc E2 _)) _ | exact Ext.drew (Ext.alloc (Ext.alloc E2 _) _)) : Ext Non w8 _).trans x11
              have Z3 := Ext.refl Non w11
              dsimp only
              refine hK.out _ _ (by first | exact KW.out _ (by (first | exact E4 | exact Ext.drew E4 | exact Ext.alloc E4 _ | exact Ext.alloc (Ext.drew E4) _ | exact Ext.drew (Ext.alloc E4 _) | exact Ext.alloc (Ext.alloc E4 _) _ | exact Ext.alloc (Ext.alloc (Ext.drew E4) _) _ | exact Ext.alloc (Ext.drew (Ext.alloc E4 _)) _ | exact Ext.drew (Ext.alloc (Ext.alloc E4 _) _))) | exact KW.out _ (by (first | exact E3 | exact Ext.drew E3 | exact Ext.alloc E3 _ | exact Ext.alloc (Ext.drew E3) _ | exact Ext.drew (Ext.alloc E3 _) | exact Ext.alloc (Ext.alloc E3 _) _ | exact Ext.alloc (Ext.alloc (Ext.drew E3) _) _ | exact Ext.alloc (Ext.drew (Ext.alloc E3 _)) _ | exact Ext.drew (Ext.alloc (Ext.alloc E3 _) _))) | exact KW.out _ (by (first | exact E2 | exact Ext.drew E2 | exact Ext.alloc E2 _ | exact Ext.alloc (Ext.drew E2) _ | exact Ext.drew (Ext.alloc E2 _) | exact Ext.alloc (Ext.alloc E2 _) _ | exact Ext.alloc (Ext.alloc (Ext.drew E2) _) _ | exact Ext.alloc (Ext.drew (Ext.alloc E2 _)) _ | exact Ext.drew (Ext.alloc (Ext.alloc E2 _) _))) | exact KW.out _ (by (first | exact E1 | exact Ext.drew E1 | exact Ext.alloc E1 _ | exact Ext.alloc (Ext.drew E1) _ | exact Ext.drew (Ext.alloc E1 _) | exact Ext.alloc (Ext.alloc E1 _) _ | exact Ext.alloc (Ext.alloc (Ext.drew E1) _) _ | exact Ext.alloc (Ext.drew (Ext.alloc E1 _)) _ | exact Ext.drew (Ext.alloc (Ext.alloc E1 _) _))) | exact KW.out _ (by (first | exact E0 | exact Ext.drew E0 | exact Ext.alloc E0 _ | exact Ext.alloc (Ext.drew E0) _ | exact Ext.drew (Ext.alloc E0 _) | exact Ext.alloc (Ext.alloc E0 _) _ | exact Ext.alloc (Ext.alloc (Ext.drew E0) _) _ | exact Ext.alloc (Ext.drew (Ext.alloc E0 _)) _ | exact Ext.drew (Ext.alloc (Ext.alloc E0 _) _)))) (fun hHeld => ?_)
              clear hK K
              try simp only [Act.put, List.setIfInBounds_toArray, List.set_cons_zero, List.set_cons_succ]
              refine wpAnyH_ready (rs := [49]) (by kernel_rfl) (by simp) ?_
              refine AllReadyH.cons (o := _) (by simp only [List.getElem?_toArray, List.getElem?_cons_succ, List.getElem?_cons_zero]; rfl) (fun K hK => ?_) AllReadyH.nil
              go_simp
              go_at_call 14
              refine Calls.mono (ref_SameInts _ _ _ _ _ _ _ (i11.extN (by (first | exact Z3 | exact Ext.drew Z3 | exact Ext.alloc Z3 _ | exact Ext.alloc (Ext.drew Z3) _ | exact Ext.drew (Ext.alloc Z3 _) | exact Ext.alloc (Ext.alloc Z3 _) _ | exact Ext.alloc (Ext.alloc (Ext.drew Z3) _) _ | exact Ext.alloc (Ext.drew (Ext.alloc Z3 _)) _ | exact Ext.drew (Ext.alloc (Ext.alloc Z3 _) _)))) (I2.out.extN (by (first | exact E3 | exact Ext.drew E3 | exact Ext.alloc E3 _ | exact Ext.alloc (Ext.drew E3) _ | exact Ext.drew (Ext.alloc E3 _) | exact Ext.alloc (Ext.alloc E3 _) _ | exact Ext.alloc (Ext.alloc (Ext.drew E3) _) _ | exact Ext.alloc (Ext.drew (Ext.alloc E3 _)) _ | exact Ext.drew (Ext.alloc (Ext.alloc E3 _) _))))) ?_
              rintro e w12 ⟨rfl, x12⟩
              rw [decide_eq_true HQ.out]
              have E4 : Ext Non w8 w12 := (by (first | exact E3 | exact Ext.drew E3 | exact Ext.alloc E3 _ | exact Ext.alloc (Ext.drew E3) _ | exact Ext.drew (Ext.alloc E3 _) | exact Ext.alloc (Ext.alloc E3 _) _ | exact Ext.alloc (Ext.alloc (Ext.drew E3) _) _ | exact Ext.alloc (Ext.drew (Ext.alloc E3 _)) _ | exact Ext.drew (Ext.alloc (Ext.alloc E3 _) _)) : Ext Non w8 _).trans x12
              dsimp only
              refine hK.out _ _ (by first | exact KW.out _ (by (first | exact E4 | exact Ext.drew E4 | exact Ext.alloc E4 _ | exact Ext.alloc (Ext.drew E4) _ | exact Ext.drew (Ext.alloc E4 _) | exact Ext.alloc (Ext.alloc E4 _) _ | exact Ext.alloc (Ext.alloc (Ext.drew E4) _) _ | exact Ext.alloc (Ext.drew (Ext.alloc E4 _)) _ | exact Ext.drew (Ext.alloc (Ext.alloc E4 _) _))) | exact KW.out _ (by (first | exact E3 | exact Ext.drew E3 | exact Ext.alloc E3 _ | exact Ext.alloc (Ext.drew E3) _ | exact Ext.drew (Ext.alloc E3 _) | exact Ext.alloc (Ext.alloc E3 _) _ | exact Ext.alloc (Ext.alloc (Ext.drew E3) _) _ | exact Ext.alloc (Ext.drew (Ext.alloc E3 _)) _ | exact Ext.drew (Ext.alloc (Ext.alloc E3 _) _))) | exact KW.out _ (by (first | exact E2 | exact Ext.drew E2 | exact Ext.alloc E2 _ | exact Ext.alloc (Ext.drew E2) _ | exact Ext.drew (Ext.alloc E2 _) | exact Ext.alloc (Ext.alloc E2 _) _ | exact Ext.alloc (Ext.alloc (Ext.drew E2) _) _ | exact Ext.alloc (Ext.drew (Ext.alloc E2 _)) _ | exact Ext.drew (Ext.alloc (Ext.alloc E2 _) _))) | exact KW.out _ (by (first | exact E1 | exact Ext.drew E1 | exact Ext.alloc E1 _ | exact Ext.alloc (Ext.drew E1) _ | exact Ext.drew (Ext.alloc E1 _) | exact Ext.alloc (Ext.alloc E1 _) _ | exact Ext.alloc (Ext.alloc (Ext.drew E1) _) _ | exact Ext.alloc (Ext.drew (Ext.alloc E1 _)) _ | exact Ext.drew (Ext.alloc (Ext.alloc E1 _) _))) | exact KW.out _ (by (first | exact E0 | exact Ext.drew E0 | exact Ext.alloc E0 _ | exact Ext.alloc (Ext.drew E0) _ | exact Ext.drew (Ext.alloc E0 _) | exact Ext.alloc (Ext.alloc E0 _) _ | exact Ext.alloc (Ext.alloc (Ext.drew E0) _) _ | exact Ext.alloc (Ext.drew (Ext.alloc E0 _)) _ | exact Ext.drew (Ext.alloc (Ext.alloc E0 _) _)))) (fun hHeld => ?_)
              clear hK K
              try simp only [Act.put, List.setIfInBounds_toArray, List.set_cons_zero, List.set_cons_succ]
              refine' wpAnyH_take (i := 50) ?hia50 (by kernel_rfl) (by kernel_rfl) (by kernel_rfl) ?hQa50 ?hya50 hHeld ?ha50
              case hia50 => (simp only [List.getElem?_toArray, List.getElem?_cons_succ, List.getElem?_cons_zero]; rfl)
              case hQa50 => exact fun _ _ _ h => h
              case hya50 => (refine Or.inl ⟨by rfl, ?_⟩; intro w hSw; (try dsimp only at hSw); go_simp <;> with_reducible rfl)
              try simp only [Act.put, List.setIfInBounds_toArray, List.set_cons_zero, List.set_cons_succ]
              refine' wpAnyH_take (i := 51) ?hia51 (by kernel_rfl) (by kernel_rfl) (by kernel_rfl) ?hQa51 ?hya51 hHeld ?ha51
              case hia51 => (simp only [List.getElem?_toArray, List.getElem?_cons_succ, List.getElem?_cons_zero]; rfl)
              case hQa51 => exact fun _ _ _ h => h
              case hya51 => (refine Or.inl ⟨by rfl, ?_⟩; intro w hSw; (try dsimp only at hSw); go_simp <;> with_reducible rfl)
              try simp only [Act.put, List.setIfInBounds_toArray, List.set_cons_zero, List.set_cons_succ]
              refine' wpAnyH_take (i := 52) ?hia52 (by kernel_rfl) (by kernel_rfl) (by kernel_rfl) ?hQa52 ?hya52 hHeld ?ha52
              case hia52 => (simp only [List.getElem?_toArray, List.getElem?_cons_succ, List.getElem?_cons_zero]; rfl)
              case hQa52 => exact fun _ _ _ h => h
              case hya52 => (refine Or.inl ⟨by rfl, ?_⟩; intro w hSw; (try dsimp only at hSw); go_simp <;> with_reducible rfl)
              try simp only [Act.put, List.setIfInBounds_toArray, List.set_cons_zero, List.set_cons_succ]
              refine wpAnyH_done (by kernel_rfl) ?_ _
              all_goals
                go_wp2_with fail
                go_meet
                first | exact ⟨rfl, E4⟩ | exact ⟨rfl, by (first | exact E4 | exact Ext.drew E4 | exact Ext.alloc E4 _ | exact Ext.alloc (Ext.drew E4) _ | exact Ext.drew (Ext.alloc E4 _) | exact Ext.alloc (Ext.alloc E4 _) _ | exact Ext.alloc (Ext.alloc (Ext.drew E4) _) _ | exact Ext.alloc (Ext.drew (Ext.alloc E4 _)) _ | exact Ext.drew (Ext.alloc (Ext.alloc E4 _) _))⟩ | exact ⟨rfl, by (first | exact E2 | exact Ext.drew E2 | exact Ext.alloc E2 _ | exact Ext.alloc (Ext.drew E2) _ | exact Ext.drew (Ext.alloc E2 _) | exact Ext.alloc (Ext.alloc E2 _) _ | exact Ext.alloc (Ext.alloc (Ext.drew E2) _) _ | exact Ext.alloc (Ext.drew (Ext.alloc E2 _)) _ | exact Ext.drew (Ext.alloc (Ext.alloc E2 _) _))⟩
            case rest =>
              obtain ⟨hv, xc⟩ := hcut
              subst hv
              have XC := Go.Lib.hid (X8.out.trans xc); have LC := Go.Lib.hid (L8.out.extN xc)
              clear xc E0
              go_wp2_with fail
              go_meet
              exact ⟨G, I7.out, LC.out, XC.out⟩
          · as_aux_lemma =>
            have hw : IntKind.i64.wrap ((N.length : Int) - (M.length : Int)) = 1 := by rw [show (N.length : Int) - (M.length : Int) = 1 by omega]; rfl
            have h2 : q.k = 6 := h2
            subst h3; subst h4
            clear h1
            go_wp2_with fail
            refine (ledger_Next b m G I7.out _ (L7'.out.extN AL)).mono ?_
            rintro e w8 ⟨a3, c3, rfl, x8, i3, f3⟩
            rw [HN.out]
            have k3 := K3.out _ (AL.trans x8)
            rw [h2] at k3
            have W8 := Go.Lib.hid (W7.out.extN (AL.trans x8))
            have X8 := Go.Lib.hid (X7.out.trans (AL.trans x8))
            have L8 := Go.Lib.hid (L7'.out.extN (AL.trans x8))
            have I2 : Hid (Ints w8 a2 c2 M) := Go.Lib.hid (by have := W8.out.i2; rw [HM.out] at this; exact this)
            have E0 := Ext.refl Non w8
            have RC : w8.cell? ⟨w7.heap.size, 0, none⟩ = some (.int .i64 0) := (x8.cell (p := ⟨w7.heap.size, 0, none⟩) (by simp) id).trans (cell_new w7 [.int .i64 0, .float .f64 rl] _ rfl)
            have KW : Hid (∀ W', Ext Non w8 W' → W'.cell? ⟨k, 0, none⟩ = some (.int .i64 g.epoch) ∧ W'.cell? ⟨k, 1, none⟩ = some (.slice a1 g.mem.length c1) ∧ W'.cell? ⟨w7.heap.size, 0, none⟩ = some (.int .i64 0)) :=
              Go.Lib.hid (fun W' y => ⟨(W8.out.extN y).q0, (W8.out.extN y).q1, (y.cell (p := ⟨w7.heap.size, 0, none⟩) (lt_of_cell RC) id).trans RC⟩)
            clear x8 AL i3 f3 RC
            go_upto_region 19 with fail
            clear k3
            go_cut [162] (fun v wx => v = .bool false ∧ Ext Non w8 wx)
            case first =>
              obtain ⟨r0, r1, r2⟩ := KW.out _ E0
              refine wp_region_held_drew (S := (fun w' => w'.cell? ⟨k, 0, none⟩ = some (.int .i64 g.epoch) ∧ w'.cell? ⟨k, 1, none⟩ = some (.slice a1 g.mem.length c1) ∧ w'.cell? ⟨w7.heap.size, 0, none⟩ = some (.int .i64 0))) (by kernel_rfl) (by first | exact KW.out _ (by (first | exact E4 | exact Ext.drew E4 | exact Ext.alloc E4 _ | exact Ext.alloc (Ext.drew E4) _ | exact Ext.drew (Ext.alloc E4 _) | exact Ext.alloc (Ext.alloc E4 _) _ | exact Ext.alloc (Ext.alloc (Ext.drew E4) _) _ | exact Ext.alloc (Ext.drew (Ext.alloc E4 _)) _ | exact Ext.drew (Ext.alloc (Ext.alloc E4 _) _))) | exact KW.out _ (by (first | exact E3 | exact Ext.drew E3 | exact Ext.alloc E3 _ | exact Ext.alloc (Ext.drew E3) _ | exact Ext.drew (Ext.alloc E3 _) | exact Ext.alloc (Ext.alloc E3 _) _ | exact Ext.alloc (Ext.alloc (Ext.drew E3) _) _ | exact Ext.alloc (Ext.drew (Ext.alloc E3 _)) _ | exact Ext.drew (Ext.alloc (Ext.alloc E3 _) _))) | exact KW.out _ (by (first | exact E2 | exact Ext.drew E2 | exact Ext.alloc E2 _ | exact Ext.alloc (Ext.drew E2) _ | exact Ext.drew (Ext.alloc E2 _) | exact Ext.alloc (Ext.alloc E2 _) _ | exact Ext.alloc (Ext.alloc (Ext.drew E2) _) _ | exact Ext.alloc (Ext.drew (Ext.alloc E2 _)) _ | exact Ext.drew (Ext.alloc (Ext.alloc E2 _) _))) | exact KW.out _ (by (first | exact E1 | exact Ext.drew E1 | exact Ext.alloc E1 _ | exact Ext.alloc (Ext.drew E1) _ | exact Ext.drew (Ext.alloc E1 _) | exact Ext.alloc (Ext.alloc E1 _) _ | exact Ext.alloc (Ext.alloc (Ext.drew E1) _) _ | exact Ext.alloc (Ext.drew (Ext.alloc E1 _)) _ | exact Ext.drew (Ext.alloc (Ext.alloc E1 _) _))) | exact KW.out _ (by (first | exact E0 | exact Ext.drew E0 | exact Ext.alloc E0 _ | exact Ext.alloc (Ext.drew E0) _ | exact Ext.drew (Ext.alloc E0 _) | exact Ext.alloc (Ext.alloc E0 _) _ | exact Ext.alloc (Ext.alloc (Ext.drew E0) _) _ | exact Ext.alloc (Ext.drew (Ext.alloc E0 _)) _ | exact Ext.drew (Ext.alloc (Ext.alloc E0 _) _)))) (fun hHeld => ?_)
              refine' wpAnyH_take (i := 0) ?hib0 (by kernel_rfl) (by kernel_rfl) (by kernel_rfl) ?hQb0 ?hyb0 hHeld ?hb0
              case hib0 => (simp only [List.getElem?_toArray, List.getElem?_cons_succ, List.getElem?_cons_zero]; rfl)
              case hQb0 => exact fun _ _ _ h => h
              case hyb0 => (refine Or.inl ⟨by rfl, ?_⟩; intro w hSw; (try dsimp only at hSw); go_simp <;> with_reducible rfl)
              try simp only [Act.put, List.setIfInBounds_toArray, List.set_cons_zero, List.set_cons_succ]
              refine' wpAnyH_take (i := 2) ?hib2 (by kernel_rfl) (by kernel_rfl) (by kernel_rfl) ?hQb2 ?hyb2 hHeld ?hb2
              case hib2 => (simp only [List.getElem?_toArray, List.getElem?_cons_succ, List.getElem?_cons_zero]; rfl)
              case hQb2 => exact fun _ _ _ h => h
              case hyb2 => (refine Or.inl ⟨by rfl, ?_⟩; intro w hSw; (try dsimp only at hSw); go_simp <;> with_reducible rfl)
              try simp only [Act.put, List.setIfInBounds_toArray, List.set_cons_zero, List.set_cons_succ]
              refine wpAnyH_ready (rs := [1]) (by kernel_rfl) (by simp) ?_
              refine AllReadyH.cons (o := _) (by simp only [List.getElem?_toArray, List.getElem?_cons_succ, List.getElem?_cons_zero]; rfl) (fun K hK => ?_) AllReadyH.nil
              go_simp
              go_at_call 10
              refine Calls.mono (ledger_Conf b m G I7.out _ (L8.out.extN (by (first | exact E0 | exact Ext.drew E0 | exact Ext.alloc E0 _ | exact Ext.alloc (Ext.drew E0) _ | exact Ext.drew (Ext.alloc E0 _) | exact Ext.alloc (Ext.alloc E0 _) _ | exact Ext.alloc (Ext.alloc (Ext.drew E0) _) _ | exact Ext.alloc (Ext.drew (Ext.alloc E0 _)) _ | exact Ext.drew (Ext.alloc (Ext.alloc E0 _) _))))) ?_
              rintro e w9 ⟨a4, c4, rfl, x9, i9, f9⟩
              rw [EP.out, EM.out]
              rw [EM.out] at i9
              have E1 : Ext Non w8 w9 := (by (first | exact E0 | exact Ext.drew E0 | exact Ext.alloc E0 _ | exact Ext.alloc (Ext.drew E0) _ | exact Ext.drew (Ext.alloc E0 _) | exact Ext.alloc (Ext.alloc E0 _) _ | exact Ext.alloc (Ext.alloc (Ext.drew E0) _) _ | exact Ext.alloc (Ext.drew (Ext.alloc E0 _)) _ | exact Ext.drew (Ext.alloc (Ext.alloc E0 _) _)) : Ext Non w8 _).trans x9
              have Z1 := Ext.refl Non w9
              dsimp only
              refine hK.out _ _ (by first | exact KW.out _ (by (first | exact E4 | exact Ext.drew E4 | exact Ext.alloc E4 _ | exact Ext.alloc (Ext.drew E4) _ | exact Ext.drew (Ext.alloc E4 _) | exact Ext.alloc (Ext.alloc E4 _) _ | exact Ext.alloc (Ext.alloc (Ext.drew E4) _) _ | exact Ext.alloc (Ext.drew (Ext.alloc E4 _)) _ | exact Ext.drew (Ext.alloc (Ext.alloc E4 _) _))) | exact KW.out _ (by (first | exact E3 | exact Ext.drew E3 | exact Ext.alloc E3 _ | exact Ext.alloc (Ext.drew E3) _ | exact Ext.drew (Ext.alloc E3 _) | exact Ext.alloc (Ext.alloc E3 _) _ | exact Ext.alloc (Ext.alloc (Ext.drew E3) _) _ | exact Ext.alloc (Ext.drew (Ext.alloc E3 _)) _ | exact Ext.drew (Ext.alloc (Ext.alloc E3 _) _))) | exact KW.out _ (by (first | exact E2 | exact Ext.drew E2 | exact Ext.alloc E2 _ | exact Ext.alloc (Ext.drew E2) _ | exact Ext.drew (Ext.alloc E2 _) | exact Ext.alloc (Ext.alloc E2 _) _ | exact Ext.alloc (Ext.alloc (Ext.drew E2) _) _ | exact Ext.alloc (Ext.drew (Ext.alloc E2 _)) _ | exact Ext.drew (Ext.alloc (Ext.alloc E2 _) _))) | exact KW.out _ (by (first | exact E1 | exact Ext.drew E1 | exact Ext.alloc E1 _ | exact Ext.alloc (Ext.drew E1) _ | exact Ext.drew (Ext.alloc E1 _) | exact Ext.alloc (Ext.alloc E1 _) _ | exact Ext.alloc (Ext.alloc (Ext.drew E1) _) _ | exact Ext.alloc (Ext.drew (Ext.alloc E1 _)) _ | exact Ext.drew (Ext.alloc (Ext.alloc E1 _) _))) | exact KW.out _ (by (first | exact E0 | exact Ext.drew E0 | exact Ext.alloc E0 _ | exact Ext.alloc (Ext.drew E0) _ | exact Ext.drew (Ext.alloc E0 _) | exact Ext.alloc (Ext.alloc E0 _) _ | exact Ext.alloc (Ext.alloc (Ext.drew E0) _) _ | exact Ext.alloc (Ext.drew (Ext.alloc E0 _)) _ | exact Ext.drew (Ext.alloc (Ext.alloc E0 _) _)))) (fun hHeld => ?_)
              clear hK K
              try simp only [Act.put, List.setIfInBounds_toArray, List.set_cons_zero, List.set_cons_succ]
              refine wpAnyH_ready (rs := [3]) (by kernel_rfl) (by simp) ?_
              refine AllReadyH.cons (o := _) (by simp only [List.getElem?_toArray, List.getElem?_cons_succ, List.getElem?_cons_zero]; rfl) (fun K hK => ?_) AllReadyH.nil
              go_simp
              go_at_call 15
              refine Calls.mono (ref_Same _ _ _ _ _ _ _ _ _ (i9.extN (by (first | exact Z1 | exact Ext.drew Z1 | exact Ext.alloc Z1 _ | exact Ext.alloc (Ext.drew Z1) _ | exact Ext.drew (Ext.alloc Z1 _) | exact Ext.alloc (Ext.alloc Z1 _) _ | exact Ext.alloc (Ext.alloc (Ext.drew Z1) _) _ | exact Ext.alloc (Ext.drew (Ext.alloc Z1 _)) _ | exact Ext.drew (Ext.alloc (Ext.alloc Z1 _) _)))) (W8.out.i1.extN (by (first | exact E1 | exact Ext.drew E1 | exact Ext.alloc E1 _ | exact Ext.alloc (Ext.drew E1) _ | exact Ext.drew (Ext.alloc E1 _) | exact Ext.alloc (Ext.alloc E1 _) _ | exact Ext.alloc (Ext.alloc (Ext.drew E1) _) _ | exact Ext.alloc (Ext.drew (Ext.alloc E1 _)) _ | exact Ext.drew (Ext.alloc (Ext.alloc E1 _) _))))) ?_
              rintro e w10 ⟨rfl, x10⟩
              rw [decide_eq_true (rfl : g.mem = g.mem), decide_eq_true (rfl : g.epoch = g.epoch)]
              have E2 : Ext Non w8 w10 := (by (first | exact E1 | exact Ext.drew E1 | exact Ext.alloc E1 _ | exact Ext.alloc (Ext.drew E1) _ | exact Ext.drew (Ext.alloc E1 _) | exact Ext.alloc (Ext.alloc E1 _) _ | exact Ext.alloc (Ext.alloc (Ext.drew E1) _) _ | exact Ext.alloc (Ext.drew (Ext.alloc E1 _)) _ | exact Ext.drew (Ext.alloc (Ext.alloc E1 _) _)) : Ext Non w8 _).trans x10
              dsimp only
              refine hK.out _ _ (by first | exact KW.out _ (by (first | exact E4 | exact Ext.drew E4 | exact Ext.alloc E4 _ | exact Ext.alloc (Ext.drew E4) _ | exact Ext.drew (Ext.alloc E4 _) | exact Ext.alloc (Ext.alloc E4 _) _ | exact Ext.alloc (Ext.alloc (Ext.drew E4) _) _ | exact Ext.alloc (Ext.drew (Ext.alloc E4 _)) _ | exact Ext.drew (Ext.alloc (Ext.alloc E4 _) _))) | exact KW.out _ (by (first | exact E3 | exact Ext.drew E3 | exact Ext.alloc E3 _ | exact Ext.alloc (Ext.drew E3) _ | exact Ext.drew (Ext.alloc E3 _) | exact Ext.alloc (Ext.alloc E3 _) _ | exact Ext.alloc (Ext.alloc (Ext.drew E3) _) _ | exact Ext.alloc (Ext.drew (Ext.alloc E3 _)) _ | exact Ext.drew (Ext.alloc (Ext.alloc E3 _) _))) | exact KW.out _ (by (first | exact E2 | exact Ext.drew E2 | exact Ext.alloc E2 _ | exact Ext.alloc (Ext.drew E2) _ | exact Ext.drew (Ext.alloc E2 _) | exact Ext.alloc (Ext.alloc E2 _) _ | exact Ext.alloc (Ext.alloc (Ext.drew E2) _) _ | exact Ext.alloc (Ext.drew (Ext.alloc E2 _)) _ | exact Ext.drew (Ext.alloc (Ext.alloc E2 _) _))) | exact KW.out _ (by (first | exact E1 | exact Ext.drew E1 | exact Ext.alloc E1 _ | exact Ext.alloc (Ext.drew E1) _ | exact Ext.drew (Ext.alloc E1 _) | exact Ext.alloc (Ext.alloc E1 _) _ | exact Ext.alloc (Ext.alloc (Ext.drew E1) _) _ | exact Ext.alloc (Ext.drew (Ext.alloc E1 _)) _ | exact Ext.drew (Ext.alloc (Ext.alloc E1 _) _))) | exact KW.out _ (by (first | exact E0 | exact Ext.drew E0 | exact Ext.alloc E0 _ | exact Ext.alloc (Ext.drew E0) _ | exact Ext.drew (Ext.alloc E0 _) | exact Ext.alloc (Ext.alloc E0 _) _ | exact Ext.alloc (Ext.alloc (Ext.drew E0) _) _ | exact Ext.alloc (Ext.drew (Ext.alloc E0 _)) _ | exact Ext.drew (Ext.alloc (Ext.alloc E0 _) _)))) (fun hHeld => ?_)
              clear hK K
              try simp only [Act.put, List.setIfInBounds_toArray, List.set_cons_zero, List.set_cons_succ]
              refine' wpAnyH_take (i := 4) ?hib4 (by kernel_rfl) (by kernel_rfl) (by kernel_rfl) ?hQb4 ?hyb4 hHeld ?hb4
              case hib4 => (simp only [List.getElem?_toArray, List.getElem?_cons_succ, List.getElem?_cons_zero]; rfl)
              case hQb4 => exact fun _ _ _ h => h
              case hyb4 => (refine Or.inl ⟨by rfl, ?_⟩; intro w hSw; (try dsimp only at hSw); go_simp <;> with_reducible rfl)
              try simp only [Act.put, List.setIfInBounds_toArray, List.set_cons_zero, List.set_cons_succ]
              refine' wpAnyH_take (i := 5) ?hib5 (by kernel_rfl) (by kernel_rfl) (by kernel_rfl) ?hQb5 ?hyb5 hHeld ?hb5
              case hib5 => (simp only [List.getElem?_toArray, List.getElem?_cons_succ, List.getElem?_cons_zero]; rfl)
              case hQb5 => exact fun _ _ _ h => h
              case hyb5 => (refine Or.inl ⟨by rfl, ?_⟩; intro w hSw; (try dsimp only at hSw); go_simp <;> with_reducible rfl)
              try simp only [Act.put, List.setIfInBounds_toArray, List.set_cons_zero, List.set_cons_succ]
              refine' wpAnyH_take (i := 6) ?hib6 (by kernel_rfl) (by kernel_rfl) (by kernel_rfl) ?hQb6 ?hyb6 hHeld ?hb6
              case hib6 => (simp only [List.getElem?_toArray, List.getElem?_cons_succ, List.getElem?_cons_zero]; rfl)
              case hQb6 => exact fun _ _ _ h => h
              case hyb6 => (refine Or.inl ⟨by rfl, ?_⟩; intro w hSw; (try dsimp only at hSw); go_simp <;> with_reducible rfl)
              try simp only [Act.put, List.setIfInBounds_toArray, List.set_cons_zero, List.set_cons_succ]
              refine' wpAnyH_take (i := 7) ?hib7 (by kernel_rfl) (by kernel_rfl) (by kernel_rfl) ?hQb7 ?hyb7 hHeld ?hb7
              case hib7 => (simp only [List.getElem?_toArray, List.getElem?_cons_succ, List.getElem?_cons_zero]; rfl)
              case hQb7 => exact fun _ _ _ h => h
              case hyb7 => (refine Or.inl ⟨by rfl, ?_⟩; intro w hSw; (try dsimp only at hSw); go_simp <;> with_reducible rfl)
              try simp only [Act.put, List.setIfInBounds_toArray, List.set_cons_zero, List.set_cons_succ]
              refine' wpAnyH_take (i := 8) ?hib8 (by kernel_rfl) (by kernel_rfl) (by kernel_rfl) ?hQb8 ?hyb8 hHeld ?hb8
              case hib8 => (simp only [List.getElem?_toArray, List.getElem?_cons_succ, List.getElem?_cons_zero]; rfl)
              case hQb8 => exact fun _ _ _ h => h
              case hyb8 => (refine Or.inl ⟨by rfl, ?_⟩; intro w hSw; (try dsimp only at hSw); go_simp <;> with_reducible rfl)
              try simp only [Act.put, List.setIfInBounds_toArray, List.set_cons_zero, List.set_cons_succ]
              refine' wpAnyH_take (i := 9) ?hib9 (by kernel_rfl) (by kernel_rfl) (by kernel_rfl) ?hQb9 ?hyb9 hHeld ?hb9
              case hib9 => (simp only [List.getElem?_toArray, List.getElem?_cons_succ, List.getElem?_cons_zero]; rfl)
              case hQb9 => exact fun _ _ _ h => h
              case hyb9 => (refine Or.inl ⟨by rfl, ?_⟩; intro w hSw; (try dsimp only at hSw); go_simp <;> with_reducible rfl)
              try simp only [Act.put, List.setIfInBounds_toArray, List.set_cons_zero, List.set_cons_succ]
              refine' wpAnyH_take (i := 10) ?hib10 (by kernel_rfl) (by kernel_rfl) (by kernel_rfl) ?hQb10 ?hyb10 hHeld ?hb10
              case hib10 => (simp only [List.getElem?_toArray, List.getElem?_cons_succ, List.getElem?_cons_zero]; rfl)
              case hQb10 => exact fun _ _ _ h => h
              case hyb10 => (refine Or.inl ⟨by rfl, ?_⟩; intro w hSw; (try dsimp only at hSw); go_simp <;> with_reducible rfl)
              try simp only [Act.put, List.setIfInBounds_toArray, List.set_cons_zero, List.set_cons_succ]
              refine' wpAnyH_take (i := 11) ?hib11 (by kernel_rfl) (by kernel_rfl) (by kernel_rfl) ?hQb11 ?hyb11 hHeld ?hb11
              case hib11 => (simp only [List.getElem?_toArray, List.getElem?_cons_succ, List.getElem?_cons_zero]; rfl)
              case hQb11 => exact fun _ _ _ h => h
              case hyb11 => (refine Or.inl ⟨by rfl, ?_⟩; intro w hSw; (try dsimp only at hSw); go_simp <;> with_reducible rfl)
              try simp only [Act.put, List.setIfInBounds_toArray, List.set_cons_zero, List.set_cons_succ]
              refine' wpAnyH_take (i := 12) ?hib12 (by kernel_rfl) (by kernel_rfl) (by kernel_rfl) ?hQb12 ?hyb12 hHeld ?hb12
              case hib12 => (simp only [List.getElem?_toArray, List.getElem?_cons_succ, List.getElem?_cons_zero]; rfl)
              case hQb12 => exact fun _ _ _ h => h
              case hyb12 => (refine Or.inl ⟨by rfl, ?_⟩; intro w hSw; (try dsimp only at hSw); go_simp <;> with_reducible rfl)
              try simp only [Act.put, List.setIfInBounds_toArray, List.set_cons_zero, List.set_cons_succ]
              refine' wpAnyH_take (i := 13) ?hib13 (by kernel_rfl) (by kernel_rfl) (by kernel_rfl) ?hQb13 ?hyb13 hHeld ?hb13
              case hib13 => (simp only [List.getElem?_toArray, List.getElem?_cons_succ, List.getElem?_cons_zero]; rfl)
              case hQb13 => exact fun _ _ _ h => h
              case hyb13 => (refine Or.inl ⟨by rfl, ?_⟩; intro w hSw; (try dsimp only at hSw); go_simp <;> with_reducible rfl)
              try simp only [Act.put, List.setIfInBounds_toArray, List.set_cons_zero, List.set_cons_succ]
              refine' wpAnyH_take (i := 14) ?hib14 (by kernel_rfl) (by kernel_rfl) (by kernel_rfl) ?hQb14 ?hyb14 hHeld ?hb14
              case hib14 => (simp only [List.getElem?_toArray, List.getElem?_cons_succ, List.getElem?_cons_zero]; rfl)
              case hQb14 => exact fun _ _ _ h => h
              case hyb14 => (refine Or.inl ⟨by rfl, ?_⟩; intro w hSw; (try dsimp only at hSw); go_simp <;> with_reducible rfl)
              try simp only [Act.put, List.setIfInBounds_toArray, List.set_cons_zero, List.set_cons_succ]
              refine' wpAnyH_take (i := 15) ?hib15 (by kernel_rfl) (by kernel_rfl) (by kernel_rfl) ?hQb15 ?hyb15 hHeld ?hb15
              case hib15 => (simp only [List.getElem?_toArray, List.getElem?_cons_succ, List.getElem?_cons_zero]; rfl)
              case hQb15 => exact fun _ _ _ h => h
              case hyb15 => (refine Or.inl ⟨by rfl, ?_⟩; intro w hSw; (try dsimp only at hSw); go_simp <;> with_reducible rfl)
              try simp only [Act.put, List.setIfInBounds_toArray, List.set_cons_zero, List.set_cons_succ]
              refine' wpAnyH_take (i := 16) ?hib16 (by kernel_rfl) (by kernel_rfl) (by kernel_rfl) ?hQb16 ?hyb16 hHeld ?hb16
              case hib16 => (simp only [List.getElem?_toArray, List.getElem?_cons_succ, List.getElem?_cons_zero]; rfl)
              case hQb16 => exact fun _ _ _ h => h
              case hyb16 => (refine Or.inl ⟨by rfl, ?_⟩; intro w hSw; (try dsimp only at hSw); go_simp <;> with_reducible rfl)
              try simp only [Act.put, List.setIfInBounds_toArray, List.set_cons_zero, List.set_cons_succ]
              refine' wpAnyH_take (i := 17) ?hib17 (by kernel_rfl) (by kernel_rfl) (by kernel_rfl) ?hQb17 ?hyb17 hHeld ?hb17
              case hib17 => (simp only [List.getElem?_toArray, List.getElem?_cons_succ, List.getElem?_cons_zero]; rfl)
              case hQb17 => exact fun _ _ _ h => h
              case hyb17 => (refine Or.inl ⟨by rfl, ?_⟩; intro w hSw; (try dsimp only at hSw); go_simp <;> with_reducible rfl)
              try simp only [Act.put, List.setIfInBounds_toArray, List.set_cons_zero, List.set_cons_succ]
              refine' wpAnyH_take (i := 18) ?hib18 (by kernel_rfl) (by kernel_rfl) (by kernel_rfl) ?hQb18 ?hyb18 hHeld ?hb18
              case hib18 => (simp only [List.getElem?_toArray, List.getElem?_cons_succ, List.getElem?_cons_zero]; rfl)
              case hQb18 => exact fun _ _ _ h => h
              case hyb18 => (refine Or.inl ⟨by rfl, ?_⟩; intro w hSw; (try dsimp only at hSw); go_simp <;> with_reducible rfl)
              try simp only [Act.put, List.setIfInBounds_toArray, List.set_cons_zero, List.set_cons_succ]
              refine' wpAnyH_take (i := 19) ?hib19 (by kernel_rfl) (by kernel_rfl) (by kernel_rfl) ?hQb19 ?hyb19 hHeld ?hb19
              case hib19 => (simp only [List.getElem?_toArray, List.getElem?_cons_succ, List.getElem?_cons_zero]; rfl)
              case hQb19 => exact fun _ _ _ h => h
              case hyb19 => (refine Or.inl ⟨by rfl, ?_⟩; intro w hSw; (try dsimp only at hSw); go_simp <;> with_reducible rfl)
              try simp only [Act.put, List.setIfInBounds_toArray, List.set_cons_zero, List.set_cons_succ]
              refine' wpAnyH_take (i := 20) ?hib20 (by kernel_rfl) (by kernel_rfl) (by kernel_rfl) ?hQb20 ?hyb20 hHeld ?hb20
              case hib20 => (simp only [List.getElem?_toArray, List.getElem?_cons_succ, List.getElem?_cons_zero]; rfl)
              case hQb20 => exact fun _ _ _ h => h
              case hyb20 => (refine Or.inl ⟨by rfl, ?_⟩; intro w hSw; (try dsimp only at hSw); go_simp <;> with_reducible rfl)
              try simp only [Act.put, List.setIfInBounds_toArray, List.set_cons_zero, List.set_cons_succ]
              refine' wpAnyH_take (i := 21) ?hib21 (by kernel_rfl) (by kernel_rfl) (by kernel_rfl) ?hQb21 ?hyb21 hHeld ?hb21
              case hib21 => (simp only [List.getElem?_toArray, List.getElem?_cons_succ, List.getElem?_cons_zero]; rfl)
              case hQb21 => exact fun _ _ _ h => h
              case hyb21 => (refine Or.inl ⟨by rfl, ?_⟩; intro w hSw; (try dsimp only at hSw); go_simp <;> with_reducible rfl)
              try simp only [Act.put, List.setIfInBounds_toArray, List.set_cons_zero, List.set_cons_succ]
              refine' wpAnyH_take (i := 22) ?hib22 (by kernel_rfl) (by kernel_rfl) (by kernel_rfl) ?hQb22 ?hyb22 hHeld ?hb22
              case hib22 => (simp only [List.getElem?_toArray, List.getElem?_cons_succ, List.getElem?_cons_zero]; rfl)
              case hQb22 => exact fun _ _ _ h => h
              case hyb22 => (refine Or.inl ⟨by rfl, ?_⟩; intro w hSw; (try dsimp only at hSw); go_simp <;> with_reducible rfl)
              try simp only [Act.put, List.setIfInBounds_toArray, List.set_cons_zero, List.set_cons_succ]
              refine' wpAnyH_take (i := 23) ?hib23 (by kernel_rfl) (by kernel_rfl) (by kernel_rfl) ?hQb23 ?hyb23 hHeld ?hb23
              case hib23 => (simp only [List.getElem?_toArray, List.getElem?_cons_succ, List.getElem?_cons_zero]; rfl)
              case hQb23 => exact fun _ _ _ h => h
              case hyb23 => (refine Or.inl ⟨by rfl, ?_⟩; intro w hSw; (try dsimp only at hSw); go_simp <;> with_reducible rfl)
              try simp only [Act.put, List.setIfInBounds_toArray, List.set_cons_zero, List.set_cons_succ]
              refine' wpAnyH_take (i := 24) ?hib24 (by kernel_rfl) (by kernel_rfl) (by kernel_rfl) ?hQb24 ?hyb24 hHeld ?hb24
              case hib24 => (simp only [List.getElem?_toArray, List.getElem?_cons_succ, List.getElem?_cons_zero]; rfl)
              case hQb24 => exact fun _ _ _ h => h
              case hyb24 => (refine Or.inl ⟨by rfl, ?_⟩; intro w hSw; (try dsimp only at hSw); go_simp <;> with_reducible rfl)
              try simp only [Act.put, List.setIfInBounds_toArray, List.set_cons_zero, List.set_cons_succ]
              refine' wpAnyH_take (i := 25) ?hib25 (by kernel_rfl) (by kernel_rfl) (by kernel_rfl) ?hQb25 ?hyb25 hHeld ?hb25
              case hib25 => (simp only [List.getElem?_toArray, List.getElem?_cons_succ, List.getElem?_cons_zero]; rfl)
              case hQb25 => exact fun _ _ _ h => h
              case hyb25 => exact Or.inr ⟨by rfl, rfl⟩
              try simp only [Act.put, List.setIfInBounds_toArray, List.set_cons_zero, List.set_cons_succ]
              refine' wpAnyH_take (i := 26) ?hib26 (by kernel_rfl) (by kernel_rfl) (by kernel_rfl) ?hQb26 ?hyb26 hHeld ?hb26
              case hib26 => (simp only [List.getElem?_toArray, List.getElem?_cons_succ, List.getElem?_cons_zero]; rfl)
              case hQb26 => exact fun _ _ _ h => h
              case hyb26 => exact Or.inr ⟨by rfl, rfl⟩
              try simp only [Act.put, List.setIfInBounds_toArray, List.set_cons_zero, List.set_cons_succ]
              refine' wpAnyH_take (i := 27) ?hib27 (by kernel_rfl) (by kernel_rfl) (by kernel_rfl) ?hQb27 ?hyb27 hHeld ?hb27
              case hib27 => (simp only [List.getElem?_toArray, List.getElem?_cons_succ, List.getElem?_cons_zero]; rfl)
              case hQb27 => exact fun _ _ _ h => h
              case hyb27 => (refine Or.inl ⟨by rfl, ?_⟩; intro w hSw; (try dsimp only at hSw); go_simp <;> with_reducible rfl)
              try simp only [Act.put, List.setIfInBounds_toArray, List.set_cons_zero, List.set_cons_succ]
              refine' wpAnyH_take (i := 28) ?hib28 (by kernel_rfl) (by kernel_rfl) (by kernel_rfl) ?hQb28 ?hyb28 hHeld ?hb28
              case hib28 => (simp only [List.getElem?_toArray, List.getElem?_cons_succ, List.getElem?_cons_zero]; rfl)
              case hQb28 => exact fun _ _ _ h => h
              case hyb28 => (refine Or.inl ⟨by rfl, ?_⟩; intro w hSw; (try dsimp only at hSw); go_simp <;> with_reducible rfl)
              try simp only [Act.put, List.setIfInBounds_toArray, List.set_cons_zero, List.set_cons_succ]
              refine' wpAnyH_take (i := 29) ?hib29 (by kernel_rfl) (by kernel_rfl) (by kernel_rfl) ?hQb29 ?hyb29 hHeld ?hb29
              case hib29 => (simp only [List.getElem?_toArray, List.getElem?_cons_succ, List.getElem?_cons_zero]; rfl)
              case hQb29 => exact fun _ _ _ h => h
              case hyb29 => (refine Or.inl ⟨by rfl, ?_⟩; intro w hSw; (try dsimp only at hSw); go_simp <;> with_reducible rfl)
              try simp only [Act.put, List.setIfInBounds_toArray, List.set_cons_zero, List.set_cons_succ]
              refine' wpAnyH_take (i := 30) ?hib30 (by kernel_rfl) (by kernel_rfl) (by kernel_rfl) ?hQb30 ?hyb30 hHeld ?hb30
              case hib30 => (simp only [List.getElem?_toArray, List.getElem?_cons_succ, List.getElem?_cons_zero]; rfl)
              case hQb30 => exact fun _ _ _ h => h
              case hyb30 => (refine Or.inl ⟨by rfl, ?_⟩; intro w hSw; (try dsimp only at hSw); go_simp <;> with_reducible rfl)
              try simp only [Act.put, List.setIfInBounds_toArray, List.set_cons_zero, List.set_cons_succ]
              refine' wpAnyH_take (i := 31) ?hib31 (by kernel_rfl) (by kernel_rfl) (by kernel_rfl) ?hQb31 ?hyb31 hHeld ?hb31
              case hib31 => (simp only [List.getElem?_toArray, List.getElem?_cons_succ, List.getElem?_cons_zero]; rfl)
              case hQb31 => exact fun _ _ _ h => h
              case hyb31 => (refine Or.inl ⟨by rfl, ?_⟩; intro w hSw; (try dsimp only at hSw); go_simp <;> with_reducible rfl)
              try simp only [Act.put, List.setIfInBounds_toArray, List.set_cons_zero, List.set_cons_succ]
              refine' wpAnyH_take (i := 32) ?hib32 (by kernel_rfl) (by kernel_rfl) (by kernel_rfl) ?hQb32 ?hyb32 hHeld ?hb32
              case hib32 => (simp only [List.getElem?_toArray, List.getElem?_cons_succ, List.getElem?_cons_zero]; rfl)
              case hQb32 => exact fun _ _ _ h => h
              case hyb32 => (refine Or.inl ⟨by rfl, ?_⟩; intro w hSw; (try dsimp only at hSw); go_simp <;> with_reducible rfl)
              try simp only [Act.put, List.setIfInBounds_toArray, List.set_cons_zero, List.set_cons_succ]
              refine' wpAnyH_take (i := 33) ?hib33 (by kernel_rfl) (by kernel_rfl) (by kernel_rfl) ?hQb33 ?hyb33 hHeld ?hb33
              case hib33 => (simp only [List.getElem?_toArray, List.getElem?_cons_succ, List.getElem?_cons_zero]; rfl)
              case hQb33 => exact fun _ _ _ h => h
              case hyb33 => (refine Or.inl ⟨by rfl, ?_⟩; intro w hSw; (try dsimp only at hSw); go_simp <;> with_reducible rfl)
              try simp only [Act.put, List.setIfInBounds_toArray, List.set_cons_zero, List.set_cons_succ]
              refine' wpAnyH_take (i := 34) ?hib34 (by kernel_rfl) (by kernel_rfl) (by kernel_rfl) ?hQb34 ?hyb34 hHeld ?hb34
              case hib34 => (simp only [List.getElem?_toArray, List.getElem?_cons_succ, List.getElem?_cons_zero]; rfl)
              case hQb34 => exact fun _ _ _ h => h
              case hyb34 => (refine Or.inl ⟨by rfl, ?_⟩; intro w hSw; (try dsimp only at hSw); go_simp <;> with_reducible rfl)
              try simp only [Act.put, List.setIfInBounds_toArray, List.set_cons_zero, List.set_cons_succ]
              refine' wpAnyH_take (i := 35) ?hib35 (by kernel_rfl) (by kernel_rfl) (by kernel_rfl) ?hQb35 ?hyb35 hHeld ?hb35
              case hib35 => (simp only [List.getElem?_toArray, List.getElem?_cons_succ, List.getElem?_cons_zero]; rfl)
              case hQb35 => exact fun _ _ _ h => h
              case hyb35 => (refine Or.inl ⟨by rfl, ?_⟩; intro w hSw; (try dsimp only at hSw); go_simp <;> with_reducible rfl)
              try simp only [Act.put, List.setIfInBounds_toArray, List.set_cons_zero, List.set_cons_succ]
              refine' wpAnyH_take (i := 36) ?hib36 (by kernel_rfl) (by kernel_rfl) (by kernel_rfl) ?hQb36 ?hyb36 hHeld ?hb36
              case hib36 => (simp only [List.getElem?_toArray, List.getElem?_cons_succ, List.getElem?_cons_zero]; rfl)
              case hQb36 => exact fun _ _ _ h => h
              case hyb36 => (refine Or.inl ⟨by rfl, ?_⟩; intro w hSw; (try dsimp only at hSw); go_simp <;> with_reducible rfl)
              try simp only [Act.put, List.setIfInBounds_toArray, List.set_cons_zero, List.set_cons_succ]
              refine' wpAnyH_take (i := 37) ?hib37 (by kernel_rfl) (by kernel_rfl) (by kernel_rfl) ?hQb37 ?hyb37 hHeld ?hb37
              case hib37 => (simp only [List.getElem?_toArray, List.getElem?_cons_succ, List.getElem?_cons_zero]; rfl)
              case hQb37 => exact fun _ _ _ h => h
              case hyb37 => (refine Or.inl ⟨by rfl, ?_⟩; intro w hSw; (try dsimp only at hSw); go_simp <;> with_reducible rfl)
              try simp only [Act.put, List.setIfInBounds_toArray, List.set_cons_zero, List.set_cons_succ]
              refine' wpAnyH_take (i := 38) ?hib38 (by kernel_rfl) (by kernel_rfl) (by kernel_rfl) ?hQb38 ?hyb38 hHeld ?hb38
              case hib38 => (simp only [List.getElem?_toArray, List.getElem?_cons_succ, List.getElem?_cons_zero]; rfl)
              case hQb38 => exact fun _ _ _ h => h
              case hyb38 => (refine Or.inl ⟨by rfl, ?_⟩; intro w hSw; (try dsimp only at hSw); go_simp <;> with_reducible rfl)
              try simp only [Act.put, List.setIfInBounds_toArray, List.set_cons_zero, List.set_cons_succ]
              refine' wpAnyH_take (i := 39) ?hib39 (by kernel_rfl) (by kernel_rfl) (by kernel_rfl) ?hQb39 ?hyb39 hHeld ?hb39
              case hib39 => (simp only [List.getElem?_toArray, List.getElem?_cons_succ, List.getElem?_cons_zero]; rfl)
              case hQb39 => exact fun _ _ _ h => h
              case hyb39 => (refine Or.inl ⟨by rfl, ?_⟩; intro w hSw; (try dsimp only at hSw); go_simp <;> with_reducible rfl)
              try simp only [Act.put, List.setIfInBounds_toArray, List.set_cons_zero, List.set_cons_succ]
              refine' wpAnyH_take (i := 40) ?hib40 (by kernel_rfl) (by kernel_rfl) (by kernel_rfl) ?hQb40 ?hyb40 hHeld ?hb40
              case hib40 => (simp only [List.getElem?_toArray, List.getElem?_cons_succ, List.getElem?_cons_zero]; rfl)
              case hQb40 => exact fun _ _ _ h => h
              case hyb40 => (refine Or.inl ⟨by rfl, ?_⟩; intro w hSw; (try dsimp only at hSw); go_simp <;> with_reducible rfl)
              try simp only [Act.put, List.setIfInBounds_toArray, List.set_cons_zero, List.set_cons_succ]
              refine' wpAnyH_take (i := 41) ?hib41 (by kernel_rfl) (by kernel_rfl) (by kernel_rfl) ?hQb41 ?hyb41 hHeld ?hb41
              case hib41 => (simp only [List.getElem?_toArray, List.getElem?_cons_succ, List.getElem?_cons_zero]; rfl)
              case hQb41 => exact fun _ _ _ h => h
              case hyb41 => (refine Or.inl ⟨by rfl, ?_⟩; intro w hSw; (try dsimp only at hSw); go_simp <;> with_reducible rfl)
              try simp only [Act.put, List.setIfInBounds_toArray, List.set_cons_zero, List.set_cons_succ]
              refine' wpAnyH_take (i := 42) ?hib42 (by kernel_rfl) (by kernel_rfl) (by kernel_rfl) ?hQb42 ?hyb42 hHeld ?hb42
              case hib42 => (simp only [List.getElem?_toArray, List.getElem?_cons_succ, List.getElem?_cons_zero]; rfl)
              case hQb42 => exact fun _ _ _ h => h
              case hyb42 => (refine Or.inl ⟨by rfl, ?_⟩; intro w hSw; (try dsimp only at hSw); go_simp <;> with_reducible rfl)
              try simp only [Act.put, List.setIfInBounds_toArray, List.set_cons_zero, List.set_cons_succ]
              refine' wpAnyH_take (i := 43) ?hib43 (by kernel_rfl) (by kernel_rfl) (by kernel_rfl) ?hQb43 ?hyb43 hHeld ?hb43
              case hib43 => (simp only [List.getElem?_toArray, List.getElem?_cons_succ, List.getElem?_cons_zero]; rfl)
              case hQb43 => exact fun _ _ _ h => h
              case hyb43 => (refine Or.inl ⟨by rfl, ?_⟩; intro w hSw; (try dsimp only at hSw); go_simp <;> with_reducible rfl)
              try simp only [Act.put, List.setIfInBounds_toArray, List.set_cons_zero, List.set_cons_succ]
              refine' wpAnyH_take (i := 44) ?hib44 (by kernel_rfl) (by kernel_rfl) (by kernel_rfl) ?hQb44 ?hyb44 hHeld ?hb44
              case hib44 => (simp only [List.getElem?_toArray, List.getElem?_cons_succ, List.getElem?_cons_zero]; rfl)
              case hQb44 => exact fun _ _ _ h => h
              case hyb44 => (refine Or.inl ⟨by rfl, ?_⟩; intro w hSw; (try dsimp only at hSw); go_simp <;> with_reducible rfl)
              try simp only [Act.put, List.setIfInBounds_toArray, List.set_cons_zero, List.set_cons_succ]
              refine' wpAnyH_take (i := 45) ?hib45 (by kernel_rfl) (by kernel_rfl) (by kernel_rfl) ?hQb45 ?hyb45 hHeld ?hb45
              case hib45 => (simp only [List.getElem?_toArray, List.getElem?_cons_succ, List.getElem?_cons_zero]; rfl)
              case hQb45 => exact fun _ _ _ h => h
              case hyb45 => (refine Or.inl ⟨by rfl, ?_⟩; intro w hSw; (try dsimp only at hSw); go_simp <;> with_reducible rfl)
              try simp only [Act.put, List.setIfInBounds_toArray, List.set_cons_zero, List.set_cons_succ]
              refine' wpAnyH_take (i := 46) ?hib46 (by kernel_rfl) (by kernel_rfl) (by kernel_rfl) ?hQb46 ?hyb46 hHeld ?hb46
              case hib46 => (simp only [List.getElem?_toArray, List.getElem?_cons_succ, List.getElem?_cons_zero]; rfl)
              case hQb46 => exact fun _ _ _ h => h
              case hyb46 => exact Or.inr ⟨by rfl, rfl⟩
              try simp only [Act.put, List.setIfInBounds_toArray, List.set_cons_zero, List.set_cons_succ]
              refine' wpAnyH_take (i := 47) ?hib47 (by kernel_rfl) (by kernel_rfl) (by kernel_rfl) ?hQb47 ?hyb47 hHeld ?hb47
              case hib47 => (simp only [List.getElem?_toArray, List.getElem?_cons_succ, List.getElem?_cons_zero]; rfl)
              case hQb47 => exact fun _ _ _ h => h
              case hyb47 => exact Or.inr ⟨by rfl, rfl⟩
              try simp only [Act.put, List.setIfInBounds_toArray, List.set_cons_zero, List.set_cons_succ]
              refine' wpAnyH_take (i := 48) ?hib48 (by kernel_rfl) (by kernel_rfl) (by kernel_rfl) ?hQb48 ?hyb48 hHeld ?hb48
              case hib48 => (simp only [List.getElem?_toArray, List.getElem?_cons_succ, List.getElem?_cons_zero]; rfl)
              case hQb48 => exact fun _ _ _ h => h
              case hyb48 => exact Or.inr ⟨by rfl, rfl⟩
              try simp only [Act.put, List.setIfInBounds_toArray, List.set_cons_zero, List.set_cons_succ]
              refine' wpAnyH_take (i := 49) ?hib49 (by kernel_rfl) (by kernel_rfl) (by kernel_rfl) ?hQb49 ?hyb49 hHeld ?hb49
              case hib49 => (simp only [List.getElem?_toArray, List.getElem?_cons_succ, List.getElem?_cons_zero]; rfl)
              case hQb49 => exact fun _ _ _ h => h
              case hyb49 => exact Or.inr ⟨by rfl, rfl⟩
              try simp only [Act.put, List.setIfInBounds_toArray, List.set_cons_zero, List.set_cons_succ]
              refine' wpAnyH_take (i := 50) ?hib50 (by kernel_rfl) (by kernel_rfl) (by kernel_rfl) ?hQb50 ?hyb50 hHeld ?hb50
              case hib50 => (simp only [List.getElem?_toArray, List.getElem?_cons_succ, List.getElem?_cons_zero]; rfl)
              case hQb50 => exact fun _ _ _ h => h
              case hyb50 => exact Or.inr ⟨by rfl, rfl⟩
              try simp only [Act.put, List.setIfInBounds_toArray, List.set_cons_zero, List.set_cons_succ]
              refine' wpAnyH_take (i := 51) ?hib51 (by kernel_rfl) (by kernel_rfl) (by kernel_rfl) ?hQb51 ?hyb51 hHeld ?hb51
              case hib51 => (simp only [List.getElem?_toArray, List.getElem?_cons_succ, List.getElem?_cons_zero]; rfl)
              case hQb51 => exact fun _ _ _ h => h
              case hyb51 => (refine Or.inl ⟨by rfl, ?_⟩; intro w hSw; (try dsimp only at hSw); go_simp <;> with_reducible rfl)
              try simp only [Act.put, List.setIfInBounds_toArray, List.set_cons_zero, List.set_cons_succ]
              refine' wpAnyH_take (i := 52) ?hib52 (by kernel_rfl) (by kernel_rfl) (by kernel_rfl) ?hQb52 ?hyb52 hHeld ?hb52
              case hib52 => (simp only [List.getElem?_toArray, List.getElem?_cons_succ, List.getElem?_cons_zero]; rfl)
              case hQb52 => exact fun _ _ _ h => h
              case hyb52 => (refine Or.inl ⟨by rfl, ?_⟩; intro w hSw; (try dsimp only at hSw); go_simp <;> with_reducible rfl)
              try simp only [Act.put, List.setIfInBounds_toArray, List.set_cons_zero, List.set_cons_succ]
              refine wpAnyH_done (by kernel_rfl) ?_ _
              all_goals
                go_wp2_with fail
                go_meet
                first | exact ⟨rfl, E4⟩ | exact ⟨rfl, by (first | exact E4 | exact Ext.drew E4 | exact Ext.alloc E4 _ | exact Ext.alloc (Ext.drew E4) _ | exact Ext.drew (Ext.alloc E4 _) | exact Ext.alloc (Ext.alloc E4 _) _ | exact Ext.alloc (Ext.alloc (Ext.drew E4) _) _ | exact Ext.alloc (Ext.drew (Ext.alloc E4 _)) _ | exact Ext.drew (Ext.alloc (Ext.alloc E4 _) _))⟩ | exact ⟨rfl, by (first | exact E2 | exact Ext.drew E2 | exact Ext.alloc E2 _ | exact Ext.alloc (Ext.drew E2) _ | exact Ext.drew (Ext.alloc E2 _) | exact Ext.alloc (Ext.alloc E2 _) _ | exact Ext.alloc (Ext.alloc (Ext.drew E2) _) _ | exact Ext.alloc (Ext.drew (Ext.alloc E2 _)) _ | exact Ext.drew (Ext.alloc (Ext.alloc E2 _) _))⟩
            case rest =>
              obtain ⟨hv, xc⟩ := hcut
              subst hv
              have XC := Go.Lib.hid (X8.out.trans xc); have LC := Go.Lib.hid (L8.out.extN xc)
              clear xc E0
              go_wp2_with fail
              go_meet
              exact ⟨G, I7.out, LC.out, XC.out⟩
          · as_aux_lemma =>
            have hw : IntKind.i64.wrap ((N.length : Int) - (M.length : Int)) = (-1) := by rw [show (N.length : Int) - (M.length : Int) = (-1) by omega]; rfl
            have h2 : q.k = 7 := h2
            subst h3; subst h4
            clear h1
            go_wp2_with fail
            refine (ledger_Next b m G I7.out _ (L7'.out.extN AL)).mono ?_
            rintro e w8 ⟨a3, c3, rfl, x8, i3, f3⟩
            rw [HN.out]
            have k3 := K3.out _ (AL.trans x8)
            rw [h2] at k3
            have W8 := Go.Lib.hid (W7.out.extN (AL.trans x8))
            have X8 := Go.Lib.hid (X7.out.trans (AL.trans x8))
            have L8 := Go.Lib.hid (L7'.out.extN (AL.trans x8))
            have I2 : Hid (Ints w8 a2 c2 M) := Go.Lib.hid (by have := W8.out.i2; rw [HM.out] at this; exact this)
            have E0 := Ext.refl Non w8
            have RC : w8.cell? ⟨w7.heap.size, 0, none⟩ = some (.int .i64 0) := (x8.cell (p := ⟨w7.heap.size, 0, none⟩) (by simp) id).trans (cell_new w7 [.int .i64 0, .float .f64 rl] _ rfl)
            have KW : Hid (∀ W', Ext Non w8 W' → W'.cell? ⟨k, 0, none⟩ = some (.int .i64 g.epoch) ∧ W'.cell? ⟨k, 1, none⟩ = some (.slice a1 g.mem.length c1) ∧ W'.cell? ⟨w7.heap.size, 0, none⟩ = some (.int .i64 0)) :=
              Go.Lib.hid (fun W' y => ⟨(W8.out.extN y).q0, (W8.out.extN y).q1, (y.cell (p := ⟨w7.heap.size, 0, none⟩) (lt_of_cell RC) id).trans RC⟩)
            clear x8 AL i3 f3 RC
            go_upto_region 19 with fail
            clear k3
            go_cut [162] (fun v wx => v = .bool false ∧ Ext Non w8 wx)
            case first =>
              obtain ⟨r0, r1, r2⟩ := KW.out _ E0
              refine wp_region_held_drew (S := (fun w' => w'.cell? ⟨k, 0, none⟩ = some (.int .i64 g.epoch) ∧ w'.cell? ⟨k, 1, none⟩ = some (.slice a1 g.mem.length c1) ∧ w'.cell? ⟨w7.heap.size, 0, none⟩ = some (.int .i64 0))) (by kernel_rfl) (by first | exact KW.out _ (by (first | exact E4 | exact Ext.drew E4 | exact Ext.alloc E4 _ | exact Ext.alloc (Ext.drew E4) _ | exact Ext.drew (Ext.alloc E4 _) | exact Ext.alloc (Ext.alloc E4 _) _ | exact Ext.alloc (Ext.alloc (Ext.drew E4) _) _ | exact Ext.alloc (Ext.drew (Ext.alloc E4 _)) _ | exact Ext.drew (Ext.alloc (Ext.alloc E4 _) _))) | exact KW.out _ (by (first | exact E3 | exact Ext.drew E3 | exact Ext.alloc E3 _ | exact Ext.alloc (Ext.drew E3) _ | exact Ext.drew (Ext.alloc E3 _) | exact Ext.alloc (Ext.alloc E3 _) _ | exact Ext.alloc (Ext.alloc (Ext.drew E3) _) _ | exact Ext.alloc (Ext.drew (Ext.alloc E3 _)) _ | exact Ext.drew (Ext.alloc (Ext.alloc E3 _) _))) | exact KW.out _ (by (first | exact E2 | exact Ext.drew E2 | exact Ext.alloc E2 _ | exact Ext.alloc (Ext.drew E2) _ | exact Ext.drew (Ext.alloc E2 _) | exact Ext.alloc (Ext.alloc E2 _) _ | exact Ext.alloc (Ext.alloc (Ext.drew E2) _) _ | exact Ext.alloc (Ext.drew (Ext.alloc E2 _)) _ | exact Ext.drew (Ext.alloc (Ext.alloc E2 _) _))) | exact KW.out _ (by (first | exact E1 | exact Ext.drew E1 | exact Ext.alloc E1 _ | exact Ext.alloc (Ext.drew E1) _ | exact Ext.drew (Ext.alloc E1 _) | exact Ext.alloc (Ext.alloc E1 _) _ | exact Ext.alloc (Ext.alloc (Ext.drew E1) _) _ | exact Ext.alloc (Ext.drew (Ext.alloc E1 _)) _ | exact Ext.drew (Ext.alloc (Ext.alloc E1 _) _))) | exact KW.out _ (by (first | exact E0 | exact Ext.drew E0 | exact Ext.alloc E0 _ | exact Ext.alloc (Ext.drew E0) _ | exact Ext.drew (Ext.alloc E0 _) | exact Ext.alloc (Ext.alloc E0 _) _ | exact Ext.alloc (Ext.alloc (Ext.drew E0) _) _ | exact Ext.alloc (Ext.drew (Ext.alloc E0 _)) _ | exact Ext.drew (Ext.alloc (Ext.alloc E0 _) _)))) (fun hHeld => ?_)
              refine' wpAnyH_take (i := 0) ?hic0 (by kernel_rfl) (by kernel_rfl) (by kernel_rfl) ?hQc0 ?hyc0 hHeld ?hc0
              case hic0 => (simp only [List.getElem?_toArray, List.getElem?_cons_succ, List.getElem?_cons_zero]; rfl)
              case hQc0 => exact fun _ _ _ h => h
              case hyc0 => (refine Or.inl ⟨by rfl, ?_⟩; intro w hSw; (try dsimp only at hSw); go_simp <;> with_reducible rfl)
              try simp only [Act.put, List.setIfInBounds_toArray, List.set_cons_zero, List.set_cons_succ]
              refine' wpAnyH_take (i := 2) ?hic2 (by kernel_rfl) (by kernel_rfl) (by kernel_rfl) ?hQc2 ?hyc2 hHeld ?hc2
              case hic2 => (simp only [List.getElem?_toArray, List.getElem?_cons_succ, List.getElem?_cons_zero]; rfl)
              case hQc2 => exact fun _ _ _ h => h
              case hyc2 => (refine Or.inl ⟨by rfl, ?_⟩; intro w hSw; (try dsimp only at hSw); go_simp <;> with_reducible rfl)
              try simp only [Act.put, List.setIfInBounds_toArray, List.set_cons_zero, List.set_cons_succ]
              refine wpAnyH_ready (rs := [1]) (by kernel_rfl) (by simp) ?_
              refine AllReadyH.cons (o := _) (by simp only [List.getElem?_toArray, List.getElem?_cons_succ, List.getElem?_cons_zero]; rfl) (fun K hK => ?_) AllReadyH.nil
              go_simp
              go_at_call 10
              refine Calls.mono (ledger_Conf b m G I7.out _ (L8.out.extN (by (first | exact E0 | exact Ext.drew E0 | exact Ext.alloc E0 _ | exact Ext.alloc (Ext.drew E0) _ | exact Ext.drew (Ext.alloc E0 _) | exact Ext.alloc (Ext.alloc E0 _) _ | exact Ext.alloc (Ext.alloc (Ext.drew E0) _) _ | exact Ext.alloc (Ext.drew (Ext.alloc E0 _)) _ | exact Ext.drew (Ext.alloc (Ext.alloc E0 _) _))))) ?_
              rintro e w9 ⟨a4, c4, rfl, x9, i9, f9⟩
              rw [EP.out, EM.out]
              rw [EM.out] at i9
              have E1 : Ext Non w8 w9 := (by (first | exact E0 | exact Ext.drew E0 | exact Ext.alloc E0 _ | exact Ext.alloc (Ext.drew E0) _ | exact Ext.drew (Ext.alloc E0 _) | exact Ext.alloc (Ext.alloc E0 _) _ | exact Ext.alloc (Ext.alloc (Ext.drew E0) _) _ | exact Ext.alloc (Ext.drew (Ext.alloc E0 _)) _ | exact Ext.drew (Ext.alloc (Ext.alloc E0 _) _)) : Ext Non w8 _).trans x9
              have Z1 := Ext.refl Non w9
              dsimp only
              refine hK.out _ _ (by first | exact KW.out _ (by (first | exact E4 | exact Ext.drew E4 | exact Ext.alloc E4 _ | exact Ext.alloc (Ext.drew E4) _ | exact Ext.drew (Ext.alloc E4 _) | exact Ext.alloc (Ext.alloc E4 _) _ | exact Ext.alloc (Ext.alloc (Ext.drew E4) _) _ | exact Ext.alloc (Ext.drew (Ext.alloc E4 _)) _ | exact Ext.drew (Ext.alloc (Ext.alloc E4 _) _))) | exact KW.out _ (by (first | exact E3 | exact Ext.drew E3 | exact Ext.alloc E3 _ | exact Ext.alloc (Ext.drew E3) _ | exact Ext.drew (Ext.alloc E3 _) | exact Ext.alloc (Ext.alloc E3 _) _ | exact Ext.alloc (Ext.alloc (Ext.drew E3) _) _ | exact Ext.alloc (Ext.drew (Ext.alloc E3 _)) _ | exact Ext.drew (Ext.alloc (Ext.alloc E3 _) _))) | exact KW.out _ (by (first | exact E2 | exact Ext.drew E2 | exact Ext.alloc E2 _ | exact Ext.alloc (Ext.drew E2) _ | exact Ext.drew (Ext.alloc E2 _) | exact Ext.alloc (Ext.alloc E2 _) _ | exact Ext.alloc (Ext.alloc (Ext.drew E2) _) _ | exact Ext.alloc (Ext.drew (Ext.alloc E2 _)) _ | exact Ext.drew (Ext.alloc (Ext.alloc E2 _) _))) | exact KW.out _ (by (first | exact E1 | exact Ext.drew E1 | exact Ext.alloc E1 _ | exact Ext.alloc (Ext.drew E1) _ | exact Ext.drew (Ext.alloc E1 _) | exact Ext.alloc (Ext.alloc E1 _) _ | exact Ext.alloc (Ext.alloc (Ext.drew E1) _) _ | exact Ext.alloc (Ext.drew (Ext.alloc E1 _)) _ | exact Ext.drew (Ext.alloc (Ext.alloc E1 _) _))) | exact KW.out _ (by (first | exact E0 | exact Ext.drew E0 | exact Ext.alloc E0 _ | exact Ext.alloc (Ext.drew E0) _ | exact Ext.drew (Ext.alloc E0 _) | exact Ext.alloc (Ext.alloc E0 _) _ | exact Ext.alloc (Ext.alloc (Ext.drew E0) _) _ | exact Ext.alloc (Ext.drew (Ext.alloc E0 _)) _ | exact Ext.drew (Ext.alloc (Ext.alloc E0 _) _)))) (fun hHeld => ?_)
              clear hK K
              try simp only [Act.put, List.setIfInBounds_toArray, List.set_cons_zero, List.set_cons_succ]
              refine wpAnyH_ready (rs := [3]) (by kernel_rfl) (by simp) ?_
              refine AllReadyH.cons (o := _) (by simp only [List.getElem?_toArray, List.getElem?_cons_succ, List.getElem?_cons_zero]; rfl) (fun K hK => ?_) AllReadyH.nil
              go_simp
              go_at_call 15
              refine Calls.mono (ref_Same _ _ _ _ _ _ _ _ _ (i9.extN (by (first | exact Z1 | exact Ext.drew Z1 | exact Ext.alloc Z1 _ | exact Ext.alloc (Ext.drew Z1) _ | exact Ext.drew (Ext.alloc Z1 _) | exact Ext.alloc (Ext.alloc Z1 _) _ | exact Ext.alloc (Ext.alloc (Ext.drew Z1) _) _ | exact Ext.alloc (Ext.drew (Ext.alloc Z1 _)) _ | exact Ext.drew (Ext.alloc (Ext.alloc Z1 _) _)))) (W8.out.i1.extN (by (first | exact E1 | exact Ext.drew E1 | exact Ext.alloc E1 _ | exact Ext.alloc (Ext.drew E1) _ | exact Ext.drew (Ext.alloc E1 _) | exact Ext.alloc (Ext.alloc E1 _) _ | exact Ext.alloc (Ext.alloc (Ext.drew E1) _) _ | exact Ext.alloc (Ext.drew (Ext.alloc E1 _)) _ | exact Ext.drew (Ext.alloc (Ext.alloc E1 _) _))))) ?_
              rintro e w10 ⟨rfl, x10⟩
              rw [decide_eq_true (rfl : g.mem = g.mem), decide_eq_true (rfl : g.epoch = g.epoch)]
              have E2 : Ext Non w8 w10 := (by (first | exact E1 | exact Ext.drew E1 | exact Ext.alloc E1 _ | exact Ext.alloc (Ext.drew E1) _ | exact Ext.drew (Ext.alloc E1 _) | exact Ext.alloc (Ext.alloc E1 _) _ | exact Ext.alloc (Ext.alloc (Ext.drew E1) _) _ | exact Ext.alloc (Ext.drew (Ext.alloc E1 _)) _ | exact Ext.drew (Ext.alloc (Ext.alloc E1 _) _)) : Ext Non w8 _).trans x10
              dsimp only
              refine hK.out _ _ (by first | exact KW.out _ (by (first | exact E4 | exact Ext.drew E4 | exact Ext.alloc E4 _ | exact Ext.alloc (Ext.drew E4) _ | exact Ext.drew (Ext.alloc E4 _) | exact Ext.alloc (Ext.alloc E4 _) _ | exact Ext.alloc (Ext.alloc (Ext.drew E4) _) _ | exact Ext.alloc (Ext.drew (Ext.alloc E4 _)) _ | exact Ext.drew (Ext.alloc (Ext.alloc E4 _) _))) | exact KW.out _ (by (first | exact E3 | exact Ext.drew E3 | exact Ext.alloc E3 _ | exact Ext.alloc (Ext.drew E3) _ | exact Ext.drew (Ext.alloc E3 _) | exact Ext.alloc (Ext.alloc E3 _) _ | exact Ext.alloc (Ext.alloc (Ext.drew E3) _) _ | exact Ext.alloc (Ext.drew (Ext.alloc E3 _)) _ | exact Ext.drew (Ext.alloc (Ext.alloc E3 _) _))) | exact KW.out _ (by (first | exact E2 | exact Ext.drew E2 | exact Ext.alloc E2 _ | exact Ext.alloc (Ext.drew E2) _ | exact Ext.drew (Ext.alloc E2 _) | exact Ext.alloc (Ext.alloc E2 _) _ | exact Ext.alloc (Ext.alloc (Ext.drew E2) _) _ | exact Ext.alloc (Ext.drew (Ext.alloc E2 _)) _ | exact Ext.drew (Ext.alloc (Ext.alloc E2 _) _))) | exact KW.out _ (by (first | exact E1 | exact Ext.drew E1 | exact Ext.alloc E1 _ | exact Ext.alloc (Ext.drew E1) _ | exact Ext.drew (Ext.alloc E1 _) | exact Ext.alloc (Ext.alloc E1 _) _ | exact Ext.alloc (Ext.alloc (Ext.drew E1) _) _ | exact Ext.alloc (Ext.drew (Ext.alloc E1 _)) _ | exact Ext.drew (Ext.alloc (Ext.alloc E1 _) _))) | exact KW.out _ (by (first | exact E0 | exact Ext.drew E0 | exact Ext.alloc E0 _ | exact Ext.alloc (Ext.drew E0) _ | exact Ext.drew (Ext.alloc E0 _) | exact Ext.alloc (Ext.alloc E0 _) _ | exact Ext.alloc (Ext.alloc (Ext.drew E0) _) _ | exact Ext.alloc (Ext.drew (Ext.alloc E0 _)) _ | exact Ext.drew (Ext.alloc (Ext.alloc E0 _) _)))) (fun hHeld => ?_)
              clear hK K
              try simp only [Act.put, List.setIfInBounds_toArray, List.set_cons_zero, List.set_cons_succ]
              refine' wpAnyH_take (i := 4) ?hic4 (by kernel_rfl) (by kernel_rfl) (by kernel_rfl) ?hQc4 ?hyc4 hHeld ?hc4
              case hic4 => (simp only [List.getElem?_toArray, List.getElem?_cons_succ, List.getElem?_cons_zero]; rfl)
              case hQc4 => exact fun _ _ _ h => h
              case hyc4 => (refine Or.inl ⟨by rfl, ?_⟩; intro w hSw; (try dsimp only at hSw); go_simp <;> with_reducible rfl)
              try simp only [Act.put, List.setIfInBounds_toArray, List.set_cons_zero, List.set_cons_succ]
              refine' wpAnyH_take (i := 5) ?hic5 (by kernel_rfl) (by kernel_rfl) (by kernel_rfl) ?hQc5 ?hyc5 hHeld ?hc5
              case hic5 => (simp only [List.getElem?_toArray, List.getElem?_cons_succ, List.getElem?_cons_zero]; rfl)
              case hQc5 => exact fun _ _ _ h => h
              case hyc5 => (refine Or.inl ⟨by rfl, ?_⟩; intro w hSw; (try dsimp only at hSw); go_simp <;> with_reducible rfl)
              try simp only [Act.put, List.setIfInBounds_toArray, List.set_cons_zero, List.set_cons_succ]
              refine' wpAnyH_take (i := 6) ?hic6 (by kernel_rfl) (by kernel_rfl) (by kernel_rfl) ?hQc6 ?hyc6 hHeld ?hc6
              case hic6 => (simp only [List.getElem?_toArray, List.getElem?_cons_succ, List.getElem?_cons_zero]; rfl)
              case hQc6 => exact fun _ _ _ h => h
              case hyc6 => (refine Or.inl ⟨by rfl, ?_⟩; intro w hSw; (try dsimp only at hSw); go_simp <;> with_reducible rfl)
              try simp only [Act.put, List.setIfInBounds_toArray, List.set_cons_zero, List.set_cons_succ]
              refine' wpAnyH_take (i := 7) ?hic7 (by kernel_rfl) (by kernel_rfl) (by kernel_rfl) ?hQc7 ?hyc7 hHeld ?hc7
              case hic7 => (simp only [List.getElem?_toArray, List.getElem?_cons_succ, List.getElem?_cons_zero]; rfl)
              case hQc7 => exact fun _ _ _ h => h
              case hyc7 => (refine Or.inl ⟨by rfl, ?_⟩; intro w hSw; (try dsimp only at hSw); go_simp <;> with_reducible rfl)
              try simp only [Act.put, List.setIfInBounds_toArray, List.set_cons_zero, List.set_cons_succ]
              refine' wpAnyH_take (i := 8) ?hic8 (by kernel_rfl) (by kernel_rfl) (by kernel_rfl) ?hQc8 ?hyc8 hHeld ?hc8
              case hic8 => (simp only [List.getElem?_toArray, List.getElem?_cons_succ, List.getElem?_cons_zero]; rfl)
              case hQc8 => exact fun _ _ _ h => h
              case hyc8 => (refine Or.inl ⟨by rfl, ?_⟩; intro w hSw; (try dsimp only at hSw); go_simp <;> with_reducible rfl)
              try simp only [Act.put, List.setIfInBounds_toArray, List.set_cons_zero, List.set_cons_succ]
              refine' wpAnyH_take (i := 9) ?hic9 (by kernel_rfl) (by kernel_rfl) (by kernel_rfl) ?hQc9 ?hyc9 hHeld ?hc9
              case hic9 => (simp only [List.getElem?_toArray, List.getElem?_cons_succ, List.getElem?_cons_zero]; rfl)
              case hQc9 => exact fun _ _ _ h => h
              case hyc9 => (refine Or.inl ⟨by rfl, ?_⟩; intro w hSw; (try dsimp only at hSw); go_simp <;> with_reducible rfl)
              try simp only [Act.put, List.setIfInBounds_toArray, List.set_cons_zero, List.set_cons_succ]
              refine' wpAnyH_take (i := 10) ?hic10 (by kernel_rfl) (by kernel_rfl) (by kernel_rfl) ?hQc10 ?hyc10 hHeld ?hc10
              case hic10 => (simp only [List.getElem?_toArray, List.getElem?_cons_succ, List.getElem?_cons_zero]; rfl)
              case hQc10 => exact fun _ _ _ h => h
              case hyc10 => (refine Or.inl ⟨by rfl, ?_⟩; intro w hSw; (try dsimp only at hSw); go_simp <;> with_reducible rfl)
              try simp only [Act.put, List.setIfInBounds_toArray, List.set_cons_zero, List.set_cons_succ]
              refine' wpAnyH_take (i := 11) ?hic11 (by kernel_rfl) (by kernel_rfl) (by kernel_rfl) ?hQc11 ?hyc11 hHeld ?hc11
              case hic11 => (simp only [List.getElem?_toArray, List.getElem?_cons_succ, List.getElem?_cons_zero]; rfl)
              case hQc11 => exact fun _ _ _ h => h
              case hyc11 => (refine Or.inl ⟨by rfl, ?_⟩; intro w hSw; (try dsimp only at hSw); go_simp <;> with_reducible rfl)
              try simp only [Act.put, List.setIfInBounds_toArray, List.set_cons_zero, List.set_cons_succ]
              refine' wpAnyH_take (i := 12) ?hic12 (by kernel_rfl) (by kernel_rfl) (by kernel_rfl) ?hQc12 ?hyc12 hHeld ?hc12
              case hic12 => (simp only [List.getElem?_toArray, List.getElem?_cons_succ, List.getElem?_cons_zero]; rfl)
              case hQc12 => exact fun _ _ _ h => h
              case hyc12 => (refine Or.inl ⟨by rfl, ?_⟩; intro w hSw; (try dsimp only at hSw); go_simp <;> with_reducible rfl)
              try simp only [Act.put, List.setIfInBounds_toArray, List.set_cons_zero, List.set_cons_succ]
              refine' wpAnyH_take (i := 13) ?hic13 (by kernel_rfl) (by kernel_rfl) (by kernel_rfl) ?hQc13 ?hyc13 hHeld ?hc13
              case hic13 => (simp only [List.getElem?_toArray, List.getElem?_cons_succ, List.getElem?_cons_zero]; rfl)
              case hQc13 => exact fun _ _ _ h => h
              case hyc13 => (refine Or.inl ⟨by rfl, ?_⟩; intro w hSw; (try dsimp only at hSw); go_simp <;> with_reducible rfl)
              try simp only [Act.put, List.setIfInBounds_toArray, List.set_cons_zero, List.set_cons_succ]
              refine' wpAnyH_take (i := 14) ?hic14 (by kernel_rfl) (by kernel_rfl) (by kernel_rfl) ?hQc14 ?hyc14 hHeld ?hc14
              case hic14 => (simp only [List.getElem?_toArray, List.getElem?_cons_succ, List.getElem?_cons_zero]; rfl)
              case hQc14 => exact fun _ _ _ h => h
              case hyc14 => (refine Or.inl ⟨by rfl, ?_⟩; intro w hSw; (try dsimp only at hSw); go_simp <;> with_reducible rfl)
              try simp only [Act.put, List.setIfInBounds_toArray, List.set_cons_zero, List.set_cons_succ]
              refine' wpAnyH_take (i := 15) ?hic15 (by kernel_rfl) (by kernel_rfl) (by kernel_rfl) ?hQc15 ?hyc15 hHeld ?hc15
              case hic15 => (simp only [List.getElem?_toArray, List.getElem?_cons_succ, List.getElem?_cons_zero]; rfl)
              case hQc15 => exact fun _ _ _ h => h
              case hyc15 => (refine Or.inl ⟨by rfl, ?_⟩; intro w hSw; (try dsimp only at hSw); go_simp <;> with_reducible rfl)
              try simp only [Act.put, List.setIfInBounds_toArray, List.set_cons_zero, List.set_cons_succ]
              refine' wpAnyH_take (i := 16) ?hic16 (by kernel_rfl) (by kernel_rfl) (by kernel_rfl) ?hQc16 ?hyc16 hHeld ?hc16
              case hic16 => (simp only [List.getElem?_toArray, List.getElem?_cons_succ, List.getElem?_cons_zero]; rfl)
              case hQc16 => exact fun _ _ _ h => h
              case hyc16 => (refine Or.inl ⟨by rfl, ?_⟩; intro w hSw; (try dsimp only at hSw); go_simp <;> with_reducible rfl)
              try simp only [Act.put, List.setIfInBounds_toArray, List.set_cons_zero, List.set_cons_succ]
              refine' wpAnyH_take (i := 17) ?hic17 (by kernel_rfl) (by kernel_rfl) (by kernel_rfl) ?hQc17 ?hyc17 hHeld ?hc17
              case hic17 => (simp only [List.getElem?_toArray, List.getElem?_cons_succ, List.getElem?_cons_zero]; rfl)
              case hQc17 => exact fun _ _ _ h => h
              case hyc17 => exact Or.inr ⟨by rfl, rfl⟩
              try simp only [Act.put, List.setIfInBounds_toArray, List.set_cons_zero, List.set_cons_succ]
              refine' wpAnyH_take (i := 18) ?hic18 (by kernel_rfl) (by kernel_rfl) (by kernel_rfl) ?hQc18 ?hyc18 hHeld ?hc18
              case hic18 => (simp only [List.getElem?_toArray, List.getElem?_cons_succ, List.getElem?_cons_zero]; rfl)
              case hQc18 => exact fun _ _ _ h => h
              case hyc18 => exact Or.inr ⟨by rfl, rfl⟩
              try simp only [Act.put, List.setIfInBounds_toArray, List.set_cons_zero, List.set_cons_succ]
              refine' wpAnyH_take (i := 19) ?hic19 (by kernel_rfl) (by kernel_rfl) (by kernel_rfl) ?hQc19 ?hyc19 hHeld ?hc19
              case hic19 => (simp only [List.getElem?_toArray, List.getElem?_cons_succ, List.getElem?_cons_zero]; rfl)
              case hQc19 => exact fun _ _ _ h => h
              case hyc19 => (refine Or.inl ⟨by rfl, ?_⟩; intro w hSw; (try dsimp only at hSw); go_simp <;> with_reducible rfl)
              try simp only [Act.put, List.setIfInBounds_toArray, List.set_cons_zero, List.set_cons_succ]
              refine' wpAnyH_take (i := 20) ?hic20 (by kernel_rfl) (by kernel_rfl) (by kernel_rfl) ?hQc20 ?hyc20 hHeld ?hc20
              case hic20 => (simp only [List.getElem?_toArray, List.getElem?_cons_succ, List.getElem?_cons_zero]; rfl)
              case hQc20 => exact fun _ _ _ h => h
              case hyc20 => (refine Or.inl ⟨by rfl, ?_⟩; intro w hSw; (try dsimp only at hSw); go_simp <;> with_reducible rfl)
              try simp only [Act.put, List.setIfInBounds_toArray, List.set_cons_zero, List.set_cons_succ]
              refine' wpAnyH_take (i := 21) ?hic21 (by kernel_rfl) (by kernel_rfl) (by kernel_rfl) ?hQc21 ?hyc21 hHeld ?hc21
              case hic21 => (simp only [List.getElem?_toArray, List.getElem?_cons_succ, List.getElem?_cons_zero]; rfl)
              case hQc21 => exact fun _ _ _ h => h
              case hyc21 => (refine Or.inl ⟨by rfl, ?_⟩; intro w hSw; (try dsimp only at hSw); go_simp <;> with_reducible rfl)
              try simp only [Act.put, List.setIfInBounds_toArray, List.set_cons_zero, List.set_cons_succ]
              refine' wpAnyH_take (i := 22) ?hic22 (by kernel_rfl) (by kernel_rfl) (by kernel_rfl) ?hQc22 ?hyc22 hHeld ?hc22
              case hic22 => (simp only [List.getElem?_toArray, List.getElem?_cons_succ, List.getElem?_cons_zero]; rfl)
              case hQc22 => exact fun _ _ _ h => h
              case hyc22 => (refine Or.inl ⟨by rfl, ?_⟩; intro w hSw; (try dsimp only at hSw); go_simp <;> with_reducible rfl)
              try simp only [Act.put, List.setIfInBounds_toArray, List.set_cons_zero, List.set_cons_succ]
              refine' wpAnyH_take (i := 23) ?hic23 (by kernel_rfl) (by kernel_rfl) (by kernel_rfl) ?hQc23 ?hyc23 hHeld ?hc23
              case hic23 => (simp only [List.getElem?_toArray, List.getElem?_cons_succ, List.getElem?_cons_zero]; rfl)
              case hQc23 => exact fun _ _ _ h => h
              case hyc23 => (refine Or.inl ⟨by rfl, ?_⟩; intro w hSw; (try dsimp only at hSw); go_simp <;> with_reducible rfl)
              try simp only [Act.put, List.setIfInBounds_toArray, List.set_cons_zero, List.set_cons_succ]
              refine' wpAnyH_take (i := 24) ?hic24 (by kernel_rfl) (by kernel_rfl) (by kernel_rfl) ?hQc24 ?hyc24 hHeld ?hc24
              case hic24 => (simp only [List.getElem?_toArray, List.getElem?_cons_succ, List.getElem?_cons_zero]; rfl)
              case hQc24 => exact fun _ _ _ h => h
              case hyc24 => (refine Or.inl ⟨by rfl, ?_⟩; intro w hSw; (try dsimp only at hSw); go_simp <;> with_reducible rfl)
              try simp only [Act.put, List.setIfInBounds_toArray, List.set_cons_zero, List.set_cons_succ]
              refine' wpAnyH_take (i := 25) ?hic25 (by kernel_rfl) (by kernel_rfl) (by kernel_rfl) ?hQc25 ?hyc25 hHeld ?hc25
              case hic25 => (simp only [List.getElem?_toArray, List.getElem?_cons_succ, List.getElem?_cons_zero]; rfl)
              case hQc25 => exact fun _ _ _ h => h
              case hyc25 => (refine Or.inl ⟨by rfl, ?_⟩; intro w hSw; (try dsimp only at hSw); go_simp <;> with_reducible rfl)
              try simp only [Act.put, List.setIfInBounds_toArray, List.set_cons_zero, List.set_cons_succ]
              refine' wpAnyH_take (i := 26) ?hic26 (by kernel_rfl) (by kernel_rfl) (by kernel_rfl) ?hQc26 ?hyc26 hHeld ?hc26
              case hic26 => (simp only [List.getElem?_toArray, List.getElem?_cons_succ, List.getElem?_cons_zero]; rfl)
              case hQc26 => exact fun _ _ _ h => h
              case hyc26 => (refine Or.inl ⟨by rfl, ?_⟩; intro w hSw; (try dsimp only at hSw); go_simp <;> with_reducible rfl)
              try simp only [Act.put, List.setIfInBounds_toArray, List.set_cons_zero, List.set_cons_succ]
              refine' wpAnyH_take (i := 27) ?hic27 (by kernel_rfl) (by kernel_rfl) (by kernel_rfl) ?hQc27 ?hyc27 hHeld ?hc27
              case hic27 => (simp only [List.getElem?_toArray, List.getElem?_cons_succ, List.getElem?_cons_zero]; rfl)
              case hQc27 => exact fun _ _ _ h => h
              case hyc27 => (refine Or.inl ⟨by rfl, ?_⟩; intro w hSw; (try dsimp only at hSw); go_simp <;> with_reducible rfl)
              try simp only [Act.put, List.setIfInBounds_toArray, List.set_cons_zero, List.set_cons_succ]
              refine' wpAnyH_take (i := 28) ?hic28 (by kernel_rfl) (by kernel_rfl) (by kernel_rfl) ?hQc28 ?hyc28 hHeld ?hc28
              case hic28 => (simp only [List.getElem?_toArray, List.getElem?_cons_succ, List.getElem?_cons_zero]; rfl)
              case hQc28 => exact fun _ _ _ h => h
              case hyc28 => (refine Or.inl ⟨by rfl, ?_⟩; intro w hSw; (try dsimp only at hSw); go_simp <;> with_reducible rfl)
              try simp only [Act.put, List.setIfInBounds_toArray, List.set_cons_zero, List.set_cons_succ]
              refine' wpAnyH_take (i := 29) ?hic29 (by kernel_rfl) (by kernel_rfl) (by kernel_rfl) ?hQc29 ?hyc29 hHeld ?hc29
              case hic29 => (simp only [List.getElem?_toArray, List.getElem?_cons_succ, List.getElem?_cons_zero]; rfl)
              case hQc29 => exact fun _ _ _ h => h
              case hyc29 => (refine Or.inl ⟨by rfl, ?_⟩; intro w hSw; (try dsimp only at hSw); go_simp <;> with_reducible rfl)
              try simp only [Act.put, List.setIfInBounds_toArray, List.set_cons_zero, List.set_cons_succ]
              refine' wpAnyH_take (i := 30) ?hic30 (by kernel_rfl) (by kernel_rfl) (by kernel_rfl) ?hQc30 ?hyc30 hHeld ?hc30
              case hic30 => (simp only [List.getElem?_toArray, List.getElem?_cons_succ, List.getElem?_cons_zero]; rfl)
              case hQc30 => exact fun _ _ _ h => h
              case hyc30 => (refine Or.inl ⟨by rfl, ?_⟩; intro w hSw; (try dsimp only at hSw); go_simp <;> with_reducible rfl)
              try simp only [Act.put, List.setIfInBounds_toArray, List.set_cons_zero, List.set_cons_succ]
              refine' wpAnyH_take (i := 31) ?hic31 (by kernel_rfl) (by kernel_rfl) (by kernel_rfl) ?hQc31 ?hyc31 hHeld ?hc31
              case hic31 => (simp only [List.getElem?_toArray, List.getElem?_cons_succ, List.getElem?_cons_zero]; rfl)
              case hQc31 => exact fun _ _ _ h => h
              case hyc31 => (refine Or.inl ⟨by rfl, ?_⟩; intro w hSw; (try dsimp only at hSw); go_simp <;> with_reducible rfl)
              try simp only [Act.put, List.setIfInBounds_toArray, List.set_cons_zero, List.set_cons_succ]
              refine' wpAnyH_take (i := 32) ?hic32 (by kernel_rfl) (by kernel_rfl) (by kernel_rfl) ?hQc32 ?hyc32 hHeld ?hc32
              case hic32 => (simp only [List.getElem?_toArray, List.getElem?_cons_succ, List.getElem?_cons_zero]; rfl)
              case hQc32 => exact fun _ _ _ h => h
              case hyc32 => (refine Or.inl ⟨by rfl, ?_⟩; intro w hSw; (try dsimp only at hSw); go_simp <;> with_reducible rfl)
              try simp only [Act.put, List.setIfInBounds_toArray, List.set_cons_zero, List.set_cons_succ]
              refine' wpAnyH_take (i := 33) ?hic33 (by kernel_rfl) (by kernel_rfl) (by kernel_rfl) ?hQc33 ?hyc33 hHeld ?hc33
              case hic33 => (simp only [List.getElem?_toArray, List.getElem?_cons_succ, List.getElem?_cons_zero]; rfl)
              case hQc33 => exact fun _ _ _ h => h
              case hyc33 => (refine Or.inl ⟨by rfl, ?_⟩; intro w hSw; (try dsimp only at hSw); go_simp <;> with_reducible rfl)
              try simp only [Act.put, List.setIfInBounds_toArray, List.set_cons_zero, List.set_cons_succ]
              refine' wpAnyH_take (i := 34) ?hic34 (by kernel_rfl) (by kernel_rfl) (by kernel_rfl) ?hQc34 ?hyc34 hHeld ?hc34
              case hic34 => (simp only [List.getElem?_toArray, List.getElem?_cons_succ, List.getElem?_cons_zero]; rfl)
              case hQc34 => exact fun _ _ _ h => h
              case hyc34 => (refine Or.inl ⟨by rfl, ?_⟩; intro w hSw; (try dsimp only at hSw); go_simp <;> with_reducible rfl)
              try simp only [Act.put, List.setIfInBounds_toArray, List.set_cons_zero, List.set_cons_succ]
              refine' wpAnyH_take (i := 35) ?hic35 (by kernel_rfl) (by kernel_rfl) (by kernel_rfl) ?hQc35 ?hyc35 hHeld ?hc35
              case hic35 => (simp only [List.getElem?_toArray, List.getElem?_cons_succ, List.getElem?_cons_zero]; rfl)
              case hQc35 => exact fun _ _ _ h => h
              case hyc35 => (refine Or.inl ⟨by rfl, ?_⟩; intro w hSw; (try dsimp only at hSw); go_simp <;> with_reducible rfl)
              try simp only [Act.put, List.setIfInBounds_toArray, List.set_cons_zero, List.set_cons_succ]
              refine' wpAnyH_take (i := 36) ?hic36 (by kernel_rfl) (by kernel_rfl) (by kernel_rfl) ?hQc36 ?hyc36 hHeld ?hc36
              case hic36 => (simp only [List.getElem?_toArray, List.getElem?_cons_succ, List.getElem?_cons_zero]; rfl)
              case hQc36 => exact fun _ _ _ h => h
              case hyc36 => (refine Or.inl ⟨by rfl, ?_⟩; intro w hSw; (try dsimp only at hSw); go_simp <;> with_reducible rfl)
              try simp only [Act.put, List.setIfInBounds_toArray, List.set_cons_zero, List.set_cons_succ]
              refine' wpAnyH_take (i := 37) ?hic37 (by kernel_rfl) (by kernel_rfl) (by kernel_rfl) ?hQc37 ?hyc37 hHeld ?hc37
              case hic37 => (simp only [List.getElem?_toArray, List.getElem?_cons_succ, List.getElem?_cons_zero]; rfl)
              case hQc37 => exact fun _ _ _ h => h
              case hyc37 => (refine Or.inl ⟨by rfl, ?_⟩; intro w hSw; (try dsimp only at hSw); go_simp <;> with_reducible rfl)
              try simp only [Act.put, List.setIfInBounds_toArray, List.set_cons_zero, List.set_cons_succ]
              refine' wpAnyH_take (i := 38) ?hic38 (by kernel_rfl) (by kernel_rfl) (by kernel_rfl) ?hQc38 ?hyc38 hHeld ?hc38
              case hic38 => (simp only [List.getElem?_toArray, List.getElem?_cons_succ, List.getElem?_cons_zero]; rfl)
              case hQc38 => exact fun _ _ _ h => h
              case hyc38 => (refine Or.inl ⟨by rfl, ?_⟩; intro w hSw; (try dsimp only at hSw); go_simp <;> with_reducible rfl)
              try simp only [Act.put, List.setIfInBounds_toArray, List.set_cons_zero, List.set_cons_succ]
              refine' wpAnyH_take (i := 39) ?hic39 (by kernel_rfl) (by kernel_rfl) (by kernel_rfl) ?hQc39 ?hyc39 hHeld ?hc39
              case hic39 => (simp only [List.getElem?_toArray, List.getElem?_cons_succ, List.getElem?_cons_zero]; rfl)
              case hQc39 => exact fun _ _ _ h => h
              case hyc39 => (refine Or.inl ⟨by rfl, ?_⟩; intro w hSw; (try dsimp only at hSw); go_simp <;> with_reducible rfl)
              try simp only [Act.put, List.setIfInBounds_toArray, List.set_cons_zero, List.set_cons_succ]
              refine' wpAnyH_take (i := 40) ?hic40 (by kernel_rfl) (by kernel_rfl) (by kernel_rfl) ?hQc40 ?hyc40 hHeld ?hc40
              case hic40 => (simp only [List.getElem?_toArray, List.getElem?_cons_succ, List.getElem?_cons_zero]; rfl)
              case hQc40 => exact fun _ _ _ h => h
              case hyc40 => (refine Or.inl ⟨by rfl, ?_⟩; intro w hSw; (try dsimp only at hSw); go_simp <;> with_reducible rfl)
              try simp only [Act.put, List.setIfInBounds_toArray, List.set_cons_zero, List.set_cons_succ]
              refine' wpAnyH_take (i := 41) ?hic41 (by kernel_rfl) (by kernel_rfl) (by kernel_rfl) ?hQc41 ?hyc41 hHeld ?hc41
              case hic41 => (simp only [List.getElem?_toArray, List.getElem?_cons_succ, List.getElem?_cons_zero]; rfl)
              case hQc41 => exact fun _ _ _ h => h
              case hyc41 => (refine Or.inl ⟨by rfl, ?_⟩; intro w hSw; (try dsimp only at hSw); go_simp <;> with_reducible rfl)
              try simp only [Act.put, List.setIfInBounds_toArray, List.set_cons_zero, List.set_cons_succ]
              refine' wpAnyH_take (i := 42) ?hic42 (by kernel_rfl) (by kernel_rfl) (by kernel_rfl) ?hQc42 ?hyc42 hHeld ?hc42
              case hic42 => (simp only [List.getElem?_toArray, List.getElem?_cons_succ, List.getElem?_cons_zero]; rfl)
              case hQc42 => exact fun _ _ _ h => h
              case hyc42 => (refine Or.inl ⟨by rfl, ?_⟩; intro w hSw; (try dsimp only at hSw); go_simp <;> with_reducible rfl)
              try simp only [Act.put, List.setIfInBounds_toArray, List.set_cons_zero, List.set_cons_succ]
              refine' wpAnyH_take (i := 43) ?hic43 (by kernel_rfl) (by kernel_rfl) (by kernel_rfl) ?hQc43 ?hyc43 hHeld ?hc43
              case hic43 => (simp only [List.getElem?_toArray, List.getElem?_cons_succ, List.getElem?_cons_zero]; rfl)
              case hQc43 => exact fun _ _ _ h => h
              case hyc43 => (refine Or.inl ⟨by rfl, ?_⟩; intro w hSw; (try dsimp only at hSw); go_simp <;> with_reducible rfl)
              try simp only [Act.put, List.setIfInBounds_toArray, List.set_cons_zero, List.set_cons_succ]
              refine' wpAnyH_take (i := 44) ?hic44 (by kernel_rfl) (by kernel_rfl) (by kernel_rfl) ?hQc44 ?hyc44 hHeld ?hc44
              case hic44 => (simp only [List.getElem?_toArray, List.getElem?_cons_succ, List.getElem?_cons_zero]; rfl)
              case hQc44 => exact fun _ _ _ h => h
              case hyc44 => (refine Or.inl ⟨by rfl, ?_⟩; intro w hSw; (try dsimp only at hSw); go_simp <;> with_reducible rfl)
              try simp only [Act.put, List.setIfInBounds_toArray, List.set_cons_zero, List.set_cons_succ]
              refine' wpAnyH_take (i := 45) ?hic45 (by kernel_rfl) (by kernel_rfl) (by kernel_rfl) ?hQc45 ?hyc45 hHeld ?hc45
              case hic45 => (simp only [List.getElem?_toArray, List.getElem?_cons_succ, List.getElem?_cons_zero]; rfl)
              case hQc45 => exact fun _ _ _ h => h
              case hyc45 => (refine Or.inl ⟨by rfl, ?_⟩; intro w hSw; (try dsimp only at hSw); go_simp <;> with_reducible rfl)
              try simp only [Act.put, List.setIfInBounds_toArray, List.set_cons_zero, List.set_cons_succ]
              refine' wpAnyH_take (i := 46) ?hic46 (by kernel_rfl) (by kernel_rfl) (by kernel_rfl) ?hQc46 ?hyc46 hHeld ?hc46
              case hic46 => (simp only [List.getElem?_toArray, List.getElem?_cons_succ, List.getElem?_cons_zero]; rfl)
              case hQc46 => exact fun _ _ _ h => h
              case hyc46 => exact Or.inr ⟨by rfl, rfl⟩
              try simp only [Act.put, List.setIfInBounds_toArray, List.set_cons_zero, List.set_cons_succ]
              refine' wpAnyH_take (i := 47) ?hic47 (by kernel_rfl) (by kernel_rfl) (by kernel_rfl) ?hQc47 ?hyc47 hHeld ?hc47
              case hic47 => (simp only [List.getElem?_toArray, List.getElem?_cons_succ, List.getElem?_cons_zero]; rfl)
              case hQc47 => exact fun _ _ _ h => h
              case hyc47 => exact Or.inr ⟨by rfl, rfl⟩
              try simp only [Act.put, List.setIfInBounds_toArray, List.set_cons_zero, List.set_cons_succ]
              refine' wpAnyH_take (i := 48) ?hic48 (by kernel_rfl) (by kernel_rfl) (by kernel_rfl) ?hQc48 ?hyc48 hHeld ?hc48
              case hic48 => (simp only [List.getElem?_toArray, List.getElem?_cons_succ, List.getElem?_cons_zero]; rfl)
              case hQc48 => exact fun _ _ _ h => h
              case hyc48 => exact Or.inr ⟨by rfl, rfl⟩
              try simp only [Act.put, List.setIfInBounds_toArray, List.set_cons_zero, List.set_cons_succ]
              refine' wpAnyH_take (i := 49) ?hic49 (by kernel_rfl) (by kernel_rfl) (by kernel_rfl) ?hQc49 ?hyc49 hHeld ?hc49
              case hic49 => (simp only [List.getElem?_toArray, List.getElem?_cons_succ, List.getElem?_cons_zero]; rfl)
              case hQc49 => exact fun _ _ _ h => h
              case hyc49 => exact Or.inr ⟨by rfl, rfl⟩
              try simp only [Act.put, List.setIfInBounds_toArray, List.set_cons_zero, List.set_cons_succ]
              refine' wpAnyH_take (i := 50) ?hic50 (by kernel_rfl) (by kernel_rfl) (by kernel_rfl) ?hQc50 ?hyc50 hHeld ?hc50
              case hic50 => (simp only [List.getElem?_toArray, List.getElem?_cons_succ, List.getElem?_cons_zero]; rfl)
              case hQc50 => exact fun _ _ _ h => h
              case hyc50 => exact Or.inr ⟨by rfl, rfl⟩
              try simp only [Act.put, List.setIfInBounds_toArray, List.set_cons_zero, List.set_cons_succ]
              refine' wpAnyH_take (i := 51) ?hic51 (by kernel_rfl) (by kernel_rfl) (by kernel_rfl) ?hQc51 ?hyc51 hHeld ?hc51
              case hic51 => (simp only [List.getElem?_toArray, List.getElem?_cons_succ, List.getElem?_cons_zero]; rfl)
              case hQc51 => exact fun _ _ _ h => h
              case hyc51 => (refine Or.inl ⟨by rfl, ?_⟩; intro w hSw; (try dsimp only at hSw); go_simp <;> with_reducible rfl)
              try simp only [Act.put, List.setIfInBounds_toArray, List.set_cons_zero, List.set_cons_succ]
              refine' wpAnyH_take (i := 52) ?hic52 (by kernel_rfl) (by kernel_rfl) (by kernel_rfl) ?hQc52 ?hyc52 hHeld ?hc52
              case hic52 => (simp only [List.getElem?_toArray, List.getElem?_cons_succ, List.getElem?_cons_zero]; rfl)
              case hQc52 => exact fun _ _ _ h => h
              case hyc52 => (refine Or.inl ⟨by rfl, ?_⟩; intro w hSw; (try dsimp only at hSw); go_simp <;> with_reducible rfl)
              try simp only [Act.put, List.setIfInBounds_toArray, List.set_cons_zero, List.set_cons_succ]
              refine wpAnyH_done (by kernel_rfl) ?_ _
              all_goals
                go_wp2_with fail
                go_meet
                first | exact ⟨rfl, E4⟩ | exact ⟨rfl, by (first | exact E4 | exact Ext.drew E4 | exact Ext.alloc E4 _ | exact Ext.alloc (Ext.drew E4) _ | exact Ext.drew (Ext.alloc E4 _) | exact Ext.alloc (Ext.alloc E4 _) _ | exact Ext.alloc (Ext.alloc (Ext.drew E4) _) _ | exact Ext.alloc (Ext.drew (Ext.alloc E4 _)) _ | exact Ext.drew (Ext.alloc (Ext.alloc E4 _) _))⟩ | exact ⟨rfl, by (first | exact E2 | exact Ext.drew E2 | exact Ext.alloc E2 _ | exact Ext.alloc (Ext.drew E2) _ | exact Ext.drew (Ext.alloc E2 _) | exact Ext.alloc (Ext.alloc E2 _) _ | exact Ext.alloc (Ext.alloc (Ext.drew E2) _) _ | exact Ext.alloc (Ext.drew (Ext.alloc E2 _)) _ | exact Ext.drew (Ext.alloc (Ext.alloc E2 _) _))⟩
            case rest =>
              obtain ⟨hv, xc⟩ := hcut
              subst hv
              have XC := Go.Lib.hid (X8.out.trans xc); have LC := Go.Lib.hid (L8.out.extN xc)
              clear xc E0
              go_wp2_with fail
              go_meet
              exact ⟨G, I7.out, LC.out, XC.out⟩
        · clear hqt
          by_cases hE : turnE g = 0
          · as_aux_lemma =>
            have hE' := hE
            unfold turnE at hE'
            have hf : fullB g = true := by cases hf : fullB g; (rw [hf] at hE'; simp at hE'); rfl
            have h60 : g.epoch < 60 := by
              rw [hf] at hE'
              have : ¬ g.epoch = 60 := by intro e; rw [e] at hE'; simp at hE'
              have := II.out.ep; omega
            have d60 : decide (g.epoch < 60) = true := decide_eq_true h60
            have hw1 : IntKind.i64.wrap (g.epoch + 1) = g.epoch + 1 := IntWalk.i64_in _ (by have := II.out.ep; omega)
            have HF := Go.Lib.hid hf; have HE := Go.Lib.hid hE
            have HL := Go.Lib.hid (show (turnL g).epoch = g.epoch + 1 ∧ (turnL g).mem = g.next by unfold turnL; rw [if_pos hE]; exact ⟨rfl, rfl⟩)
            have I7 := Go.Lib.hid (inv_turn II.out)
            clear hE hE' hf h60
            go_wp2_with fail
            refine (ledger_Full b m g II.out _ L5.out).mono ?_
            rintro e w6 ⟨rfl, n, rfl⟩
            rw [HF.out]
            have y6 : Ext Non w5 (w5.drewN n) := (Ext.refl _ _).drewN n
            have W6 := Go.Lib.hid (WS.out.extN y6)
            have r0 := W6.out.q0
            have L6 := Go.Lib.hid (L5.out.extN y6)
            clear y6
            go_wp2_with fail
            refine (ledger_Turn b m g II.out _ L6.out).mono ?_
            rintro e w7 ⟨rfl, x7, L7⟩
            rw [HE.out]
            have x7' : Ext (Two b m) (w5.drewN n) w7 := x7.mono (fun _ _ s => .inl s)
            have W7 := Go.Lib.hid (W6.out.ext x7' HNK.out L6.out.noInts)
            have X7 := Go.Lib.hid ((X5.out.drewN n).step x7' (fun i hi s => by rcases s with s | s <;> omega))
            have L7' := Go.Lib.hid L7
            clear r0 x7 x7' L7
            go_wp2_with fail
            refine (ledger_Conf b m (turnL g) I7.out _ L7'.out).mono ?_
            rintro e w8 ⟨a3, c3, rfl, x8, i3, f3⟩
            rw [HL.out.1, HL.out.2]
            rw [HL.out.2] at i3
            have AL : Ext Non w8 (w8.alloc (.cells #[.int .i64 (g.epoch + 1), .slice a3 g.next.length c3] 24)) := (Ext.refl _ _).alloc _
            have W8 := Go.Lib.hid (W7.out.extN (x8.trans AL))
            have I3 := Go.Lib.hid (i3.extN AL)
            have L8 := Go.Lib.hid ((L7'.out.extN x8).extN AL)
            have X8 := Go.Lib.hid ((X7.out.trans x8).trans AL)
            have r0 := W8.out.q0
            have s0 := cell_new w8 [.int .i64 (g.epoch + 1), .slice a3 g.next.length c3] 24 (k := 0) rfl
            have s1 := cell_new w8 [.int .i64 (g.epoch + 1), .slice a3 g.next.length c3] 24 (k := 1) rfl
            clear i3 f3 x8 AL
            go_wp2_with fail
            refine (ref_SameInts _ _ _ _ _ _ _ I3.out W8.out.i2).mono ?_
            rintro e w9 ⟨rfl, x9⟩
            rw [decide_eq_true (rfl : g.next = g.next)]
            go_wp2_with fail
            go_meet
            exact ⟨turnL g, I7.out, L8.out.extN x9, X8.out.trans x9⟩
          · have hL : turnL g = g := by unfold turnL; rw [if_neg hE]
            have te0 : (turnE g == 0) = false := by rw [beq_eq_false_iff_ne]; exact hE
            have hfull : fullB g = false ∨ g.epoch = 60 := by
              unfold turnE at hE
              cases hf : fullB g
              · exact .inl rfl
              · rw [hf] at hE
                right
                by_cases h60 : g.epoch = 60
                · exact h60
                · rw [if_neg h60] at hE; simp at hE
            have HL := Go.Lib.hid hL
            clear hL
            have hte : (fullB g = false ∧ turnE g = 18) ∨ (fullB g = true ∧ turnE g = 3 ∧ decide (g.epoch < 60) = false) := by
              unfold turnE at hE ⊢
              cases hf : fullB g
              · left; exact ⟨rfl, rfl⟩
              · right
                rw [hf] at hE
                by_cases h60 : g.epoch = 60
                · exact ⟨rfl, by rw [if_neg (by simp), if_pos h60], by rw [h60]; rfl⟩
                · rw [if_neg h60] at hE; simp at hE
            clear hE te0 hfull
            rcases hte with ⟨hf, hte⟩ | ⟨hf, hte, d60⟩
            all_goals as_aux_lemma =>
              have HE := Go.Lib.hid hte; clear hte
              have HF := Go.Lib.hid hf
              clear hf
              go_wp2_with fail
              refine (ledger_Full b m g II.out _ L5.out).mono ?_
              rintro e w6 ⟨rfl, n, rfl⟩
              rw [HF.out]
              have y6 : Ext Non w5 (w5.drewN n) := (Ext.refl _ _).drewN n
              have W6 := Go.Lib.hid (WS.out.extN y6)
              have r0 := W6.out.q0
              have L6 := Go.Lib.hid (L5.out.extN y6)
              clear y6
              go_wp2_with fail
              refine (ledger_Turn b m g II.out _ L6.out).mono ?_
              rintro e w7 ⟨rfl, x7, L7⟩
              rw [HE.out]
              rw [HL.out] at L7
              have x7' : Ext (Two b m) (w5.drewN n) w7 := x7.mono (fun _ _ s => .inl s)
              have W7 := Go.Lib.hid (W6.out.ext x7' HNK.out L6.out.noInts)
              have X7 := Go.Lib.hid ((X5.out.drewN n).step x7' (fun i hi s => by rcases s with s | s <;> omega))
              have L7' := Go.Lib.hid L7
              clear r0 x7 x7' L7
              go_wp2_with fail
              refine (ledger_Conf b m g II.out _ L7'.out).mono ?_
              rintro e w8 ⟨a3, c3, rfl, x8, i3, f3⟩
              have AL : Ext Non w8 (w8.alloc (.cells #[.int .i64 g.epoch, .slice a3 g.mem.length c3] 24)) := (Ext.refl _ _).alloc _
              have W8 := Go.Lib.hid (W7.out.extN (x8.trans AL))
              have I3 := Go.Lib.hid (i3.extN AL)
              have L8 := Go.Lib.hid ((L7'.out.extN x8).extN AL)
              have X8 := Go.Lib.hid ((X7.out.trans x8).trans AL)
              have r0 := W8.out.q0
              have r1 := W8.out.q1
              have s0 := cell_new w8 [.int .i64 g.epoch, .slice a3 g.mem.length c3] 24 (k := 0) rfl
              have s1 := cell_new w8 [.int .i64 g.epoch, .slice a3 g.mem.length c3] 24 (k := 1) rfl
              clear i3 f3 x8 AL
              go_wp2_with fail
              refine (ref_Same _ _ _ _ _ _ _ _ _ I3.out W8.out.i1).mono ?_
              rintro e w9 ⟨rfl, x9⟩
              rw [decide_eq_true (rfl : g.mem = g.mem), decide_eq_true (rfl : g.epoch = g.epoch)]
              go_wp2_with fail
              go_meet
              exact ⟨g, II.out, L8.out.extN x9, X8.out.trans x9⟩
      case rest =>
        as_aux_lemma =>
        obtain ⟨g', I', L', x'⟩ := hcut
        have hc1 : confB g'.epoch g'.mem = true := by unfold confB; have := I'.ep; rw [I'.mm]; simp; omega
        have hc2 : confB 0 g'.next = true := by unfold confB; rw [I'.mn]; rfl
        have C1 := Go.Lib.hid hc1; have C2 := Go.Lib.hid hc2; have IV := Go.Lib.hid I'; have LV := Go.Lib.hid L'; have XV := Go.Lib.hid x'
        clear hc1 hc2 I' L' x'
        go_wp2_with fail
        refine (ledger_Conf b m g' IV.out _ LV.out).mono ?_
        rintro e w8 ⟨a3, c3, rfl, x8, i3, f3⟩
        go_wp2_with fail
        refine (council_Right _ _ _ _ _ i3).mono ?_
        rintro e w9 ⟨rfl, x9⟩
        rw [C1.out]
        go_wp2_with fail
        refine (ledger_Next b m g' IV.out _ ((LV.out.extN x8).extN x9)).mono ?_
        rintro e w10 ⟨a4, c4, rfl, x10, i4, f4⟩
        go_wp2_with fail
        refine (council_Right _ _ _ _ _ i4).mono ?_
        rintro e w11 ⟨rfl, x11⟩
        rw [C2.out]
        have XF := ((XV.out.trans x8).trans x9).trans (x10.trans x11)
        have LF := ((LV.out.extN x8).extN x9).extN (x10.trans x11)
        have XF := Go.Lib.hid XF; have LF := Go.Lib.hid LF
        clear x8 x9 x10 x11 i3 i4 f3 f4
        go_wp2_with fail
        go_roundg (len - (i + 1))
        case measure => omega
        case rel => exact ⟨i + 1, g', hlt, rfl, by go_num, IV.out, LF.out, XF.out⟩
    · go_wp2
      go_returns
      exact ⟨rfl, XX.out⟩
set_option maxRecDepth 100000 in
theorem members_no (ep : Int) (a : Option Addr) (cap : Nat) (xs : List Int) (hn : confB ep xs = false ∨ ep ≠ 0) (v : Value) (w : World) (h : Ints w a cap xs) :
    Calls Try.prog 3 #[.agg #[.int .i64 ep, .slice a xs.length cap], v] w fun e w' => e = .returned (.bool true) ∧ Ext Non w w' := by
  have HH := Go.Lib.hid h
  have HN := Go.Lib.hid hn
  clear h hn
  go_enter Try.func3, Try.ntmps3
  go_wp2_with fail
  refine (law12_lives _).mono ?_
  rintro e w1 ⟨rfl, x1⟩
  have X1 := Go.Lib.hid (((Ext.refl Non w).alloc (.cells #[.int .i64 ep, .slice a xs.length cap] 24)).trans x1)
  have q0 : w1.cell? ⟨w.heap.size, 0, none⟩ = some (.int .i64 ep) := (x1.cell (p := ⟨w.heap.size, 0, none⟩) (by simp) id).trans (cell_new w [.int .i64 ep, .slice a xs.length cap] _ rfl)
  have q1 : w1.cell? ⟨w.heap.size, 1, none⟩ = some (.slice a xs.length cap) := (x1.cell (p := ⟨w.heap.size, 1, none⟩) (by simp) id).trans (cell_new w [.int .i64 ep, .slice a xs.length cap] _ rfl)
  clear x1
  go_wp2_with fail
  refine (ledger_New_no _ _ _ _ HN.out _ (HH.out.extN X1.out)).mono ?_
  rintro e w2 ⟨rfl, x2⟩
  go_wp2
  go_returns
  exact ⟨rfl, X1.out.trans x2⟩
theorem conf_cases (ep : Int) (xs : List Int) : (ep = 0 ∧ membersB xs = true) ∨ (confB ep xs = false ∨ ep ≠ 0) := by
  by_cases h0 : ep = 0
  · subst h0
    cases hm : membersB xs
    · right; left; unfold confB; rw [hm]; simp
    · left; exact ⟨rfl, rfl⟩
  · right; right; exact h0
set_option maxRecDepth 100000 in
open Go.ChangeShapes Go.WideShapes in
theorem law_LedgerMembers {H : Type} {enc : TypeId × Value → H} (W : World) {base : Nat} (v0 : Value) (d0 : DataW H) (p0 : List MemPlace) (v1 : Value) (d1 : DataW H) (p1 : List MemPlace)
    (h0 : DataW.Trod enc Try.prog W 0 (fun _ => true) true 24 v0 d0 p0) (ok0 : Value.okWide Try.prog W .any base 24 v0)
    (h1 : DataW.Trod enc Try.prog W 0 (fun _ => true) true 25 v1 d1 p1) (ok1 : Value.okWide Try.prog W .any base 25 v1) :
    Calls Try.prog 3 #[v0, v1] W fun e w' => e = .returned (.bool true) ∧ Below W.heap.size W w' := by
  obtain ⟨ep, a, cap, xs, rfl, _, hi, _⟩ := arg_conf ok0 h0
  obtain ⟨sa, len, scap, F, rfl, hl, hs⟩ := arg_ops ok1 h1
  rcases conf_cases ep xs with ⟨rfl, hm⟩ | hn
  · exact (members_ok a cap xs hm sa len scap F hl W hi hs).mono fun _ _ ⟨a, b⟩ => ⟨a, b.toBelow⟩
  · exact (members_no ep a cap xs hn _ W hi).mono fun _ _ ⟨a, b⟩ => ⟨a, b.toBelow⟩
end Go.Proofs.Ytfefeepljbfcdaa
