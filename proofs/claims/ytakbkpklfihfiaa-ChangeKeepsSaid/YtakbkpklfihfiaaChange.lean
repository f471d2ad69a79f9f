/- Contracts of layer 16 (change): what fits, and its text. -/
import Derived.Test.YtakbkpklfihfiaaProves2
import Derived.Test.YtakbkpklfihfiaaChangeP
namespace Go.Proofs.Ytakbkpklfihfiaa
open Go.RowKit Go.Lib F64
set_option linter.unusedSimpArgs false
set_option linter.unusedVariables false

/-- A request's fields are such as a machine holds. -/
structure ReqOk (r : Req) : Prop where
  c : I64 r.client
  s : I64 r.stamp
  k : I64 r.op.kind
  id : I64 r.op.id
  x : r.op.real < 18446744073709551616
  key : r.op.key.size ≤ 9223372036854775807
def Req.cells (r : Req) : List Value := [.int .i64 r.client, .int .i64 r.stamp, .int .i64 r.op.kind, .string r.op.key, .float .f64 r.op.real, .int .i64 r.op.id]
def Ct.cells (x : Ct) (a : Option Addr) (cap : Nat) : List Value := [.int .i64 x.view, .int .i64 x.slot, .int .i64 x.req.client, .int .i64 x.req.stamp, .int .i64 x.req.op.kind, .string x.req.op.key, .float .f64 x.req.op.real, .int .i64 x.req.op.id, .slice a x.sigs.length cap]
set_option maxHeartbeats 4000000 in
set_option maxRecDepth 100000 in
theorem change_fits (epoch behind view slot c s k : Int) (key : ByteArray) (x : Nat) (id : Int) (sa : Option Addr) (scap : Nat) (l : List Sg) (he : 0 ≤ epoch ∧ epoch ≤ 60) (hr : ReqOk ⟨c, s, ⟨k, key, x, id⟩⟩) (w : World) (hs : Sigs w sa scap l) :
    Calls Try.prog 59 #[.int .i64 epoch, .int .i64 behind, .agg #[.int .i64 view, .int .i64 slot, .int .i64 c, .int .i64 s, .int .i64 k, .string key, .float .f64 x, .int .i64 id, .slice sa l.length scap]] w fun e w' =>
    e = .returned (.bool (fitsB epoch behind ⟨view, slot, ⟨c, s, ⟨k, key, x, id⟩⟩, l⟩)) ∧ Ext Non w w' := by
  have HS := Go.Lib.hid hs; have HR := Go.Lib.hid hr; have HEp := Go.Lib.hid he
  have B0 := Go.Lib.hid (Bx.new w [.int .i64 view, .int .i64 slot, .int .i64 c, .int .i64 s, .int .i64 k, .string key, .float .f64 x, .int .i64 id, .slice sa l.length scap] 52)
  have X0 := Go.Lib.hid ((Ext.refl Non w).alloc (.cells #[.int .i64 view, .int .i64 slot, .int .i64 c, .int .i64 s, .int .i64 k, .string key, .float .f64 x, .int .i64 id, .slice sa l.length scap] 52))
  have hsm := hs.small; have hsl := hs.le
  have hw1 : IntKind.i64.wrap (epoch * 4) = epoch * 4 := IntWalk.i64_in _ (by omega)
  have hw2 : IntKind.i64.wrap (epoch * 4 + 1) = epoch * 4 + 1 := IntWalk.i64_in _ (by omega)
  have hw3 : IntKind.i64.wrap (epoch * 4 + 1 + 4) = epoch * 4 + 5 := by rw [show epoch * 4 + 1 + 4 = epoch * 4 + 5 by omega]; exact IntWalk.i64_in _ (by omega)
  have HF : Hid (fitsB epoch behind ⟨view, slot, ⟨c, s, ⟨k, key, x, id⟩⟩, l⟩ = ((decide (behind < slot) && (decide (epoch * 4 + 1 ≤ slot) && decide (slot < epoch * 4 + 5)) && decide (0 ≤ view) && decide (view ≤ 15) && decide (l.length ≤ 16)) && nodesB l && (rightB ⟨c, s, ⟨k, key, x, id⟩⟩ || nullB ⟨c, s, ⟨k, key, x, id⟩⟩))) := Go.Lib.hid rfl
  clear hs hr he
  by_cases h1 : behind < slot
  · by_cases h2 : epoch * 4 + 1 ≤ slot
    · by_cases h3 : slot < epoch * 4 + 5
      · by_cases h4 : 0 ≤ view
        · by_cases h5 : view ≤ 15
          · by_cases h6 : l.length ≤ 16
            · have HG := Go.Lib.hid (show fitsB epoch behind ⟨view, slot, ⟨c, s, ⟨k, key, x, id⟩⟩, l⟩ = (nodesB l && (rightB ⟨c, s, ⟨k, key, x, id⟩⟩ || nullB ⟨c, s, ⟨k, key, x, id⟩⟩)) by
                rw [HF.out, decide_eq_true h1, decide_eq_true h2, decide_eq_true h3, decide_eq_true h4, decide_eq_true h5, decide_eq_true h6]; rfl)
              have h6i : ((l.length : Nat) : Int) ≤ 16 := by omega
              go_enter Try.func59, Try.ntmps59
              go_wp2_with fail
              generalize w.alloc (.cells #[.int .i64 view, .int .i64 slot, .int .i64 c, .int .i64 s, .int .i64 k, .string key, .float .f64 x, .int .i64 id, .slice sa l.length scap] 52) = w1 at *
              go_loopw [49] (fun iv wr => ∃ (i : Nat), i ≤ l.length ∧ iv = .int .i64 i ∧ Ext Non w1 wr ∧ nodesB l = nodesB (l.drop i)) (fun iv _ => l.length - (intOf iv).toNat)
              case atStart => exact ⟨0, Nat.zero_le _, rfl, Ext.refl _ _, rfl⟩
              case round =>
                obtain ⟨i, hi, rfl, xr, hn⟩ := hrel
                have XX := Go.Lib.hid xr; have HN := Go.Lib.hid hn
                clear xr hn
                by_cases hlt : i < l.length
                · obtain ⟨sb, so, rfl, hsb, c0, c1, hI, hT⟩ := (HS.out.extN (X0.out.trans XX.out)).at_ i hlt
                  have HD := Go.Lib.hid (nodes_drop l i hlt)
                  generalize hsg : sgAt l i = sg at *
                  obtain ⟨by_, tx⟩ := sg
                  clear hsg
                  have XA := Go.Lib.hid ((Ext.refl Non wr).alloc (.cells #[.int .i64 by_, .string tx] 24))
                  by_cases g0 : 0 ≤ by_
                  · by_cases g1 : by_ < 200
                    · have HQ := Go.Lib.hid (show nodesB l = nodesB (l.drop (i + 1)) by rw [HN.out, HD.out, decide_eq_true g0, decide_eq_true g1]; rfl)
                      go_wp2_with fail
                      go_roundw
                      case rel => exact ⟨i + 1, hlt, by go_num, XX.out.trans XA.out, HQ.out⟩
                      case measure => simp [intOf]; omega
                    · have HQ := Go.Lib.hid (show nodesB l = false by rw [HN.out, HD.out, decide_eq_false g1]; simp)
                      go_wp2
                      go_ret
                      exact ⟨ret_bool (by rw [HG.out, HQ.out]; rfl), (X0.out.trans XX.out).trans XA.out⟩
                  · have HQ := Go.Lib.hid (show nodesB l = false by rw [HN.out, HD.out, decide_eq_false g0]; simp)
                    go_wp2
                    go_ret
                    exact ⟨ret_bool (by rw [HG.out, HQ.out]; rfl), (X0.out.trans XX.out).trans XA.out⟩
                · have HQ := Go.Lib.hid (show nodesB l = true by rw [HN.out, List.drop_eq_nil_of_le (by omega)]; rfl)
                  have BR := Go.Lib.hid (B0.out.extN XX.out)
                  obtain ⟨z2, z3, z4, z5, z6, z7⟩ : wr.cell? ⟨w.heap.size, 2, none⟩ = some (.int .i64 c) ∧ wr.cell? ⟨w.heap.size, 3, none⟩ = some (.int .i64 s) ∧ wr.cell? ⟨w.heap.size, 4, none⟩ = some (.int .i64 k) ∧ wr.cell? ⟨w.heap.size, 5, none⟩ = some (.string key) ∧ wr.cell? ⟨w.heap.size, 6, none⟩ = some (.float .f64 x) ∧ wr.cell? ⟨w.heap.size, 7, none⟩ = some (.int .i64 id) :=
                    ⟨BR.out.cell rfl, BR.out.cell rfl, BR.out.cell rfl, BR.out.cell rfl, BR.out.cell rfl, BR.out.cell rfl⟩
                  go_wp2_with fail
                  refine (deeds_Right _ _ _ _ _ _ _).mono ?_
                  rintro e w3 ⟨rfl, y3⟩
                  have BR3 := Go.Lib.hid (BR.out.extN y3)
                  have XZ := Go.Lib.hid ((X0.out.trans XX.out).trans y3)
                  clear z2 z3 z4 z5 z6 z7 y3
                  cases hrt : rightB ⟨c, s, ⟨k, key, x, id⟩⟩
                  · have HRt := Go.Lib.hid hrt; clear hrt
                    obtain ⟨z2, z3, z4, z5, z6, z7⟩ : w3.cell? ⟨w.heap.size, 2, none⟩ = some (.int .i64 c) ∧ w3.cell? ⟨w.heap.size, 3, none⟩ = some (.int .i64 s) ∧ w3.cell? ⟨w.heap.size, 4, none⟩ = some (.int .i64 k) ∧ w3.cell? ⟨w.heap.size, 5, none⟩ = some (.string key) ∧ w3.cell? ⟨w.heap.size, 6, none⟩ = some (.float .f64 x) ∧ w3.cell? ⟨w.heap.size, 7, none⟩ = some (.int .i64 id) :=
                      ⟨BR3.out.cell rfl, BR3.out.cell rfl, BR3.out.cell rfl, BR3.out.cell rfl, BR3.out.cell rfl, BR3.out.cell rfl⟩
                    go_wp2_with fail
                    refine (deeds_Null _ _ _ _ _ _ HR.out.c HR.out.s HR.out.k HR.out.id _).mono ?_
                    rintro e w4 ⟨rfl, y4⟩
                    go_wp2
                    go_ret
                    exact ⟨ret_bool (by rw [HG.out, HQ.out, HRt.out]; rfl), XZ.out.trans y4⟩
                  · have HRt := Go.Lib.hid hrt; clear hrt
                    go_wp2
                    go_ret
                    exact ⟨ret_bool (by rw [HG.out, HQ.out, HRt.out]; rfl), XZ.out⟩
            · have HG := Go.Lib.hid (show fitsB epoch behind ⟨view, slot, ⟨c, s, ⟨k, key, x, id⟩⟩, l⟩ = false by rw [HF.out, decide_eq_false h6]; simp)
              have h6i : (16 : Int) < ((l.length : Nat) : Int) := by omega
              go_enter Try.func59, Try.ntmps59
              go_wp2
              go_ret
              exact ⟨ret_bool HG.out.symm, X0.out⟩
          · have HG := Go.Lib.hid (show fitsB epoch behind ⟨view, slot, ⟨c, s, ⟨k, key, x, id⟩⟩, l⟩ = false by rw [HF.out, decide_eq_false h5]; simp)
            go_enter Try.func59, Try.ntmps59
            go_wp2
            go_ret
            exact ⟨ret_bool HG.out.symm, X0.out⟩
        · have HG := Go.Lib.hid (show fitsB epoch behind ⟨view, slot, ⟨c, s, ⟨k, key, x, id⟩⟩, l⟩ = false by rw [HF.out, decide_eq_false h4]; simp)
          go_enter Try.func59, Try.ntmps59
          go_wp2
          go_ret
          exact ⟨ret_bool HG.out.symm, X0.out⟩
      · have HG := Go.Lib.hid (show fitsB epoch behind ⟨view, slot, ⟨c, s, ⟨k, key, x, id⟩⟩, l⟩ = false by rw [HF.out, decide_eq_false h3]; simp)
        go_enter Try.func59, Try.ntmps59
        go_wp2
        go_ret
        exact ⟨ret_bool HG.out.symm, X0.out⟩
    · have HG := Go.Lib.hid (show fitsB epoch behind ⟨view, slot, ⟨c, s, ⟨k, key, x, id⟩⟩, l⟩ = false by rw [HF.out, decide_eq_false h2]; simp)
      go_enter Try.func59, Try.ntmps59
      go_wp2
      go_ret
      exact ⟨ret_bool HG.out.symm, X0.out⟩
  · have HG := Go.Lib.hid (show fitsB epoch behind ⟨view, slot, ⟨c, s, ⟨k, key, x, id⟩⟩, l⟩ = false by rw [HF.out, decide_eq_false h1]; simp)
    go_enter Try.func59, Try.ntmps59
    go_wp2
    go_ret
    exact ⟨ret_bool HG.out.symm, X0.out⟩
end Go.Proofs.Ytakbkpklfihfiaa
