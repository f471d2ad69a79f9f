/- Joined texts: Change, Change2, Ref13. What each proves stands at its head; no conditions beside those in its theorems. -/
import Derived.Test.YtakbkpklfihfiaaJoinE
import Derived.Test.YtakbkpklfihfiaaJoinA
/- Contracts of layer 16 (change): what fits, and its text. -/
namespace Go.Proofs.Ytakbkpklfihfiaa
open Go.RowKit Go.Lib F64
set_option linter.unusedSimpArgs false
set_option linter.unusedVariables false

/-- A request's fields are such as a machine holds. -/
structure ReqOk (r : Req) : Prop where
  c : I64 r.client
  s : I64 r.stamp
  k : I64 r.op.kind
  id : I64 r.op.id
  x : r.op.real < 18446744073709551616
  key : r.op.key.size ≤ 9223372036854775807
def Req.cells (r : Req) : List Value := [.int .i64 r.client, .int .i64 r.stamp, .int .i64 r.op.kind, .string r.op.key, .float .f64 r.op.real, .int .i64 r.op.id]
def Ct.cells (x : Ct) (a : Option Addr) (cap : Nat) : List Value := [.int .i64 x.view, .int .i64 x.slot, .int .i64 x.req.client, .int .i64 x.req.stamp, .int .i64 x.req.op.kind, .string x.req.op.key, .float .f64 x.req.op.real, .int .i64 x.req.op.id, .slice a x.sigs.length cap]
set_option maxHeartbeats 4000000 in
set_option maxRecDepth 100000 in
theorem change_fits (epoch behind view slot c s k : Int) (key : ByteArray) (x : Nat) (id : Int) (sa : Option Addr) (scap : Nat) (l : List Sg) (he : 0 ≤ epoch ∧ epoch ≤ 60) (hr : ReqOk ⟨c, s, ⟨k, key, x, id⟩⟩) (w : World) (hs : Sigs w sa scap l) :
    Calls Try.prog 59 #[.int .i64 epoch, .int .i64 behind, .agg #[.int .i64 view, .int .i64 slot, .int .i64 c, .int .i64 s, .int .i64 k, .string key, .float .f64 x, .int .i64 id, .slice sa l.length scap]] w fun e w' =>
    e = .returned (.bool (fitsB epoch behind ⟨view, slot, ⟨c, s, ⟨k, key, x, id⟩⟩, l⟩)) ∧ Ext Non w w' := by
  have HS := Go.Lib.hid hs; have HR := Go.Lib.hid hr; have HEp := Go.Lib.hid he
  have B0 := Go.Lib.hid (Bx.new w [.int .i64 view, .int .i64 slot, .int .i64 c, .int .i64 s, .int .i64 k, .string key, .float .f64 x, .int .i64 id, .slice sa l.length scap] 52)
  have X0 := Go.Lib.hid ((Ext.refl Non w).alloc (.cells #[.int .i64 view, .int .i64 slot, .int .i64 c, .int .i64 s, .int .i64 k, .string key, .float .f64 x, .int .i64 id, .slice sa l.length scap] 52))
  have hsm := hs.small; have hsl := hs.le
  have hw1 : IntKind.i64.wrap (epoch * 4) = epoch * 4 := IntWalk.i64_in _ (by omega)
  have hw2 : IntKind.i64.wrap (epoch * 4 + 1) = epoch * 4 + 1 := IntWalk.i64_in _ (by omega)
  have hw3 : IntKind.i64.wrap (epoch * 4 + 1 + 4) = epoch * 4 + 5 := by rw [show epoch * 4 + 1 + 4 = epoch * 4 + 5 by omega]; exact IntWalk.i64_in _ (by omega)
  have HF : Hid (fitsB epoch behind ⟨view, slot, ⟨c, s, ⟨k, key, x, id⟩⟩, l⟩ = ((decide (behind < slot) && (decide (epoch * 4 + 1 ≤ slot) && decide (slot < epoch * 4 + 5)) && decide (0 ≤ view) && decide (view ≤ 15) && decide (l.length ≤ 16)) && nodesB l && (rightB ⟨c, s, ⟨k, key, x, id⟩⟩ || nullB ⟨c, s, ⟨k, key, x, id⟩⟩))) := Go.Lib.hid rfl
  clear hs hr he
  by_cases h1 : behind < slot
  · by_cases h2 : epoch * 4 + 1 ≤ slot
    · by_cases h3 : slot < epoch * 4 + 5
      · by_cases h4 : 0 ≤ view
        · by_cases h5 : view ≤ 15
          · by_cases h6 : l.length ≤ 16
            · have HG := Go.Lib.hid (show fitsB epoch behind ⟨view, slot, ⟨c, s, ⟨k, key, x, id⟩⟩, l⟩ = (nodesB l && (rightB ⟨c, s, ⟨k, key, x, id⟩⟩ || nullB ⟨c, s, ⟨k, key, x, id⟩⟩)) by
                rw [HF.out, decide_eq_true h1, decide_eq_true h2, decide_eq_true h3, decide_eq_true h4, decide_eq_true h5, decide_eq_true h6]; rfl)
              have h6i : ((l.length : Nat) : Int) ≤ 16 := by omega
              go_enter Try.func59, Try.ntmps59
              go_wp2_with fail
              generalize w.alloc (.cells #[.int .i64 view, .int .i64 slot, .int .i64 c, .int .i64 s, .int .i64 k, .string key, .float .f64 x, .int .i64 id, .slice sa l.length scap] 52) = w1 at *
              go_loopw [49] (fun iv wr => ∃ (i : Nat), i ≤ l.length ∧ iv = .int .i64 i ∧ Ext Non w1 wr ∧ nodesB l = nodesB (l.drop i)) (fun iv _ => l.length - (intOf iv).toNat)
              case atStart => exact ⟨0, Nat.zero_le _, rfl, Ext.refl _ _, rfl⟩
              case round =>
                obtain ⟨i, hi, rfl, xr, hn⟩ := hrel
                have XX := Go.Lib.hid xr; have HN := Go.Lib.hid hn
                clear xr hn
                by_cases hlt : i < l.length
                · obtain ⟨sb, so, rfl, hsb, c0, c1, hI, hT⟩ := (HS.out.extN (X0.out.trans XX.out)).at_ i hlt
                  have HD := Go.Lib.hid (nodes_drop l i hlt)
                  generalize hsg : sgAt l i = sg at *
                  obtain ⟨by_, tx⟩ := sg
                  clear hsg
                  have XA := Go.Lib.hid ((Ext.refl Non wr).alloc (.cells #[.int .i64 by_, .string tx] 24))
                  by_cases g0 : 0 ≤ by_
                  · by_cases g1 : by_ < 200
                    · have HQ := Go.Lib.hid (show nodesB l = nodesB (l.drop (i + 1)) by rw [HN.out, HD.out, decide_eq_true g0, decide_eq_true g1]; rfl)
                      go_wp2_with fail
                      go_roundw
                      case rel => exact ⟨i + 1, hlt, by go_num, XX.out.trans XA.out, HQ.out⟩
                      case measure => simp [intOf]; omega
                    · have HQ := Go.Lib.hid (show nodesB l = false by rw [HN.out, HD.out, decide_eq_false g1]; simp)
                      go_wp2
                      go_ret
                      exact ⟨ret_bool (by rw [HG.out, HQ.out]; rfl), (X0.out.trans XX.out).trans XA.out⟩
                  · have HQ := Go.Lib.hid (show nodesB l = false by rw [HN.out, HD.out, decide_eq_false g0]; simp)
                    go_wp2
                    go_ret
                    exact ⟨ret_bool (by rw [HG.out, HQ.out]; rfl), (X0.out.trans XX.out).trans XA.out⟩
                · have HQ := Go.Lib.hid (show nodesB l = true by rw [HN.out, List.drop_eq_nil_of_le (by omega)]; rfl)
                  have BR := Go.Lib.hid (B0.out.extN XX.out)
                  obtain ⟨z2, z3, z4, z5, z6, z7⟩ : wr.cell? ⟨w.heap.size, 2, none⟩ = some (.int .i64 c) ∧ wr.cell? ⟨w.heap.size, 3, none⟩ = some (.int .i64 s) ∧ wr.cell? ⟨w.heap.size, 4, none⟩ = some (.int .i64 k) ∧ wr.cell? ⟨w.heap.size, 5, none⟩ = some (.string key) ∧ wr.cell? ⟨w.heap.size, 6, none⟩ = some (.float .f64 x) ∧ wr.cell? ⟨w.heap.size, 7, none⟩ = some (.int .i64 id) :=
                    ⟨BR.out.cell rfl, BR.out.cell rfl, BR.out.cell rfl, BR.out.cell rfl, BR.out.cell rfl, BR.out.cell rfl⟩
                  go_wp2_with fail
                  refine (deeds_Right _ _ _ _ _ _ _).mono ?_
                  rintro e w3 ⟨rfl, y3⟩
                  have BR3 := Go.Lib.hid (BR.out.extN y3)
                  have XZ := Go.Lib.hid ((X0.out.trans XX.out).trans y3)
                  clear z2 z3 z4 z5 z6 z7 y3
                  cases hrt : rightB ⟨c, s, ⟨k, key, x, id⟩⟩
                  · have HRt := Go.Lib.hid hrt; clear hrt
                    obtain ⟨z2, z3, z4, z5, z6, z7⟩ : w3.cell? ⟨w.heap.size, 2, none⟩ = some (.int .i64 c) ∧ w3.cell? ⟨w.heap.size, 3, none⟩ = some (.int .i64 s) ∧ w3.cell? ⟨w.heap.size, 4, none⟩ = some (.int .i64 k) ∧ w3.cell? ⟨w.heap.size, 5, none⟩ = some (.string key) ∧ w3.cell? ⟨w.heap.size, 6, none⟩ = some (.float .f64 x) ∧ w3.cell? ⟨w.heap.size, 7, none⟩ = some (.int .i64 id) :=
                      ⟨BR3.out.cell rfl, BR3.out.cell rfl, BR3.out.cell rfl, BR3.out.cell rfl, BR3.out.cell rfl, BR3.out.cell rfl⟩
                    go_wp2_with fail
                    refine (deeds_Null _ _ _ _ _ _ HR.out.c HR.out.s HR.out.k HR.out.id _).mono ?_
                    rintro e w4 ⟨rfl, y4⟩
                    go_wp2
                    go_ret
                    exact ⟨ret_bool (by rw [HG.out, HQ.out, HRt.out]; rfl), XZ.out.trans y4⟩
                  · have HRt := Go.Lib.hid hrt; clear hrt
                    go_wp2
                    go_ret
                    exact ⟨ret_bool (by rw [HG.out, HQ.out, HRt.out]; rfl), XZ.out⟩
            · have HG := Go.Lib.hid (show fitsB epoch behind ⟨view, slot, ⟨c, s, ⟨k, key, x, id⟩⟩, l⟩ = false by rw [HF.out, decide_eq_false h6]; simp)
              have h6i : (16 : Int) < ((l.length : Nat) : Int) := by omega
              go_enter Try.func59, Try.ntmps59
              go_wp2
              go_ret
              exact ⟨ret_bool HG.out.symm, X0.out⟩
          · have HG := Go.Lib.hid (show fitsB epoch behind ⟨view, slot, ⟨c, s, ⟨k, key, x, id⟩⟩, l⟩ = false by rw [HF.out, decide_eq_false h5]; simp)
            go_enter Try.func59, Try.ntmps59
            go_wp2
            go_ret
            exact ⟨ret_bool HG.out.symm, X0.out⟩
        · have HG := Go.Lib.hid (show fitsB epoch behind ⟨view, slot, ⟨c, s, ⟨k, key, x, id⟩⟩, l⟩ = false by rw [HF.out, decide_eq_false h4]; simp)
          go_enter Try.func59, Try.ntmps59
          go_wp2
          go_ret
          exact ⟨ret_bool HG.out.symm, X0.out⟩
      · have HG := Go.Lib.hid (show fitsB epoch behind ⟨view, slot, ⟨c, s, ⟨k, key, x, id⟩⟩, l⟩ = false by rw [HF.out, decide_eq_false h3]; simp)
        go_enter Try.func59, Try.ntmps59
        go_wp2
        go_ret
        exact ⟨ret_bool HG.out.symm, X0.out⟩
    · have HG := Go.Lib.hid (show fitsB epoch behind ⟨view, slot, ⟨c, s, ⟨k, key, x, id⟩⟩, l⟩ = false by rw [HF.out, decide_eq_false h2]; simp)
      go_enter Try.func59, Try.ntmps59
      go_wp2
      go_ret
      exact ⟨ret_bool HG.out.symm, X0.out⟩
  · have HG := Go.Lib.hid (show fitsB epoch behind ⟨view, slot, ⟨c, s, ⟨k, key, x, id⟩⟩, l⟩ = false by rw [HF.out, decide_eq_false h1]; simp)
    go_enter Try.func59, Try.ntmps59
    go_wp2
    go_ret
    exact ⟨ret_bool HG.out.symm, X0.out⟩
end Go.Proofs.Ytakbkpklfihfiaa

/- Contracts of layer 16 (change): the text that a change signs. -/
namespace Go.Proofs.Ytakbkpklfihfiaa
open Go.RowKit Go.Lib F64
set_option linter.unusedSimpArgs false
set_option linter.unusedVariables false

attribute [local go_sem] run_store_float
theorem PW.base_le {w : World} {n0 b : Nat} {W : Wr} (h : PW w n0 b W) : n0 ≤ w.heap.size := Nat.le_trans h.nb (Nat.le_of_lt h.lt)
theorem Bx.keep {w w' : World} {n0 b k : Nat} {vs : List Value} {t : TypeId} (a : Bx w k vs t) (x : Ext (WB n0 b w) w w') (hb : k ≠ b) (ht : t ≠ 5) : Bx w' k vs t := a.ext x (WB.other a.h hb ht)
/-- A row of certificates that can be read behind an address. -/
structure Certs (w : World) (a : Option Addr) (cap : Nat) (l : List Ct) : Prop where
  le : l.length ≤ cap
  small : cap ≤ 9223372036854775807
  at_ : ∀ j (h : j < l.length), ∃ b o sa scap, a = some ⟨b, o, none⟩ ∧ b < w.heap.size ∧ (∀ i v, ((ctAt l j).cells sa scap)[i]? = some v → w.cell? ⟨b, o + j * 9 + i, none⟩ = some v) ∧ Sigs w sa scap (ctAt l j).sigs ∧ ReqOk (ctAt l j).req ∧ I64 (ctAt l j).view ∧ I64 (ctAt l j).slot
theorem Certs.extN {w w' : World} {a : Option Addr} {cap : Nat} {l : List Ct} (h : Certs w a cap l) (x : Ext Non w w') : Certs w' a cap l :=
  ⟨h.le, h.small, fun j hj => by
    obtain ⟨b, o, sa, scap, e, hb, c, s, r⟩ := h.at_ j hj
    exact ⟨b, o, sa, scap, e, Nat.lt_of_lt_of_le hb x.size, fun i v hv => (x.cell (p := ⟨b, o + j * 9 + i, none⟩) hb (fun f => f)).trans (c i v hv), s.extN x, r⟩⟩
theorem reqS_list (r : Req) : (reqS r).data.toList = reqL r := by unfold reqS; simp
set_option maxHeartbeats 8000000 in
set_option maxRecDepth 100000 in
theorem change_Text (epoch from_ view by_ : Int) (text : ByteArray) (ca : Option Addr) (ccap : Nat) (certs : List Ct) (hie : I64 epoch) (hif : I64 from_) (hiv : I64 view) (w : World) (h : Certs w ca ccap certs) :
    Calls Try.prog 15 #[.int .i64 epoch, .agg #[.int .i64 from_, .int .i64 view, .slice ca certs.length ccap, .int .i64 by_, .string text]] w fun e w' =>
    e = .returned (.tuple #[.string (chS epoch ⟨from_, view, certs, by_, text⟩), .int .i64 (chE epoch ⟨from_, view, certs, by_, text⟩)]) ∧ Ext Non w w' := by
  have HH := Go.Lib.hid h
  have HI := Go.Lib.hid (And.intro hie (And.intro hif hiv))
  have hsm := h.small; have hsl := h.le
  have B0 := Go.Lib.hid (Bx.new w [.int .i64 from_, .int .i64 view, .slice ca certs.length ccap, .int .i64 by_, .string text] 26)
  have X0 := Go.Lib.hid ((Ext.refl Non w).alloc (.cells #[.int .i64 from_, .int .i64 view, .slice ca certs.length ccap, .int .i64 by_, .string text] 26))
  have HT : Hid (topB epoch ⟨from_, view, certs, by_, text⟩ = (decide (0 ≤ epoch) && decide (epoch ≤ 60) && decide (0 ≤ from_) && decide (from_ < 16) && decide (1 ≤ view) && decide (view ≤ 15) && decide (certs.length ≤ 4))) := Go.Lib.hid rfl
  have NO : Hid (topB epoch ⟨from_, view, certs, by_, text⟩ = false → chS epoch ⟨from_, view, certs, by_, text⟩ = ⟨#[]⟩ ∧ chE epoch ⟨from_, view, certs, by_, text⟩ = 1) := Go.Lib.hid (fun hf => by unfold chS chE mayB; rw [hf]; exact ⟨rfl, rfl⟩)
  clear h hie hif hiv
  by_cases h1 : 0 ≤ epoch
  · by_cases h2 : epoch ≤ 60
    · by_cases h3 : 0 ≤ from_
      · by_cases h4 : from_ < 16
        · by_cases h5 : 1 ≤ view
          · by_cases h6 : view ≤ 15
            · by_cases h7 : certs.length ≤ 4
              · have h7i : ((certs.length : Nat) : Int) ≤ 4 := by omega
                have TOP := Go.Lib.hid (show topB epoch ⟨from_, view, certs, by_, text⟩ = true by rw [HT.out, decide_eq_true h1, decide_eq_true h2, decide_eq_true h3, decide_eq_true h4, decide_eq_true h5, decide_eq_true h6, decide_eq_true h7]; rfl)
                have EB := Go.Lib.hid (And.intro h1 h2)
                go_enter Try.func15, Try.ntmps15
                go_wp2_with fail
                refine (pack_New 65535 (by decide) (w.alloc (.cells #[.int .i64 from_, .int .i64 view, .slice ca certs.length ccap, .int .i64 by_, .string text] 26)).heap.size _ (Nat.le_refl _)).mono ?_
                rintro e w1 ⟨b, rfl, x1, p1, hnb⟩
                have hn0 : w.heap.size < (w.alloc (.cells #[.int .i64 from_, .int .i64 view, .slice ca certs.length ccap, .int .i64 by_, .string text] 26)).heap.size := by simp
                generalize (w.alloc (.cells #[.int .i64 from_, .int .i64 view, .slice ca certs.length ccap, .int .i64 by_, .string text] 26)).heap.size = n0 at *
                have hwn : w.heap.size ≤ n0 := Nat.le_of_lt hn0
                have X3 := Go.Lib.hid (X0.out.trans x1); have BB := Go.Lib.hid (B0.out.extN x1); have PP := Go.Lib.hid p1
                clear x1 p1
                obtain ⟨q0, q1, q2⟩ : _ ∧ _ ∧ _ := ⟨BB.out.cell (j := 0) rfl, BB.out.cell (j := 1) rfl, BB.out.cell (j := 2) rfl⟩
                go_wp2_with fail
                refine (pack_Byte n0 b _ 86 (by unfold I64; omega) _ PP.out PP.out.base_le).mono ?_
                rintro e wx ⟨rfl, y⟩
                have BB' := Go.Lib.hid (BB.out.wrote y.x hnb hn0)
                have PP' := Go.Lib.hid y.p
                have XX := Go.Lib.hid (y.new X3.out hwn hnb)
                clear y q0 q1 q2 BB PP X3
                have BB := BB'; have PP := PP'; have X3 := XX
                clear BB' PP' XX
                obtain ⟨q0, q1, q2⟩ : _ ∧ _ ∧ _ := ⟨BB.out.cell (j := 0) rfl, BB.out.cell (j := 1) rfl, BB.out.cell (j := 2) rfl⟩
                go_wp2_with fail
                refine (pack_Word n0 b _ epoch HI.out.1 _ PP.out PP.out.base_le).mono ?_
                rintro e wx ⟨rfl, y⟩
                have BB' := Go.Lib.hid (BB.out.wrote y.x hnb hn0)
                have PP' := Go.Lib.hid y.p
                have XX := Go.Lib.hid (y.new X3.out hwn hnb)
                clear y q0 q1 q2 BB PP X3
                have BB := BB'; have PP := PP'; have X3 := XX
                clear BB' PP' XX
                obtain ⟨q0, q1, q2⟩ : _ ∧ _ ∧ _ := ⟨BB.out.cell (j := 0) rfl, BB.out.cell (j := 1) rfl, BB.out.cell (j := 2) rfl⟩
                go_wp2_with fail
                refine (pack_Byte n0 b _ from_ HI.out.2.1 _ PP.out PP.out.base_le).mono ?_
                rintro e wx ⟨rfl, y⟩
                have BB' := Go.Lib.hid (BB.out.wrote y.x hnb hn0)
                have PP' := Go.Lib.hid y.p
                have XX := Go.Lib.hid (y.new X3.out hwn hnb)
                clear y q0 q1 q2 BB PP X3
                have BB := BB'; have PP := PP'; have X3 := XX
                clear BB' PP' XX
                obtain ⟨q0, q1, q2⟩ : _ ∧ _ ∧ _ := ⟨BB.out.cell (j := 0) rfl, BB.out.cell (j := 1) rfl, BB.out.cell (j := 2) rfl⟩
                go_wp2_with fail
                refine (pack_Byte n0 b _ view HI.out.2.2 _ PP.out PP.out.base_le).mono ?_
                rintro e wx ⟨rfl, y⟩
                have BB' := Go.Lib.hid (BB.out.wrote y.x hnb hn0)
                have PP' := Go.Lib.hid y.p
                have XX := Go.Lib.hid (y.new X3.out hwn hnb)
                clear y q0 q1 q2 BB PP X3
                have BB := BB'; have PP := PP'; have X3 := XX
                clear BB' PP' XX
                obtain ⟨q0, q1, q2⟩ : _ ∧ _ ∧ _ := ⟨BB.out.cell (j := 0) rfl, BB.out.cell (j := 1) rfl, BB.out.cell (j := 2) rfl⟩
                go_wp2_with fail
                refine (pack_Byte n0 b _ certs.length (by unfold I64; omega) _ PP.out PP.out.base_le).mono ?_
                rintro e wx ⟨rfl, y⟩
                have BB' := Go.Lib.hid (BB.out.wrote y.x hnb hn0)
                have PP' := Go.Lib.hid y.p
                have XX := Go.Lib.hid (y.new X3.out hwn hnb)
                clear y q0 q1 q2 BB PP X3
                have BB := BB'; have PP := PP'; have X3 := XX
                clear BB' PP' XX
                have PP' : Hid (PW wx n0 b (wTop epoch ⟨from_, view, certs, by_, text⟩)) := Go.Lib.hid PP.out
                clear PP
                obtain ⟨q0, q1, q2⟩ : _ ∧ _ ∧ _ := ⟨BB.out.cell (j := 0) rfl, BB.out.cell (j := 1) rfl, BB.out.cell (j := 2) rfl⟩
                go_wp2_with fail
                clear q0 q1 q2
                generalize hW0 : wTop epoch ⟨from_, view, certs, by_, text⟩ = W0 at *
                have HW0 := Go.Lib.hid hW0; clear hW0
                go_loopw [7, 70] (fun lv iv wr => ∃ (i : Nat) (last : Int), i ≤ certs.length ∧ lv = .int .i64 last ∧ iv = .int .i64 i ∧ Ext Non w wr ∧ PW wr n0 b (wCerts W0 (certs.take i)) ∧ certsB epoch 0 certs = certsB epoch last (certs.drop i)) (fun _ iv _ => certs.length - (intOf iv).toNat)
                case atStart => exact ⟨0, 0, Nat.zero_le _, rfl, rfl, X3.out, PP'.out, rfl⟩
                case round =>
                  obtain ⟨i, last, hi, rfl, rfl, x, p, hch⟩ := hrel
                  have X4 := Go.Lib.hid x; have P4 := Go.Lib.hid p; have HC := Go.Lib.hid hch
                  clear x p hch X3 BB PP'
                  by_cases hlt : i < certs.length
                  · obtain ⟨cb, co, sa, scap, rfl, hcb, hcells', hsg, hro, hvi, hsi⟩ := HH.out.at_ i hlt
                    have hcells : ∀ i1 v, ((ctAt certs i).cells sa scap)[i1]? = some v → wr.cell? ⟨cb, co + i * 9 + i1, none⟩ = some v := fun i1 v hv => (X4.out.cell (p := ⟨cb, co + i * 9 + i1, none⟩) hcb (fun f => f)).trans (hcells' i1 v hv)
                    clear hcells'
                    have HD := Go.Lib.hid (certs_drop epoch certs last i hlt)
                    have HTk := Go.Lib.hid (wCerts_take W0 certs i hlt)
                    generalize hct : ctAt certs i = ct at *
                    obtain ⟨cv, cs, ⟨rc, rs, ⟨rk, rkey, rx, rid⟩⟩, sl⟩ := ct
                    clear hct
                    have z0 : wr.cell? ⟨cb, co + i * 9, none⟩ = some (.int .i64 cv) := hcells 0 _ rfl
                    have z1 : wr.cell? ⟨cb, co + i * 9 + 1, none⟩ = some (.int .i64 cs) := hcells 1 _ rfl
                    have z2 : wr.cell? ⟨cb, co + i * 9 + 2, none⟩ = some (.int .i64 rc) := hcells 2 _ rfl
                    have z3 : wr.cell? ⟨cb, co + i * 9 + 3, none⟩ = some (.int .i64 rs) := hcells 3 _ rfl
                    have z4 : wr.cell? ⟨cb, co + i * 9 + 4, none⟩ = some (.int .i64 rk) := hcells 4 _ rfl
                    have z5 : wr.cell? ⟨cb, co + i * 9 + 5, none⟩ = some (.string rkey) := hcells 5 _ rfl
                    have z6 : wr.cell? ⟨cb, co + i * 9 + 6, none⟩ = some (.float .f64 rx) := hcells 6 _ rfl
                    have z7 : wr.cell? ⟨cb, co + i * 9 + 7, none⟩ = some (.int .i64 rid) := hcells 7 _ rfl
                    have z8 : wr.cell? ⟨cb, co + i * 9 + 8, none⟩ = some (.slice sa sl.length scap) := hcells 8 _ rfl
                    have HSg := Go.Lib.hid hsg; have HRo : Hid (ReqOk ⟨rc, rs, ⟨rk, rkey, rx, rid⟩⟩) := Go.Lib.hid hro; have HVS : Hid (I64 cv ∧ I64 cs) := Go.Lib.hid (And.intro hvi hsi)
                    have hsgm := hsg.small; have hsgl := hsg.le
                    clear hcells hsg hro hvi hsi
                    have hkb : wr.heap.size ≠ b := by have := P4.out.lt; omega
                    have BX := Go.Lib.hid (Bx.new wr [.int .i64 cv, .int .i64 cs, .int .i64 rc, .int .i64 rs, .int .i64 rk, .string rkey, .float .f64 rx, .int .i64 rid, .slice sa sl.length scap] 52)
                    have XA := Go.Lib.hid ((Ext.refl Non wr).alloc (.cells #[.int .i64 cv, .int .i64 cs, .int .i64 rc, .int .i64 rs, .int .i64 rk, .string rkey, .float .f64 rx, .int .i64 rid, .slice sa sl.length scap] 52))
                    have PP := Go.Lib.hid (P4.out.extN XA.out)
                    have X3 := Go.Lib.hid (X4.out.trans XA.out)
                    go_upto_region 13 with fail
                    clear z0 z1 z2 z3 z4 z5 z6 z7 z8
                    generalize wr.alloc (.cells #[.int .i64 cv, .int .i64 cs, .int .i64 rc, .int .i64 rs, .int .i64 rk, .string rkey, .float .f64 rx, .int .i64 rid, .slice sa sl.length scap] 52) = wA at *
                    generalize wr.heap.size = kx at *
                    obtain ⟨q0, q1, q2, q3, q4, q5, q6, q7, q8⟩ : wA.cell? ⟨kx, 0, none⟩ = some (.int .i64 cv) ∧ wA.cell? ⟨kx, 1, none⟩ = some (.int .i64 cs) ∧ wA.cell? ⟨kx, 2, none⟩ = some (.int .i64 rc) ∧ wA.cell? ⟨kx, 3, none⟩ = some (.int .i64 rs) ∧ wA.cell? ⟨kx, 4, none⟩ = some (.int .i64 rk) ∧ wA.cell? ⟨kx, 5, none⟩ = some (.string rkey) ∧ wA.cell? ⟨kx, 6, none⟩ = some (.float .f64 rx) ∧ wA.cell? ⟨kx, 7, none⟩ = some (.int .i64 rid) ∧ wA.cell? ⟨kx, 8, none⟩ = some (.slice sa sl.length scap) := ⟨BX.out.cell rfl, BX.out.cell rfl, BX.out.cell rfl, BX.out.cell rfl, BX.out.cell rfl, BX.out.cell rfl, BX.out.cell rfl, BX.out.cell rfl, BX.out.cell rfl⟩
                    go_wp2_with fail
                    refine (change_fits epoch last cv cs rc rs rk rkey rx rid sa scap sl EB.out HRo.out _ (HSg.out.extN X3.out)).mono ?_
                    rintro e wB ⟨rfl, xB⟩
                    clear q0 q1 q2 q3 q4 q5 q6 q7 q8
                    have BX' := Go.Lib.hid (BX.out.extN xB); have PP' := Go.Lib.hid (PP.out.extN xB); have XX := Go.Lib.hid (X3.out.trans xB)
                    clear xB BX PP X3 XA X4 P4
                    have BX := BX'; have PP := PP'; have X3 := XX
                    clear BX' PP' XX
                    cases hfit : fitsB epoch last ⟨cv, cs, ⟨rc, rs, ⟨rk, rkey, rx, rid⟩⟩, sl⟩
                    · as_aux_lemma =>
                      have HF := Go.Lib.hid (show chS epoch ⟨from_, view, certs, by_, text⟩ = ⟨#[]⟩ ∧ chE epoch ⟨from_, view, certs, by_, text⟩ = 1 by
                        have : mayB epoch ⟨from_, view, certs, by_, text⟩ = false := by
                          unfold mayB
                          rw [show certsB epoch 0 (⟨from_, view, certs, by_, text⟩ : Ch).certs = certsB epoch 0 certs from rfl, HC.out, HD.out, hfit]; simp
                        unfold chS chE; rw [this]; exact ⟨rfl, rfl⟩)
                      clear hfit
                      go_wp2
                      go_returns
                      exact ⟨by rw [HF.out.1, HF.out.2]; rfl, X3.out⟩
                    · have HFit := Go.Lib.hid hfit; clear hfit
                      obtain ⟨q0, q1, q2, q3, q4, q5, q6, q7, q8⟩ : wB.cell? ⟨kx, 0, none⟩ = some (.int .i64 cv) ∧ wB.cell? ⟨kx, 1, none⟩ = some (.int .i64 cs) ∧ wB.cell? ⟨kx, 2, none⟩ = some (.int .i64 rc) ∧ wB.cell? ⟨kx, 3, none⟩ = some (.int .i64 rs) ∧ wB.cell? ⟨kx, 4, none⟩ = some (.int .i64 rk) ∧ wB.cell? ⟨kx, 5, none⟩ = some (.string rkey) ∧ wB.cell? ⟨kx, 6, none⟩ = some (.float .f64 rx) ∧ wB.cell? ⟨kx, 7, none⟩ = some (.int .i64 rid) ∧ wB.cell? ⟨kx, 8, none⟩ = some (.slice sa sl.length scap) := ⟨BX.out.cell rfl, BX.out.cell rfl, BX.out.cell rfl, BX.out.cell rfl, BX.out.cell rfl, BX.out.cell rfl, BX.out.cell rfl, BX.out.cell rfl, BX.out.cell rfl⟩
                      go_wp2_with fail
                      refine (pack_Byte n0 b _ cv HVS.out.1 _ PP.out PP.out.base_le).mono ?_
                      rintro e wC ⟨rfl, y⟩
                      have BX' := Go.Lib.hid (BX.out.keep y.x hkb (by decide))
                      have PP' := Go.Lib.hid y.p
                      have XX := Go.Lib.hid (y.new X3.out hwn hnb)
                      clear y BX PP X3
                      clear q0 q1 q2 q3 q4 q5 q6 q7 q8
                      have BX := BX'; have PP := PP'; have X3 := XX
                      clear BX' PP' XX
                      obtain ⟨q0, q1, q2, q3, q4, q5, q6, q7, q8⟩ : wC.cell? ⟨kx, 0, none⟩ = some (.int .i64 cv) ∧ wC.cell? ⟨kx, 1, none⟩ = some (.int .i64 cs) ∧ wC.cell? ⟨kx, 2, none⟩ = some (.int .i64 rc) ∧ wC.cell? ⟨kx, 3, none⟩ = some (.int .i64 rs) ∧ wC.cell? ⟨kx, 4, none⟩ = some (.int .i64 rk) ∧ wC.cell? ⟨kx, 5, none⟩ = some (.string rkey) ∧ wC.cell? ⟨kx, 6, none⟩ = some (.float .f64 rx) ∧ wC.cell? ⟨kx, 7, none⟩ = some (.int .i64 rid) ∧ wC.cell? ⟨kx, 8, none⟩ = some (.slice sa sl.length scap) := ⟨BX.out.cell rfl, BX.out.cell rfl, BX.out.cell rfl, BX.out.cell rfl, BX.out.cell rfl, BX.out.cell rfl, BX.out.cell rfl, BX.out.cell rfl, BX.out.cell rfl⟩
                      go_wp2_with fail
                      refine (pack_Word n0 b _ cs HVS.out.2 _ PP.out PP.out.base_le).mono ?_
                      rintro e wD ⟨rfl, y⟩
                      have BX' := Go.Lib.hid (BX.out.keep y.x hkb (by decide))
                      have PP' := Go.Lib.hid y.p
                      have XX := Go.Lib.hid (y.new X3.out hwn hnb)
                      clear y BX PP X3
                      clear q0 q1 q2 q3 q4 q5 q6 q7 q8
                      have BX := BX'; have PP := PP'; have X3 := XX
                      clear BX' PP' XX
                      obtain ⟨q0, q1, q2, q3, q4, q5, q6, q7, q8⟩ : wD.cell? ⟨kx, 0, none⟩ = some (.int .i64 cv) ∧ wD.cell? ⟨kx, 1, none⟩ = some (.int .i64 cs) ∧ wD.cell? ⟨kx, 2, none⟩ = some (.int .i64 rc) ∧ wD.cell? ⟨kx, 3, none⟩ = some (.int .i64 rs) ∧ wD.cell? ⟨kx, 4, none⟩ = some (.int .i64 rk) ∧ wD.cell? ⟨kx, 5, none⟩ = some (.string rkey) ∧ wD.cell? ⟨kx, 6, none⟩ = some (.float .f64 rx) ∧ wD.cell? ⟨kx, 7, none⟩ = some (.int .i64 rid) ∧ wD.cell? ⟨kx, 8, none⟩ = some (.slice sa sl.length scap) := ⟨BX.out.cell rfl, BX.out.cell rfl, BX.out.cell rfl, BX.out.cell rfl, BX.out.cell rfl, BX.out.cell rfl, BX.out.cell rfl, BX.out.cell rfl, BX.out.cell rfl⟩
                      go_wp2_with fail
                      refine (deeds_Text rc rs rk rkey rx rid HRo.out.c HRo.out.s HRo.out.k HRo.out.id HRo.out.x HRo.out.key _).mono ?_
                      rintro e wE ⟨rfl, xE⟩
                      clear q0 q1 q2 q3 q4 q5 q6 q7 q8
                      have BX' := Go.Lib.hid (BX.out.extN xE); have PP' := Go.Lib.hid (PP.out.extN xE); have XX := Go.Lib.hid (X3.out.trans xE)
                      clear xE BX PP X3
                      have BX := BX'; have PP := PP'; have X3 := XX
                      clear BX' PP' XX
                      have HRS := Go.Lib.hid (reqS_list ⟨rc, rs, ⟨rk, rkey, rx, rid⟩⟩); have HRZ := Go.Lib.hid (reqS_size ⟨rc, rs, ⟨rk, rkey, rx, rid⟩⟩)
                      generalize reqE ⟨rc, rs, ⟨rk, rkey, rx, rid⟩⟩ = re at *
                      generalize hrs : reqS ⟨rc, rs, ⟨rk, rkey, rx, rid⟩⟩ = rst at *
                      clear hrs
                      obtain ⟨q0, q1, q2, q3, q4, q5, q6, q7, q8⟩ : wE.cell? ⟨kx, 0, none⟩ = some (.int .i64 cv) ∧ wE.cell? ⟨kx, 1, none⟩ = some (.int .i64 cs) ∧ wE.cell? ⟨kx, 2, none⟩ = some (.int .i64 rc) ∧ wE.cell? ⟨kx, 3, none⟩ = some (.int .i64 rs) ∧ wE.cell? ⟨kx, 4, none⟩ = some (.int .i64 rk) ∧ wE.cell? ⟨kx, 5, none⟩ = some (.string rkey) ∧ wE.cell? ⟨kx, 6, none⟩ = some (.float .f64 rx) ∧ wE.cell? ⟨kx, 7, none⟩ = some (.int .i64 rid) ∧ wE.cell? ⟨kx, 8, none⟩ = some (.slice sa sl.length scap) := ⟨BX.out.cell rfl, BX.out.cell rfl, BX.out.cell rfl, BX.out.cell rfl, BX.out.cell rfl, BX.out.cell rfl, BX.out.cell rfl, BX.out.cell rfl, BX.out.cell rfl⟩
                      go_wp2_with fail
                      refine (pack_Text n0 b _ rst (by have := HRZ.out; omega) _ PP.out PP.out.base_le).mono ?_
                      rintro e wF ⟨rfl, y⟩
                      have BX' := Go.Lib.hid (BX.out.keep y.x hkb (by decide))
                      have PP' := Go.Lib.hid y.p
                      have XX := Go.Lib.hid (y.new X3.out hwn hnb)
                      clear y BX PP X3
                      clear q0 q1 q2 q3 q4 q5 q6 q7 q8
                      have BX := BX'; have PP := PP'; have X3 := XX
                      clear BX' PP' XX
                      obtain ⟨q0, q1, q2, q3, q4, q5, q6, q7, q8⟩ : wF.cell? ⟨kx, 0, none⟩ = some (.int .i64 cv) ∧ wF.cell? ⟨kx, 1, none⟩ = some (.int .i64 cs) ∧ wF.cell? ⟨kx, 2, none⟩ = some (.int .i64 rc) ∧ wF.cell? ⟨kx, 3, none⟩ = some (.int .i64 rs) ∧ wF.cell? ⟨kx, 4, none⟩ = some (.int .i64 rk) ∧ wF.cell? ⟨kx, 5, none⟩ = some (.string rkey) ∧ wF.cell? ⟨kx, 6, none⟩ = some (.float .f64 rx) ∧ wF.cell? ⟨kx, 7, none⟩ = some (.int .i64 rid) ∧ wF.cell? ⟨kx, 8, none⟩ = some (.slice sa sl.length scap) := ⟨BX.out.cell rfl, BX.out.cell rfl, BX.out.cell rfl, BX.out.cell rfl, BX.out.cell rfl, BX.out.cell rfl, BX.out.cell rfl, BX.out.cell rfl, BX.out.cell rfl⟩
                      go_wp2_with fail
                      refine (pack_Byte n0 b _ sl.length (by unfold I64; omega) _ PP.out PP.out.base_le).mono ?_
                      rintro e wG ⟨rfl, y⟩
                      have BX' := Go.Lib.hid (BX.out.keep y.x hkb (by decide))
                      have PP' := Go.Lib.hid y.p
                      have XX := Go.Lib.hid (y.new X3.out hwn hnb)
                      clear y BX PP X3
                      clear q0 q1 q2 q3 q4 q5 q6 q7 q8
                      have BX := BX'; have PP := PP'; have X3 := XX
                      clear BX' PP' XX
                      obtain ⟨q0, q1, q2, q3, q4, q5, q6, q7, q8⟩ : wG.cell? ⟨kx, 0, none⟩ = some (.int .i64 cv) ∧ wG.cell? ⟨kx, 1, none⟩ = some (.int .i64 cs) ∧ wG.cell? ⟨kx, 2, none⟩ = some (.int .i64 rc) ∧ wG.cell? ⟨kx, 3, none⟩ = some (.int .i64 rs) ∧ wG.cell? ⟨kx, 4, none⟩ = some (.int .i64 rk) ∧ wG.cell? ⟨kx, 5, none⟩ = some (.string rkey) ∧ wG.cell? ⟨kx, 6, none⟩ = some (.float .f64 rx) ∧ wG.cell? ⟨kx, 7, none⟩ = some (.int .i64 rid) ∧ wG.cell? ⟨kx, 8, none⟩ = some (.slice sa sl.length scap) := ⟨BX.out.cell rfl, BX.out.cell rfl, BX.out.cell rfl, BX.out.cell rfl, BX.out.cell rfl, BX.out.cell rfl, BX.out.cell rfl, BX.out.cell rfl, BX.out.cell rfl⟩
                      rw [HRS.out] at PP
                      go_wp2_with fail
                      clear q0 q1 q2 q3 q4 q5 q6 q7 q8
                      generalize hW5 : byteW (textW (wordW (byteW (wCerts W0 (certs.take i)) cv) cs) (reqL ⟨rc, rs, ⟨rk, rkey, rx, rid⟩⟩)) sl.length = W5 at *
                      have HW5 := Go.Lib.hid hW5; clear hW5
                      go_loopw [106] (fun iv wr => ∃ (j : Nat), j ≤ sl.length ∧ iv = .int .i64 j ∧ Ext Non w wr ∧ PW wr n0 b (wSigs W5 (sl.take j))) (fun iv _ => sl.length - (intOf iv).toNat)
                      case atStart => exact ⟨0, Nat.zero_le _, rfl, X3.out, PP.out⟩
                      case round =>
                        obtain ⟨j, hj, rfl, x, p⟩ := hrel
                        have X4 := Go.Lib.hid x; have P4 := Go.Lib.hid p
                        clear x p X3 PP BX
                        by_cases hjl : j < sl.length
                        · obtain ⟨sb, so, rfl, hsb, c0, c1, hI, hT⟩ := (HSg.out.extN X4.out).at_ j hjl
                          have HTj := Go.Lib.hid (wSigs_take W5 sl j hjl)
                          generalize hsgj : sgAt sl j = sg at *
                          obtain ⟨by2, tx⟩ := sg
                          clear hsgj
                          have HIT : Hid (I64 by2 ∧ tx.size ≤ 9223372036854775807) := Go.Lib.hid ⟨hI, hT⟩
                          have d0 : wr.cell? ⟨sb, so + j * 2, none⟩ = some (.int .i64 by2) := c0
                          have d1 : wr.cell? ⟨sb, so + j * 2 + 1, none⟩ = some (.string tx) := c1
                          clear c0 c1 hI hT
                          have hkb2 : wr.heap.size ≠ b := by have := P4.out.lt; omega
                          have BS := Go.Lib.hid (Bx.new wr [.int .i64 by2, .string tx] 24)
                          have XA := Go.Lib.hid ((Ext.refl Non wr).alloc (.cells #[.int .i64 by2, .string tx] 24))
                          have PP := Go.Lib.hid (P4.out.extN XA.out)
                          have X3 := Go.Lib.hid (X4.out.trans XA.out)
                          go_upto_region 24 with fail
                          clear d0 d1
                          generalize wr.alloc (.cells #[.int .i64 by2, .string tx] 24) = wA2 at *
                          generalize wr.heap.size = ks at *
                          have q0 : wA2.cell? ⟨ks, 0, none⟩ = some (.int .i64 by2) := BS.out.cell rfl
                          go_wp2_with fail
                          refine (pack_Byte n0 b _ by2 HIT.out.1 _ PP.out PP.out.base_le).mono ?_
                          rintro e wB2 ⟨rfl, y⟩
                          have BS' := Go.Lib.hid (BS.out.keep y.x hkb2 (by decide))
                          have PP' := Go.Lib.hid y.p
                          have XX := Go.Lib.hid (y.new X3.out hwn hnb)
                          clear y BS PP X3 q0
                          have q1 : wB2.cell? ⟨ks, 1, none⟩ = some (.string tx) := BS'.out.cell rfl
                          go_wp2_with fail
                          refine (pack_Text n0 b _ tx HIT.out.2 _ PP'.out PP'.out.base_le).mono ?_
                          rintro e wC2 ⟨rfl, y⟩
                          have PZ : Hid (PW wC2 n0 b (wSigs W5 (sl.take (j + 1)))) := Go.Lib.hid (by rw [HTj.out]; exact y.p)
                          have XZ := Go.Lib.hid (y.new XX.out hwn hnb)
                          clear y q1
                          go_wp2_with fail
                          go_roundw
                          case rel => exact ⟨j + 1, hjl, by go_num, XZ.out, PZ.out⟩
                          case measure => simp [intOf]; omega
                        · have PZ : Hid (PW wr n0 b (wCerts W0 (certs.take (i + 1)))) := Go.Lib.hid (by
                            have := P4.out
                            rw [List.take_of_length_le (by omega : sl.length ≤ j)] at this
                            rw [HTk.out, show wCert (wCerts W0 (certs.take i)) ⟨cv, cs, ⟨rc, rs, ⟨rk, rkey, rx, rid⟩⟩, sl⟩ = wSigs (byteW (textW (wordW (byteW (wCerts W0 (certs.take i)) cv) cs) (reqL ⟨rc, rs, ⟨rk, rkey, rx, rid⟩⟩)) sl.length) sl from rfl, HW5.out]
                            exact this)
                          have HCz := Go.Lib.hid (show certsB epoch 0 certs = certsB epoch cs (certs.drop (i + 1)) by rw [HC.out, HD.out, HFit.out]; rfl)
                          go_wp2_with fail
                          go_roundw
                          case rel => exact ⟨i + 1, cs, hlt, rfl, by go_num, X4.out, PZ.out, HCz.out⟩
                          case measure => simp [intOf]; omega
                  · have HM := Go.Lib.hid (show mayB epoch ⟨from_, view, certs, by_, text⟩ = true by
                      unfold mayB
                      rw [TOP.out, show certsB epoch 0 (⟨from_, view, certs, by_, text⟩ : Ch).certs = certsB epoch 0 certs from rfl, HC.out, List.drop_eq_nil_of_le (by omega)]; rfl)
                    have PZ : Hid (PW wr n0 b (chW epoch ⟨from_, view, certs, by_, text⟩)) := Go.Lib.hid (by
                      have := P4.out
                      rw [List.take_of_length_le (by omega : certs.length ≤ i), ← HW0.out] at this
                      exact this)
                    go_wp2_with fail
                    refine (pack_Done _ _ _ _ PZ.out).mono ?_
                    rintro e wz ⟨rfl, xz⟩
                    have XZ := Go.Lib.hid (X4.out.trans xz)
                    have HS2 : Hid (chS epoch ⟨from_, view, certs, by_, text⟩ = doneS (chW epoch ⟨from_, view, certs, by_, text⟩) ∧ chE epoch ⟨from_, view, certs, by_, text⟩ = if (chW epoch ⟨from_, view, certs, by_, text⟩).err = 0 then 0 else 3) := Go.Lib.hid (by unfold chS chE; rw [HM.out]; exact ⟨rfl, rfl⟩)
                    have HDn : Hid ((chW epoch ⟨from_, view, certs, by_, text⟩).err ≠ 0 → doneS (chW epoch ⟨from_, view, certs, by_, text⟩) = ⟨#[]⟩) := Go.Lib.hid (fun h => by unfold doneS; rw [if_neg h])
                    clear xz
                    generalize chW epoch ⟨from_, view, certs, by_, text⟩ = WW at *
                    by_cases he : WW.err = 0
                    · have HE := Go.Lib.hid he
                      rw [he]
                      generalize doneS WW = ds at *
                      clear he
                      go_wp2
                      go_returns
                      exact ⟨by rw [HS2.out.1, HS2.out.2, HE.out]; rfl, XZ.out⟩
                    · have HE := Go.Lib.hid he
                      have hbe : (WW.err != 0) = true := by rw [bne_iff_ne]; exact he
                      have HZ := Go.Lib.hid (HDn.out he)
                      generalize hds : doneS WW = ds at *
                      generalize hee : WW.err = ee at *
                      clear he hds hee
                      go_wp2
                      go_returns
                      exact ⟨by rw [HS2.out.1, HS2.out.2, if_neg HE.out, HZ.out]; rfl, XZ.out⟩
              · have HX := Go.Lib.hid (NO.out (by rw [HT.out, decide_eq_false h7]; simp))
                have h7i : (4 : Int) < ((certs.length : Nat) : Int) := by omega
                go_enter Try.func15, Try.ntmps15
                go_wp2
                go_returns
                exact ⟨by rw [HX.out.1, HX.out.2]; rfl, X0.out⟩
            · have HX := Go.Lib.hid (NO.out (by rw [HT.out, decide_eq_false h6]; simp))
              go_enter Try.func15, Try.ntmps15
              go_wp2
              go_returns
              exact ⟨by rw [HX.out.1, HX.out.2]; rfl, X0.out⟩
          · have HX := Go.Lib.hid (NO.out (by rw [HT.out, decide_eq_false h5]; simp))
            go_enter Try.func15, Try.ntmps15
            go_wp2
            go_returns
            exact ⟨by rw [HX.out.1, HX.out.2]; rfl, X0.out⟩
        · have HX := Go.Lib.hid (NO.out (by rw [HT.out, decide_eq_false h4]; simp))
          go_enter Try.func15, Try.ntmps15
          go_wp2
          go_returns
          exact ⟨by rw [HX.out.1, HX.out.2]; rfl, X0.out⟩
      · have HX := Go.Lib.hid (NO.out (by rw [HT.out, decide_eq_false h3]; simp))
        go_enter Try.func15, Try.ntmps15
        go_wp2
        go_returns
        exact ⟨by rw [HX.out.1, HX.out.2]; rfl, X0.out⟩
    · have HX := Go.Lib.hid (NO.out (by rw [HT.out, decide_eq_false h2]; simp))
      go_enter Try.func15, Try.ntmps15
      go_wp2
      go_returns
      exact ⟨by rw [HX.out.1, HX.out.2]; rfl, X0.out⟩
  · have HX := Go.Lib.hid (NO.out (by rw [HT.out, decide_eq_false h1]; simp))
    go_enter Try.func15, Try.ntmps15
    go_wp2
    go_returns
    exact ⟨by rw [HX.out.1, HX.out.2]; rfl, X0.out⟩
end Go.Proofs.Ytakbkpklfihfiaa

/- Contracts of the reference of layer 13: which changes fit (its parts). -/
namespace Go.Proofs.Ytakbkpklfihfiaa
open Go.RowKit Go.Lib F64
set_option linter.unusedSimpArgs false
set_option linter.unusedVariables false

set_option maxHeartbeats 4000000 in
set_option maxRecDepth 100000 in
theorem ref13_sigs (sa : Option Addr) (scap : Nat) (l : List Sg) (w : World) (hs : Sigs w sa scap l) : Calls Try.prog 109 #[.slice sa l.length scap] w fun e w' => e = .returned (.bool (nodesB l && decide (l.length ≤ 16))) ∧ Ext Non w w' := by
  have HS := Go.Lib.hid hs
  have hsm := hs.small; have hsl := hs.le
  clear hs
  go_enter Try.func109, Try.ntmps109
  go_wp2_with fail
  go_loopw [3] (fun iv wr => ∃ (i : Nat), i ≤ l.length ∧ iv = .int .i64 i ∧ Ext Non w wr ∧ nodesB l = nodesB (l.drop i)) (fun iv _ => l.length - (intOf iv).toNat)
  case atStart => exact ⟨0, Nat.zero_le _, rfl, Ext.refl _ _, rfl⟩
  case round =>
    obtain ⟨i, hi, rfl, xr, hn⟩ := hrel
    have XX := Go.Lib.hid xr; have HN := Go.Lib.hid hn
    clear xr hn
    by_cases hlt : i < l.length
    · obtain ⟨sb, so, rfl, hsb, c0, c1, hI, hT⟩ := (HS.out.extN XX.out).at_ i hlt
      have HD := Go.Lib.hid (nodes_drop l i hlt)
      generalize hsg : sgAt l i = sg at *
      obtain ⟨by_, tx⟩ := sg
      clear hsg
      have d0 : wr.cell? ⟨sb, so + i * 2, none⟩ = some (.int .i64 by_) := c0
      clear c0 c1
      by_cases g0 : 0 ≤ by_
      · by_cases g1 : by_ < 200
        · have HQ := Go.Lib.hid (show nodesB l = nodesB (l.drop (i + 1)) by rw [HN.out, HD.out, decide_eq_true g0, decide_eq_true g1]; rfl)
          have g1' : by_ ≤ 199 := by omega
          go_wp2_with fail
          go_roundw
          case rel => exact ⟨i + 1, hlt, by go_num, XX.out, HQ.out⟩
          case measure => simp [intOf]; omega
        · have HQ := Go.Lib.hid (show nodesB l = false by rw [HN.out, HD.out, decide_eq_false g1]; simp)
          have g1' : 199 < by_ := by omega
          go_wp2
          go_ret
          exact ⟨ret_bool (by rw [HQ.out]; rfl), XX.out⟩
      · have HQ := Go.Lib.hid (show nodesB l = false by rw [HN.out, HD.out, decide_eq_false g0]; simp)
        go_wp2
        go_ret
        exact ⟨ret_bool (by rw [HQ.out]; rfl), XX.out⟩
    · have HQ := Go.Lib.hid (show nodesB l = true by rw [HN.out, List.drop_eq_nil_of_le (by omega)]; rfl)
      go_wp2
      go_ret
      exact ⟨ret_bool (by rw [HQ.out, Bool.eq_iff_iff]; simp; try omega), XX.out⟩
theorem ref13_Of (epoch slot : Int) (he : 0 ≤ epoch ∧ epoch ≤ 60) (w : World) : Calls Try.prog 110 #[.int .i64 epoch, .int .i64 slot] w fun e w' => e = .returned (.bool (slotB epoch slot)) ∧ w = w' := by
  have HF : Hid (slotB epoch slot = (decide (epoch * 4 + 1 ≤ slot) && decide (slot < epoch * 4 + 5))) := Go.Lib.hid rfl
  have hw1 : IntKind.i64.wrap (4 * epoch) = 4 * epoch := IntWalk.i64_in _ (by omega)
  have hw2 : IntKind.i64.wrap (epoch + 1) = epoch + 1 := IntWalk.i64_in _ (by omega)
  have hw3 : IntKind.i64.wrap (4 * (epoch + 1)) = 4 * (epoch + 1) := IntWalk.i64_in _ (by omega)
  by_cases h1 : 4 * epoch < slot
  · have H1 := Go.Lib.hid h1; have HE := Go.Lib.hid he
    clear he
    go_enter Try.func110, Try.ntmps110
    go_wp2
    all_goals
      go_ret
      exact ⟨ret_bool (by rw [HF.out, Bool.eq_iff_iff]; have := H1.out; simp; omega), rfl⟩
  · have H1 := Go.Lib.hid h1
    clear he
    go_enter Try.func110, Try.ntmps110
    go_wp2
    go_ret
    exact ⟨ret_bool (by rw [HF.out, Bool.eq_iff_iff]; have := H1.out; simp; omega), rfl⟩
theorem ref13_Asked (c s k : Int) (key : ByteArray) (x : Nat) (id : Int) (w : World) : Calls Try.prog 111 #[.agg #[.int .i64 c, .int .i64 s, .int .i64 k, .string key, .float .f64 x, .int .i64 id]] w fun e w' => e = .returned (.bool (askedB ⟨c, s, ⟨k, key, x, id⟩⟩)) ∧ Ext Non w w' := by
  have HE : Hid (askedB ⟨c, s, ⟨k, key, x, id⟩⟩ = (rightB ⟨c, s, ⟨k, key, x, id⟩⟩ || nullB ⟨c, s, ⟨k, key, x, id⟩⟩)) := Go.Lib.hid rfl
  have B0 := Go.Lib.hid (Bx.new w [.int .i64 c, .int .i64 s, .int .i64 k, .string key, .float .f64 x, .int .i64 id] 49)
  have X0 := Go.Lib.hid ((Ext.refl Non w).alloc (.cells #[.int .i64 c, .int .i64 s, .int .i64 k, .string key, .float .f64 x, .int .i64 id] 49))
  go_enter Try.func111, Try.ntmps111
  go_wp2_with fail
  refine (ref_Right _ _ _ _ _ _ _).mono ?_
  rintro e w1 ⟨rfl, y⟩
  have X1 := Go.Lib.hid (X0.out.trans y)
  have B1 := Go.Lib.hid (B0.out.extN y)
  obtain ⟨q0, q1, q2, q3, q4, q5⟩ := B1.out.six
  clear y
  cases hr : rightB ⟨c, s, ⟨k, key, x, id⟩⟩
  · have HR := Go.Lib.hid hr; clear hr
    go_wp2_with fail
    refine (ref_Null _ _ _ _ _ _ _).mono ?_
    rintro e w2 ⟨rfl, y2⟩
    go_wp2
    go_ret
    exact ⟨ret_bool (by rw [HE.out, HR.out]; rfl), X1.out.trans y2⟩
  · have HR := Go.Lib.hid hr; clear hr
    go_wp2
    go_ret
    exact ⟨ret_bool (by rw [HE.out, HR.out]; rfl), X1.out⟩
end Go.Proofs.Ytakbkpklfihfiaa
