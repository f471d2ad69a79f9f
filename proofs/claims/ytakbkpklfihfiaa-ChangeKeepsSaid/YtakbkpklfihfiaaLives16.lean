/- Layer 16's lives: one of three changes has a certificate of the third slot. -/
import Derived.Test.YtakbkpklfihfiaaLaw16
namespace Go.Proofs.Ytakbkpklfihfiaa
open Go.RowKit Go.Lib F64
set_option linter.unusedSimpArgs false
set_option linter.unusedVariables false
attribute [local go_sem] run_store_float
attribute [local go_sem low] EW.cellN EW.frozN alloc_cell_or alloc_froz_or EW.cellF EW.frozF EW.cell1 EW.froz1
attribute [local go_sem] relAt relUpon
def sameT (a b : Req) : Bool := (reqE a == 0) && (reqE b == 0) && ((reqS a).toList == (reqS b).toList)
set_option maxHeartbeats 1000000 in
set_option maxRecDepth 100000 in
theorem ref11_Same (c1 s1 k1 : Int) (key1 : ByteArray) (x1 : Nat) (id1 : Int) (c2 s2 k2 : Int) (key2 : ByteArray) (x2 : Nat) (id2 : Int) (h1 : ReqOk ⟨c1, s1, ⟨k1, key1, x1, id1⟩⟩) (h2 : ReqOk ⟨c2, s2, ⟨k2, key2, x2, id2⟩⟩) (w : World) :
    Calls Try.prog 32 #[.agg #[.int .i64 c1, .int .i64 s1, .int .i64 k1, .string key1, .float .f64 x1, .int .i64 id1], .agg #[.int .i64 c2, .int .i64 s2, .int .i64 k2, .string key2, .float .f64 x2, .int .i64 id2]] w fun e w' =>
    e = .returned (.bool (sameT ⟨c1, s1, ⟨k1, key1, x1, id1⟩⟩ ⟨c2, s2, ⟨k2, key2, x2, id2⟩⟩)) ∧ Ext Non w w' := by
  have H1 := Go.Lib.hid h1; have H2 := Go.Lib.hid h2
  have DS : Hid (sameT ⟨c1, s1, ⟨k1, key1, x1, id1⟩⟩ ⟨c2, s2, ⟨k2, key2, x2, id2⟩⟩ = ((reqE ⟨c1, s1, ⟨k1, key1, x1, id1⟩⟩ == 0) && (reqE ⟨c2, s2, ⟨k2, key2, x2, id2⟩⟩ == 0) && ((reqS ⟨c1, s1, ⟨k1, key1, x1, id1⟩⟩).toList == (reqS ⟨c2, s2, ⟨k2, key2, x2, id2⟩⟩).toList))) := Go.Lib.hid rfl
  clear h1 h2
  go_enter Try.func32, Try.ntmps32
  go_wp2_with fail
  refine Calls.ew (ref_Text c1 s1 k1 key1 x1 id1 H1.out.c H1.out.s H1.out.k H1.out.id H1.out.x H1.out.key _) ?_
  rintro e y1 rfl
  go_wp2_with fail
  refine Calls.ew (ref_Text c2 s2 k2 key2 x2 id2 H2.out.c H2.out.s H2.out.k H2.out.id H2.out.x H2.out.key _) ?_
  rintro e y2 rfl
  generalize hs1 : reqS ⟨c1, s1, ⟨k1, key1, x1, id1⟩⟩ = t1 at *
  generalize hs2 : reqS ⟨c2, s2, ⟨k2, key2, x2, id2⟩⟩ = t2 at *
  generalize he1 : reqE ⟨c1, s1, ⟨k1, key1, x1, id1⟩⟩ = e1 at *
  generalize he2 : reqE ⟨c2, s2, ⟨k2, key2, x2, id2⟩⟩ = e2 at *
  clear hs1 hs2 he1 he2
  cases hb1 : (e1 == 0)
  · as_aux_lemma =>
    have B1 := Go.Lib.hid hb1
    go_wp2
    go_ret
    exact ⟨ret_bool (by rw [DS.out, B1.out]; rfl), by (repeat (first | with_reducible exact Ext.refl _ _ | assumption | with_reducible refine Ext.upN ?_ | with_reducible refine Ext.alloc ?_ _ | with_reducible refine Ext.upA (by assumption) ?_ | with_reducible refine Ext.upW ?_ | with_reducible refine Ext.drew ?_ | with_reducible refine Ext.drewN ?_ _ | with_reducible refine Ext.upF ?_ | with_reducible refine Ext.upFF (by first | omega | simp) ?_ | with_reducible refine Ext.setCellsF _ _ _ (by first | omega | simp) ?_ | with_reducible refine Ext.setCellF _ _ _ (by first | omega | simp) ?_ | with_reducible refine Ext.upFN (by first | omega | simp) ?_ | with_reducible refine Ext.up1F (by first | omega | simp) ?_ | with_reducible refine Ext.up1N (by first | omega | simp) ?_ | with_reducible refine Ext.setCell ?_ (.inr (by first | omega | simp)) _ | refine Ext.alloc ?_ _ | refine Ext.setCellF _ _ _ (by first | omega | simp) ?_ | refine Ext.setCell ?_ (.inr (by first | omega | simp)) _))⟩
  · cases hb2 : (e2 == 0)
    · as_aux_lemma =>
      have B1 := Go.Lib.hid hb1; have B2 := Go.Lib.hid hb2
      go_wp2
      go_ret
      exact ⟨ret_bool (by rw [DS.out, B1.out, B2.out]; rfl), by (repeat (first | with_reducible exact Ext.refl _ _ | assumption | with_reducible refine Ext.upN ?_ | with_reducible refine Ext.alloc ?_ _ | with_reducible refine Ext.upA (by assumption) ?_ | with_reducible refine Ext.upW ?_ | with_reducible refine Ext.drew ?_ | with_reducible refine Ext.drewN ?_ _ | with_reducible refine Ext.upF ?_ | with_reducible refine Ext.upFF (by first | omega | simp) ?_ | with_reducible refine Ext.setCellsF _ _ _ (by first | omega | simp) ?_ | with_reducible refine Ext.setCellF _ _ _ (by first | omega | simp) ?_ | with_reducible refine Ext.upFN (by first | omega | simp) ?_ | with_reducible refine Ext.up1F (by first | omega | simp) ?_ | with_reducible refine Ext.up1N (by first | omega | simp) ?_ | with_reducible refine Ext.setCell ?_ (.inr (by first | omega | simp)) _ | refine Ext.alloc ?_ _ | refine Ext.setCellF _ _ _ (by first | omega | simp) ?_ | refine Ext.setCell ?_ (.inr (by first | omega | simp)) _))⟩
    · cases hb3 : (t1.toList == t2.toList)
      all_goals
        have B1 := Go.Lib.hid hb1; have B2 := Go.Lib.hid hb2; have B3 := Go.Lib.hid hb3
        go_wp2
        go_ret
        exact ⟨ret_bool (by rw [DS.out, B1.out, B2.out, B3.out]; rfl), by (repeat (first | with_reducible exact Ext.refl _ _ | assumption | with_reducible refine Ext.upN ?_ | with_reducible refine Ext.alloc ?_ _ | with_reducible refine Ext.upA (by assumption) ?_ | with_reducible refine Ext.upW ?_ | with_reducible refine Ext.drew ?_ | with_reducible refine Ext.drewN ?_ _ | with_reducible refine Ext.upF ?_ | with_reducible refine Ext.upFF (by first | omega | simp) ?_ | with_reducible refine Ext.setCellsF _ _ _ (by first | omega | simp) ?_ | with_reducible refine Ext.setCellF _ _ _ (by first | omega | simp) ?_ | with_reducible refine Ext.upFN (by first | omega | simp) ?_ | with_reducible refine Ext.up1F (by first | omega | simp) ?_ | with_reducible refine Ext.up1N (by first | omega | simp) ?_ | with_reducible refine Ext.setCell ?_ (.inr (by first | omega | simp)) _ | refine Ext.alloc ?_ _ | refine Ext.setCellF _ _ _ (by first | omega | simp) ?_ | refine Ext.setCell ?_ (.inr (by first | omega | simp)) _))⟩
theorem lives_same : sameT ⟨1, 1, ⟨6, ByteArray.empty, 0, 7⟩⟩ ⟨1, 1, ⟨6, ByteArray.empty, 0, 7⟩⟩ = true := by decide +kernel
def rL : Req := ⟨1, 1, ⟨6, ByteArray.empty, 0, 7⟩⟩
def sgL : List Sg := sigsOf [0, 1, 3] (prepS 0 0 3 rL)
def ctL : Ct := ⟨0, 3, rL, sgL⟩
def txL (f : Int) (cs : List Ct) : ByteArray := chS 0 ⟨f, 1, cs, 0, ByteArray.empty⟩
def chL (f : Int) (cs : List Ct) : Ch := ⟨f, 1, cs, f, txL f cs⟩
def lL : List Ch := [chL 0 [], chL 1 [ctL], chL 3 []]
theorem lives_check : checkE 0 [0, 1, 2, 3] 1 lL = 0 := by decide +kernel
theorem lives_len : (pickR 0 lL).length = 3 := by decide +kernel
theorem lives_null : nullB ((pickR 0 lL).getD 0 rL) = true := by decide +kernel
theorem lives_pick : pickR 0 lL = [nullR, nullR, rL] := by kernel_rfl
theorem lives_right : rightE 0 [0, 1, 2, 3] (chL 1 [ctL]) = 0 := by decide +kernel
theorem lives_wrong : rightE 0 [0, 1, 2, 3] ⟨1, 1, [], 0, ByteArray.empty⟩ = 16 := by decide +kernel
theorem WOk.byte {W : Wr} (h : WOk W) (n : Int) : WOk (byteW W n) := h.put _ _
theorem WOk.word {W : Wr} (h : WOk W) (n : Int) : WOk (wordW W n) := h.put _ _
theorem WOk.text {W : Wr} (h : WOk W) (s : List UInt8) : WOk (textW W s) := h.put _ _
theorem WOk.sigs : ∀ (l : List Sg) {W : Wr} (h : WOk W), WOk (wSigs W l)
  | [], _, h => h
  | s :: t, W, h => WOk.sigs t (W := wSig W s) ((h.byte _).text _)
theorem WOk.certs : ∀ (l : List Ct) {W : Wr} (h : WOk W), WOk (wCerts W l)
  | [], _, h => h
  | x :: t, W, h => WOk.certs t (W := wCert W x) (WOk.sigs _ ((((h.byte _).word _).text _).byte _))
theorem wok_ch (epoch : Int) (c : Ch) : WOk (chW epoch c) := WOk.certs _ ((((((WOk.new (by decide)).byte _).word _).byte _).byte _).byte _)

theorem certs_box (w : World) (g : Nat) (t : TypeId) (sa : Option Addr) (scap : Nat) (x : Ct) (h : Bx w g (x.cells sa scap) t) (hs : Sigs w sa scap x.sigs) (hr : ReqOk x.req) (hv : I64 x.view) (hsl : I64 x.slot) : Certs w (some ⟨g, 0, none⟩) 1 [x] :=
  ⟨Nat.le_refl _, by omega, fun j hj => by
    obtain rfl : j = 0 := by simp at hj; omega
    exact ⟨g, 0, sa, scap, rfl, h.lt, fun i v hv => by rw [show 0 + 0 * 9 + i = i by omega]; exact h.cell hv, hs, hr, hv, hsl⟩⟩
theorem certs_nil (w : World) : Certs w none 0 [] := ⟨Nat.le_refl _, by omega, fun j hj => by simp at hj⟩
theorem i64_lit {n : Int} (h1 : -100 ≤ n) (h2 : n ≤ 100) : I64 n := by unfold I64; omega
theorem rL_ok : ReqOk rL := ⟨i64_lit (by decide) (by decide), i64_lit (by decide) (by decide), i64_lit (by decide) (by decide), i64_lit (by decide) (by decide), by decide, by decide⟩
theorem txL_size (f : Int) (cs : List Ct) : (txL f cs).size ≤ 9223372036854775807 := by
  unfold txL chS
  split
  · have h := wok_ch 0 ⟨f, 1, cs, 0, ByteArray.empty⟩
    unfold doneS
    split
    · show (chW 0 ⟨f, 1, cs, 0, ByteArray.empty⟩).bs.toArray.size ≤ _
      have h1 := h.lim; have h2 := h.room
      simp; omega
    · show ([] : List UInt8).toArray.size ≤ _; simp
  · show ([] : List UInt8).toArray.size ≤ _; simp
def mo3 : Mo := ⟨fun v w => ∃ g, v = .slice (some ⟨g, 0, none⟩) 3 3 ∧ Ints w (some ⟨g, 0, none⟩) 3 [0, 1, 3], fun _ _ _ x ⟨g, e, h⟩ => ⟨g, e, h.extN x⟩⟩
def mo4 : Mo := ⟨fun v w => ∃ sa scap, v = .agg #[.int .i64 0, .int .i64 3, .int .i64 1, .int .i64 1, .int .i64 6, .string ByteArray.empty, .float .f64 0, .int .i64 7, .slice sa 3 scap] ∧ Sigs w sa scap sgL, fun _ _ _ x ⟨g, c, e, h⟩ => ⟨g, c, e, h.extN x⟩⟩
def mo5 : Mo := ⟨fun v w => ∃ g, v = .slice (some ⟨g, 0, none⟩) 1 1 ∧ Certs w (some ⟨g, 0, none⟩) 1 [ctL], fun _ _ _ x ⟨g, e, h⟩ => ⟨g, e, h.extN x⟩⟩
def mo6 : Mo := ⟨fun v w => ∃ g, v = .agg #[.int .i64 1, .int .i64 1, .slice (some ⟨g, 0, none⟩) 1 1, .int .i64 0, .string ByteArray.empty] ∧ Certs w (some ⟨g, 0, none⟩) 1 [ctL], fun _ _ _ x ⟨g, e, h⟩ => ⟨g, e, h.extN x⟩⟩
def mo7 : Mo := ⟨fun v w => ∃ g, v = .agg #[.int .i64 1, .int .i64 1, .slice (some ⟨g, 0, none⟩) 1 1, .int .i64 1, .string (txL 1 [ctL])] ∧ Certs w (some ⟨g, 0, none⟩) 1 [ctL], fun _ _ _ x ⟨g, e, h⟩ => ⟨g, e, h.extN x⟩⟩
def mo10 : Mo := ⟨fun v w => ∃ g, v = .slice (some ⟨g, 0, none⟩) 3 3 ∧ Chs w (some ⟨g, 0, none⟩) 3 lL, fun _ _ _ x ⟨g, e, h⟩ => ⟨g, e, h.extN x⟩⟩
def moF : Mo := ⟨fun v w => ∃ b, v = .agg #[.int .i64 0, .slice (some ⟨b, 0, none⟩) 4 4] ∧ Ints w (some ⟨b, 0, none⟩) 4 [0, 1, 2, 3], fun _ _ _ x ⟨g, e, h⟩ => ⟨g, e, h.extN x⟩⟩
theorem chs_box (w : World) (g : Nat) (t : TypeId) (gc : Nat) (h : Bx w g ((chL 0 []).cells none 0 ++ ((chL 1 [ctL]).cells (some ⟨gc, 0, none⟩) 1 ++ (chL 3 []).cells none 0)) t) (hc : Certs w (some ⟨gc, 0, none⟩) 1 [ctL]) : Chs w (some ⟨g, 0, none⟩) 3 lL := by
  refine ⟨Nat.le_refl _, by omega, fun j hj => ?_⟩
  have h3 : j = 0 ∨ j = 1 ∨ j = 2 := by have : j < 3 := hj; omega
  have i64 : ∀ n : Int, 0 ≤ n → n ≤ 3 → I64 n := fun n h1 h2 => by unfold I64; omega
  have app : ∀ (a b : List Value) (i : Nat) (v : Value), a[i]? = some v → (a ++ b)[i]? = some v := fun a b i v hv => by
    rw [List.getElem?_append_left (List.getElem?_eq_some_iff.1 hv).1]; exact hv
  have apr : ∀ (a b : List Value) (i k : Nat) (v : Value), a.length = k → b[i]? = some v → (a ++ b)[k + i]? = some v := fun a b i k v hk hv => by
    rw [List.getElem?_append_right (by omega), show k + i - a.length = i by omega]; exact hv
  rcases h3 with rfl | rfl | rfl
  · exact ⟨g, 0, none, 0, rfl, h.lt, fun i v hv => by rw [show 0 + 0 * 5 + i = i by omega]; exact h.cell (app _ _ _ _ hv), certs_nil w, i64 0 (by omega) (by omega), i64 1 (by omega) (by omega), i64 0 (by omega) (by omega), txL_size 0 []⟩
  · exact ⟨g, 0, some ⟨gc, 0, none⟩, 1, rfl, h.lt, fun i v hv => by rw [show 0 + 1 * 5 + i = 5 + i by omega]; exact h.cell (apr _ _ _ 5 _ rfl (app _ _ _ _ hv)), hc, i64 1 (by omega) (by omega), i64 1 (by omega) (by omega), i64 1 (by omega) (by omega), txL_size 1 [ctL]⟩
  · exact ⟨g, 0, none, 0, rfl, h.lt, fun i v hv => by rw [show 0 + 2 * 5 + i = 5 + (5 + i) by omega]; exact h.cell (apr _ _ _ 5 _ rfl (apr _ _ _ 5 _ rfl hv)), certs_nil w, i64 3 (by omega) (by omega), i64 1 (by omega) (by omega), i64 3 (by omega) (by omega), txL_size 3 []⟩
set_option maxHeartbeats 4000000 in
set_option maxRecDepth 100000 in
theorem law16_lives (w : World) : Calls Try.prog 14 #[] w fun e w' => e = .returned (.bool true) ∧ Ext Non w w' := by
  go_enter Try.func14, Try.ntmps14
  go_wp2_with fail
  refine wp_region_rel (relR [Mo.is (.agg #[.int .i64 0, .int .i64 1, .slice none 0 0, .int .i64 0, .string ByteArray.empty]), Mo.is (.agg #[.int .i64 0, .int .i64 1, .slice none 0 0, .int .i64 0, .string (txL 0 [])]), Mo.is (.agg #[.int .i64 1, .int .i64 1, .int .i64 6, .string ByteArray.empty, .float .f64 0, .int .i64 7]), mo3, mo4, mo5, mo6, mo7, Mo.is (.agg #[.int .i64 3, .int .i64 1, .slice none 0 0, .int .i64 0, .string ByteArray.empty]), Mo.is (.agg #[.int .i64 3, .int .i64 1, .slice none 0 0, .int .i64 3, .string (txL 3 [])]), mo10, mo10]) (by kernel_rfl) (by kernel_rfl) (by kernel_rfl) (relR_mono _) (StepL.all ?st) ?q
  case st =>
    refine ⟨?_, ?_, ?_, ?_, ?_, ?_, ?_, ?_, ?_, ?_, ?_, ?_, trivial⟩
    · intro a' w' hx hs hd
      obtain ⟨y, rfl⟩ := hx.ew
      clear hs hd
      refine ⟨rfl, ?_⟩
      go_simp
      exact ⟨by (repeat (first | with_reducible exact Ext.refl _ _ | assumption | with_reducible refine Ext.upN ?_ | with_reducible refine Ext.alloc ?_ _ | with_reducible refine Ext.upA (by assumption) ?_ | with_reducible refine Ext.upW ?_ | with_reducible refine Ext.drew ?_ | with_reducible refine Ext.drewN ?_ _ | with_reducible refine Ext.upF ?_ | with_reducible refine Ext.upFF (by first | omega | simp) ?_ | with_reducible refine Ext.setCellsF _ _ _ (by first | omega | simp) ?_ | with_reducible refine Ext.setCellF _ _ _ (by first | omega | simp) ?_ | with_reducible refine Ext.upFN (by first | omega | simp) ?_ | with_reducible refine Ext.up1F (by first | omega | simp) ?_ | with_reducible refine Ext.up1N (by first | omega | simp) ?_ | with_reducible refine Ext.setCell ?_ (.inr (by first | omega | simp)) _ | refine Ext.alloc ?_ _ | refine Ext.setCellF _ _ _ (by first | omega | simp) ?_ | refine Ext.setCell ?_ (.inr (by first | omega | simp)) _)), rfl⟩
    · intro a' w' hx hs hd
      obtain ⟨y, rfl⟩ := hx.ew
      have e7 : a'.tmps[7]?.getD undef = .agg #[.int .i64 0, .int .i64 1, .slice none 0 0, .int .i64 0, .string ByteArray.empty] := hd 0 7 rfl rfl
      clear hs hd
      refine ⟨rfl, ?_⟩
      go_simp
      exact (law16_signed 0 0 1 0 ByteArray.empty none 0 [] (i64_lit (by decide) (by decide)) (i64_lit (by decide) (by decide)) (i64_lit (by decide) (by decide)) _ (certs_nil _)).mono (fun e w'' ⟨he, hx⟩ => ⟨_, he, hx, rfl⟩)
    · intro a' w' hx hs hd
      obtain ⟨y, rfl⟩ := hx.ew
      have e1 : a'.tmps[1]?.getD undef = .pointer (some ⟨w.heap.size, 0, none⟩) := hs 1 rfl
      clear hs hd
      refine ⟨rfl, ?_⟩
      go_simp
      exact ⟨by (repeat (first | with_reducible exact Ext.refl _ _ | assumption | with_reducible refine Ext.upN ?_ | with_reducible refine Ext.alloc ?_ _ | with_reducible refine Ext.upA (by assumption) ?_ | with_reducible refine Ext.upW ?_ | with_reducible refine Ext.drew ?_ | with_reducible refine Ext.drewN ?_ _ | with_reducible refine Ext.upF ?_ | with_reducible refine Ext.upFF (by first | omega | simp) ?_ | with_reducible refine Ext.setCellsF _ _ _ (by first | omega | simp) ?_ | with_reducible refine Ext.setCellF _ _ _ (by first | omega | simp) ?_ | with_reducible refine Ext.upFN (by first | omega | simp) ?_ | with_reducible refine Ext.up1F (by first | omega | simp) ?_ | with_reducible refine Ext.up1N (by first | omega | simp) ?_ | with_reducible refine Ext.setCell ?_ (.inr (by first | omega | simp)) _ | refine Ext.alloc ?_ _ | refine Ext.setCellF _ _ _ (by first | omega | simp) ?_ | refine Ext.setCell ?_ (.inr (by first | omega | simp)) _)), rfl⟩
    · intro a' w' hx hs hd
      obtain ⟨y, rfl⟩ := hx.ew
      clear hs hd
      refine ⟨rfl, ?_⟩
      go_simp
      exact ⟨by (repeat (first | with_reducible exact Ext.refl _ _ | assumption | with_reducible refine Ext.upN ?_ | with_reducible refine Ext.alloc ?_ _ | with_reducible refine Ext.upA (by assumption) ?_ | with_reducible refine Ext.upW ?_ | with_reducible refine Ext.drew ?_ | with_reducible refine Ext.drewN ?_ _ | with_reducible refine Ext.upF ?_ | with_reducible refine Ext.upFF (by first | omega | simp) ?_ | with_reducible refine Ext.setCellsF _ _ _ (by first | omega | simp) ?_ | with_reducible refine Ext.setCellF _ _ _ (by first | omega | simp) ?_ | with_reducible refine Ext.upFN (by first | omega | simp) ?_ | with_reducible refine Ext.up1F (by first | omega | simp) ?_ | with_reducible refine Ext.up1N (by first | omega | simp) ?_ | with_reducible refine Ext.setCell ?_ (.inr (by first | omega | simp)) _ | refine Ext.alloc ?_ _ | refine Ext.setCellF _ _ _ (by first | omega | simp) ?_ | refine Ext.setCell ?_ (.inr (by first | omega | simp)) _)), _, rfl, ints_box _ [0, 1, 3] _ _ (Bx.new _ _ _) (by decide) (by intro x hx; simp at hx; rcases hx with rfl | rfl | rfl <;> exact i64_lit (by decide) (by decide))⟩
    · intro a' w' hx hs hd
      obtain ⟨y, rfl⟩ := hx.ew
      have e9 : a'.tmps[9]?.getD undef = .agg #[.int .i64 1, .int .i64 1, .int .i64 6, .string ByteArray.empty, .float .f64 0, .int .i64 7] := hd 2 9 rfl rfl
      obtain ⟨g, e10, hI⟩ : ∃ g, a'.tmps[10]?.getD undef = .slice (some ⟨g, 0, none⟩) 3 3 ∧ Ints y.on (some ⟨g, 0, none⟩) 3 [0, 1, 3] := hd 3 10 rfl rfl
      clear hs hd
      refine ⟨rfl, ?_⟩
      go_simp
      have HI := Go.Lib.hid hI; clear hI
      exact (law16_cert 0 0 3 1 1 6 ByteArray.empty 0 7 (i64_lit (by decide) (by decide)) (i64_lit (by decide) (by decide)) (i64_lit (by decide) (by decide)) rL_ok (some ⟨g, 0, none⟩) 3 [0, 1, 3] (by decide) _ HI.out).mono (fun e w'' ⟨sa, scap, he, hs, hx⟩ => ⟨_, he, hx, sa, scap, rfl, hs⟩)
    · intro a' w' hx hs hd
      obtain ⟨y, rfl⟩ := hx.ew
      obtain ⟨sa, scap, e11, hI⟩ : ∃ sa scap, a'.tmps[11]?.getD undef = .agg #[.int .i64 0, .int .i64 3, .int .i64 1, .int .i64 1, .int .i64 6, .string ByteArray.empty, .float .f64 0, .int .i64 7, .slice sa 3 scap] ∧ Sigs y.on sa scap sgL := hd 4 11 rfl rfl
      clear hs hd
      refine ⟨rfl, ?_⟩
      go_simp
      exact ⟨by (repeat (first | with_reducible exact Ext.refl _ _ | assumption | with_reducible refine Ext.upN ?_ | with_reducible refine Ext.alloc ?_ _ | with_reducible refine Ext.upA (by assumption) ?_ | with_reducible refine Ext.upW ?_ | with_reducible refine Ext.drew ?_ | with_reducible refine Ext.drewN ?_ _ | with_reducible refine Ext.upF ?_ | with_reducible refine Ext.upFF (by first | omega | simp) ?_ | with_reducible refine Ext.setCellsF _ _ _ (by first | omega | simp) ?_ | with_reducible refine Ext.setCellF _ _ _ (by first | omega | simp) ?_ | with_reducible refine Ext.upFN (by first | omega | simp) ?_ | with_reducible refine Ext.up1F (by first | omega | simp) ?_ | with_reducible refine Ext.up1N (by first | omega | simp) ?_ | with_reducible refine Ext.setCell ?_ (.inr (by first | omega | simp)) _ | refine Ext.alloc ?_ _ | refine Ext.setCellF _ _ _ (by first | omega | simp) ?_ | refine Ext.setCell ?_ (.inr (by first | omega | simp)) _)), _, rfl, certs_box _ _ _ sa scap ctL (Bx.new _ _ _) (hI.extN (by (repeat (first | with_reducible exact Ext.refl _ _ | assumption | with_reducible refine Ext.upN ?_ | with_reducible refine Ext.alloc ?_ _ | with_reducible refine Ext.upA (by assumption) ?_ | with_reducible refine Ext.upW ?_ | with_reducible refine Ext.drew ?_ | with_reducible refine Ext.drewN ?_ _ | with_reducible refine Ext.upF ?_ | with_reducible refine Ext.upFF (by first | omega | simp) ?_ | with_reducible refine Ext.setCellsF _ _ _ (by first | omega | simp) ?_ | with_reducible refine Ext.setCellF _ _ _ (by first | omega | simp) ?_ | with_reducible refine Ext.upFN (by first | omega | simp) ?_ | with_reducible refine Ext.up1F (by first | omega | simp) ?_ | with_reducible refine Ext.up1N (by first | omega | simp) ?_ | with_reducible refine Ext.setCell ?_ (.inr (by first | omega | simp)) _ | refine Ext.alloc ?_ _ | refine Ext.setCellF _ _ _ (by first | omega | simp) ?_ | refine Ext.setCell ?_ (.inr (by first | omega | simp)) _)))) rL_ok (i64_lit (by decide) (by decide)) (i64_lit (by decide) (by decide))⟩
    · intro a' w' hx hs hd
      obtain ⟨y, rfl⟩ := hx.ew
      obtain ⟨g, e12, hI⟩ : ∃ g, a'.tmps[12]?.getD undef = .slice (some ⟨g, 0, none⟩) 1 1 ∧ Certs y.on (some ⟨g, 0, none⟩) 1 [ctL] := hd 5 12 rfl rfl
      clear hs hd
      refine ⟨rfl, ?_⟩
      go_simp
      exact ⟨by (repeat (first | with_reducible exact Ext.refl _ _ | assumption | with_reducible refine Ext.upN ?_ | with_reducible refine Ext.alloc ?_ _ | with_reducible refine Ext.upA (by assumption) ?_ | with_reducible refine Ext.upW ?_ | with_reducible refine Ext.drew ?_ | with_reducible refine Ext.drewN ?_ _ | with_reducible refine Ext.upF ?_ | with_reducible refine Ext.upFF (by first | omega | simp) ?_ | with_reducible refine Ext.setCellsF _ _ _ (by first | omega | simp) ?_ | with_reducible refine Ext.setCellF _ _ _ (by first | omega | simp) ?_ | with_reducible refine Ext.upFN (by first | omega | simp) ?_ | with_reducible refine Ext.up1F (by first | omega | simp) ?_ | with_reducible refine Ext.up1N (by first | omega | simp) ?_ | with_reducible refine Ext.setCell ?_ (.inr (by first | omega | simp)) _ | refine Ext.alloc ?_ _ | refine Ext.setCellF _ _ _ (by first | omega | simp) ?_ | refine Ext.setCell ?_ (.inr (by first | omega | simp)) _)), _, rfl, hI⟩
    · intro a' w' hx hs hd
      obtain ⟨y, rfl⟩ := hx.ew
      obtain ⟨g, e13, hI⟩ : ∃ g, a'.tmps[13]?.getD undef = .agg #[.int .i64 1, .int .i64 1, .slice (some ⟨g, 0, none⟩) 1 1, .int .i64 0, .string ByteArray.empty] ∧ Certs y.on (some ⟨g, 0, none⟩) 1 [ctL] := hd 6 13 rfl rfl
      clear hs hd
      refine ⟨rfl, ?_⟩
      go_simp
      have HI := Go.Lib.hid hI; clear hI
      exact (law16_signed 0 1 1 0 ByteArray.empty (some ⟨g, 0, none⟩) 1 [ctL] (i64_lit (by decide) (by decide)) (i64_lit (by decide) (by decide)) (i64_lit (by decide) (by decide)) _ HI.out).mono (fun e w'' ⟨he, hx⟩ => ⟨_, he, hx, g, rfl, HI.out.extN hx⟩)
    · intro a' w' hx hs hd
      obtain ⟨y, rfl⟩ := hx.ew
      clear hs hd
      refine ⟨rfl, ?_⟩
      go_simp
      exact ⟨by (repeat (first | with_reducible exact Ext.refl _ _ | assumption | with_reducible refine Ext.upN ?_ | with_reducible refine Ext.alloc ?_ _ | with_reducible refine Ext.upA (by assumption) ?_ | with_reducible refine Ext.upW ?_ | with_reducible refine Ext.drew ?_ | with_reducible refine Ext.drewN ?_ _ | with_reducible refine Ext.upF ?_ | with_reducible refine Ext.upFF (by first | omega | simp) ?_ | with_reducible refine Ext.setCellsF _ _ _ (by first | omega | simp) ?_ | with_reducible refine Ext.setCellF _ _ _ (by first | omega | simp) ?_ | with_reducible refine Ext.upFN (by first | omega | simp) ?_ | with_reducible refine Ext.up1F (by first | omega | simp) ?_ | with_reducible refine Ext.up1N (by first | omega | simp) ?_ | with_reducible refine Ext.setCell ?_ (.inr (by first | omega | simp)) _ | refine Ext.alloc ?_ _ | refine Ext.setCellF _ _ _ (by first | omega | simp) ?_ | refine Ext.setCell ?_ (.inr (by first | omega | simp)) _)), rfl⟩
    · intro a' w' hx hs hd
      obtain ⟨y, rfl⟩ := hx.ew
      have e15 : a'.tmps[15]?.getD undef = .agg #[.int .i64 3, .int .i64 1, .slice none 0 0, .int .i64 0, .string ByteArray.empty] := hd 8 15 rfl rfl
      clear hs hd
      refine ⟨rfl, ?_⟩
      go_simp
      exact (law16_signed 0 3 1 0 ByteArray.empty none 0 [] (i64_lit (by decide) (by decide)) (i64_lit (by decide) (by decide)) (i64_lit (by decide) (by decide)) _ (certs_nil _)).mono (fun e w'' ⟨he, hx⟩ => ⟨_, he, hx, rfl⟩)
    · intro a' w' hx hs hd
      obtain ⟨y, rfl⟩ := hx.ew
      have e8 : a'.tmps[8]?.getD undef = .agg #[.int .i64 0, .int .i64 1, .slice none 0 0, .int .i64 0, .string (txL 0 [])] := hd 1 8 rfl rfl
      obtain ⟨g, e14, hI⟩ : ∃ g, a'.tmps[14]?.getD undef = .agg #[.int .i64 1, .int .i64 1, .slice (some ⟨g, 0, none⟩) 1 1, .int .i64 1, .string (txL 1 [ctL])] ∧ Certs y.on (some ⟨g, 0, none⟩) 1 [ctL] := hd 7 14 rfl rfl
      have e16 : a'.tmps[16]?.getD undef = .agg #[.int .i64 3, .int .i64 1, .slice none 0 0, .int .i64 3, .string (txL 3 [])] := hd 9 16 rfl rfl
      clear hs hd
      refine ⟨rfl, ?_⟩
      go_simp
      exact ⟨by (repeat (first | with_reducible exact Ext.refl _ _ | assumption | with_reducible refine Ext.upN ?_ | with_reducible refine Ext.alloc ?_ _ | with_reducible refine Ext.upA (by assumption) ?_ | with_reducible refine Ext.upW ?_ | with_reducible refine Ext.drew ?_ | with_reducible refine Ext.drewN ?_ _ | with_reducible refine Ext.upF ?_ | with_reducible refine Ext.upFF (by first | omega | simp) ?_ | with_reducible refine Ext.setCellsF _ _ _ (by first | omega | simp) ?_ | with_reducible refine Ext.setCellF _ _ _ (by first | omega | simp) ?_ | with_reducible refine Ext.upFN (by first | omega | simp) ?_ | with_reducible refine Ext.up1F (by first | omega | simp) ?_ | with_reducible refine Ext.up1N (by first | omega | simp) ?_ | with_reducible refine Ext.setCell ?_ (.inr (by first | omega | simp)) _ | refine Ext.alloc ?_ _ | refine Ext.setCellF _ _ _ (by first | omega | simp) ?_ | refine Ext.setCell ?_ (.inr (by first | omega | simp)) _)), _, rfl, chs_box _ _ _ g (Bx.new _ _ _) (hI.extN (by (repeat (first | with_reducible exact Ext.refl _ _ | assumption | with_reducible refine Ext.upN ?_ | with_reducible refine Ext.alloc ?_ _ | with_reducible refine Ext.upA (by assumption) ?_ | with_reducible refine Ext.upW ?_ | with_reducible refine Ext.drew ?_ | with_reducible refine Ext.drewN ?_ _ | with_reducible refine Ext.upF ?_ | with_reducible refine Ext.upFF (by first | omega | simp) ?_ | with_reducible refine Ext.setCellsF _ _ _ (by first | omega | simp) ?_ | with_reducible refine Ext.setCellF _ _ _ (by first | omega | simp) ?_ | with_reducible refine Ext.upFN (by first | omega | simp) ?_ | with_reducible refine Ext.up1F (by first | omega | simp) ?_ | with_reducible refine Ext.up1N (by first | omega | simp) ?_ | with_reducible refine Ext.setCell ?_ (.inr (by first | omega | simp)) _ | refine Ext.alloc ?_ _ | refine Ext.setCellF _ _ _ (by first | omega | simp) ?_ | refine Ext.setCell ?_ (.inr (by first | omega | simp)) _))))⟩
    · intro a' w' hx hs hd
      obtain ⟨y, rfl⟩ := hx.ew
      obtain ⟨g, e17, hI⟩ : ∃ g, a'.tmps[17]?.getD undef = .slice (some ⟨g, 0, none⟩) 3 3 ∧ Chs y.on (some ⟨g, 0, none⟩) 3 lL := hd 10 17 rfl rfl
      clear hs hd
      refine ⟨rfl, ?_⟩
      go_simp
      exact ⟨by (repeat (first | with_reducible exact Ext.refl _ _ | assumption | with_reducible refine Ext.upN ?_ | with_reducible refine Ext.alloc ?_ _ | with_reducible refine Ext.upA (by assumption) ?_ | with_reducible refine Ext.upW ?_ | with_reducible refine Ext.drew ?_ | with_reducible refine Ext.drewN ?_ _ | with_reducible refine Ext.upF ?_ | with_reducible refine Ext.upFF (by first | omega | simp) ?_ | with_reducible refine Ext.setCellsF _ _ _ (by first | omega | simp) ?_ | with_reducible refine Ext.setCellF _ _ _ (by first | omega | simp) ?_ | with_reducible refine Ext.upFN (by first | omega | simp) ?_ | with_reducible refine Ext.up1F (by first | omega | simp) ?_ | with_reducible refine Ext.up1N (by first | omega | simp) ?_ | with_reducible refine Ext.setCell ?_ (.inr (by first | omega | simp)) _ | refine Ext.alloc ?_ _ | refine Ext.setCellF _ _ _ (by first | omega | simp) ?_ | refine Ext.setCell ?_ (.inr (by first | omega | simp)) _)), _, rfl, hI⟩
  case q =>
    intro vs w' hx hR
    obtain ⟨y, rfl⟩ := hx.ew
    obtain ⟨g, v11, hC⟩ : ∃ g, vs 11 = .slice (some ⟨g, 0, none⟩) 3 3 ∧ Chs y.on (some ⟨g, 0, none⟩) 3 lL := hR 11 (by decide)
    have HC := Go.Lib.hid hC
    clear hC hR
    simp only [putAll, List.take_succ_cons, List.take_zero, List.drop_succ_cons, List.drop_zero, Act.put, List.setIfInBounds_toArray, List.set_cons_zero, List.set_cons_succ, Nat.reduceAdd, Nat.zero_add]
    simp only [v11]
    go_wp2_with fail
    refine (law16_four _).mono ?_
    rintro e _ ⟨b, rfl, hI, hx2⟩
    obtain ⟨x2, rfl⟩ := hx2.ew
    have HI := Go.Lib.hid hI; clear hI
    go_wp2_with fail
    refine (change_Pick 0 (some ⟨b, 0, none⟩) 4 [0, 1, 2, 3] 1 (some ⟨g, 0, none⟩) 3 lL (i64_lit (by decide) (by decide)) _ HI.out (HC.out.extN (by (repeat (first | with_reducible exact Ext.refl _ _ | assumption | with_reducible refine Ext.upN ?_ | with_reducible refine Ext.alloc ?_ _ | with_reducible refine Ext.upA (by assumption) ?_ | with_reducible refine Ext.upW ?_ | with_reducible refine Ext.drew ?_ | with_reducible refine Ext.drewN ?_ _ | with_reducible refine Ext.upF ?_ | with_reducible refine Ext.upFF (by first | omega | simp) ?_ | with_reducible refine Ext.setCellsF _ _ _ (by first | omega | simp) ?_ | with_reducible refine Ext.setCellF _ _ _ (by first | omega | simp) ?_ | with_reducible refine Ext.upFN (by first | omega | simp) ?_ | with_reducible refine Ext.up1F (by first | omega | simp) ?_ | with_reducible refine Ext.up1N (by first | omega | simp) ?_ | with_reducible refine Ext.setCell ?_ (.inr (by first | omega | simp)) _ | refine Ext.alloc ?_ _ | refine Ext.setCellF _ _ _ (by first | omega | simp) ?_ | refine Ext.setCell ?_ (.inr (by first | omega | simp)) _))))).mono ?_
    rintro e _ ⟨v, rfl, hO, hx3⟩
    obtain ⟨x3, rfl⟩ := hx3.ew
    rw [show pickL 0 [0, 1, 2, 3] 1 lL = pickR 0 lL from if_pos lives_check] at hO
    obtain ⟨ra, rcap, rfl, hRq⟩ := reqs_of_own hO
    rw [lives_check, lives_len]
    have HRq := Go.Lib.hid hRq; clear hRq hO
    go_wp2_with fail
    rw [lives_pick] at HRq
    obtain ⟨rb, ro, rfl, hrb, k0⟩ := HRq.out.at_ 0 (by decide)
    obtain ⟨rb', ro', e', hrb', k2⟩ := HRq.out.at_ 2 (by decide)
    injection e' with e'; injection e' with e1 e2; subst e1; subst e2
    obtain ⟨g', go', ca, cc, e', hgb, kc, hcc, -⟩ := HC.out.at_ 1 (by decide)
    injection e' with e'; injection e' with e1 e2; subst e1; subst e2
    have HCc : Hid (Certs y.on ca cc [ctL]) := Go.Lib.hid hcc
    have k00 : x3.on.cell? ⟨rb, ro, none⟩ = some (.int .i64 0) := k0 0 _ rfl
    have k01 : x3.on.cell? ⟨rb, ro + 1, none⟩ = some (.int .i64 0) := k0 1 _ rfl
    have k02 : x3.on.cell? ⟨rb, ro + 2, none⟩ = some (.int .i64 0) := k0 2 _ rfl
    have k03 : x3.on.cell? ⟨rb, ro + 3, none⟩ = some (.string ByteArray.empty) := k0 3 _ rfl
    have k04 : x3.on.cell? ⟨rb, ro + 4, none⟩ = some (.float .f64 0) := k0 4 _ rfl
    have k05 : x3.on.cell? ⟨rb, ro + 5, none⟩ = some (.int .i64 0) := k0 5 _ rfl
    have k20 : x3.on.cell? ⟨rb, ro + 12, none⟩ = some (.int .i64 1) := k2 0 _ rfl
    have k21 : x3.on.cell? ⟨rb, ro + 13, none⟩ = some (.int .i64 1) := k2 1 _ rfl
    have k22 : x3.on.cell? ⟨rb, ro + 14, none⟩ = some (.int .i64 6) := k2 2 _ rfl
    have k23 : x3.on.cell? ⟨rb, ro + 15, none⟩ = some (.string ByteArray.empty) := k2 3 _ rfl
    have k24 : x3.on.cell? ⟨rb, ro + 16, none⟩ = some (.float .f64 0) := k2 4 _ rfl
    have k25 : x3.on.cell? ⟨rb, ro + 17, none⟩ = some (.int .i64 7) := k2 5 _ rfl
    have kc0 : y.on.cell? ⟨g, 5, none⟩ = some (.int .i64 1) := kc 0 _ rfl
    have kc1 : y.on.cell? ⟨g, 6, none⟩ = some (.int .i64 1) := kc 1 _ rfl
    have kc2 : y.on.cell? ⟨g, 7, none⟩ = some (.slice ca 1 cc) := kc 2 _ rfl
    have kc3 : y.on.cell? ⟨g, 8, none⟩ = some (.int .i64 1) := kc 3 _ rfl
    have kc4 : y.on.cell? ⟨g, 9, none⟩ = some (.string (txL 1 [ctL])) := kc 4 _ rfl
    clear k0 k2 kc hcc
    refine wp_region_rel (relR [Mo.is (.int .i64 0), Mo.is (.bool true), Mo.is (.bool true), Mo.is (.slice (some ⟨rb, ro, none⟩) 3 rcap), Mo.is (.int .i64 3), Mo.is (.bool true), Mo.is (.bool true), Mo.is (.bool true), Mo.is (.slice (some ⟨rb, ro, none⟩) 3 rcap), Mo.is (.pointer (some ⟨rb, ro, none⟩)), Mo.is (.agg #[.int .i64 0, .int .i64 0, .int .i64 0, .string ByteArray.empty, .float .f64 0, .int .i64 0]), Mo.is (.bool true), Mo.is (.bool true), Mo.is (.bool true), Mo.is (.slice (some ⟨rb, ro, none⟩) 3 rcap), Mo.is (.pointer (some ⟨rb, ro + 12, none⟩)), Mo.is (.agg #[.int .i64 1, .int .i64 1, .int .i64 6, .string ByteArray.empty, .float .f64 0, .int .i64 7]), Mo.is (.agg #[.int .i64 1, .int .i64 1, .int .i64 6, .string ByteArray.empty, .float .f64 0, .int .i64 7]), Mo.is (.bool true), Mo.is (.bool true), Mo.is (.bool true), moF, Mo.is (.slice (some ⟨g, 0, none⟩) 3 3), Mo.is (.pointer (some ⟨g, 5, none⟩)), Mo.is (.agg #[.int .i64 1, .int .i64 1, .slice ca 1 cc, .int .i64 1, .string (txL 1 [ctL])]), Mo.is (.int .i64 0), Mo.is (.bool true), Mo.is (.bool true), Mo.is (.bool true), moF, Mo.is (.agg #[.int .i64 1, .int .i64 1, .slice none 0 0, .int .i64 0, .string ByteArray.empty]), Mo.is (.int .i64 16), Mo.is (.bool true), Mo.is (.bool true), Mo.is (.bool true)]) (by kernel_rfl) (by kernel_rfl) (by kernel_rfl) (relR_mono _) (StepL.all ?st) ?q
    case st =>
      refine ⟨?_, ?_, ?_, ?_, ?_, ?_, ?_, ?_, ?_, ?_, ?_, ?_, ?_, ?_, ?_, ?_, ?_, ?_, ?_, ?_, ?_, ?_, ?_, ?_, ?_, ?_, ?_, ?_, ?_, ?_, ?_, ?_, ?_, ?_, ?_, trivial⟩
      · intro a' w' hx hs hd
        obtain ⟨y, rfl⟩ := hx.ew
        have e4 : a'.tmps[4]?.getD undef = .int .i64 0 := hs 4 rfl
        clear hs hd
        refine ⟨rfl, ?_⟩
        go_simp
        exact ⟨by (repeat (first | with_reducible exact Ext.refl _ _ | assumption | with_reducible refine Ext.upN ?_ | with_reducible refine Ext.alloc ?_ _ | with_reducible refine Ext.upA (by assumption) ?_ | with_reducible refine Ext.upW ?_ | with_reducible refine Ext.drew ?_ | with_reducible refine Ext.drewN ?_ _ | with_reducible refine Ext.upF ?_ | with_reducible refine Ext.upFF (by first | omega | simp) ?_ | with_reducible refine Ext.setCellsF _ _ _ (by first | omega | simp) ?_ | with_reducible refine Ext.setCellF _ _ _ (by first | omega | simp) ?_ | with_reducible refine Ext.upFN (by first | omega | simp) ?_ | with_reducible refine Ext.up1F (by first | omega | simp) ?_ | with_reducible refine Ext.up1N (by first | omega | simp) ?_ | with_reducible refine Ext.setCell ?_ (.inr (by first | omega | simp)) _ | refine Ext.alloc ?_ _ | refine Ext.setCellF _ _ _ (by first | omega | simp) ?_ | refine Ext.setCell ?_ (.inr (by first | omega | simp)) _)), rfl⟩
      · intro a' w' hx hs hd
        obtain ⟨y, rfl⟩ := hx.ew
        have e24 : a'.tmps[24]?.getD undef = .int .i64 0 := hd 0 24 rfl rfl
        clear hs hd
        refine ⟨rfl, ?_⟩
        go_simp
        exact ⟨by (repeat (first | with_reducible exact Ext.refl _ _ | assumption | with_reducible refine Ext.upN ?_ | with_reducible refine Ext.alloc ?_ _ | with_reducible refine Ext.upA (by assumption) ?_ | with_reducible refine Ext.upW ?_ | with_reducible refine Ext.drew ?_ | with_reducible refine Ext.drewN ?_ _ | with_reducible refine Ext.upF ?_ | with_reducible refine Ext.upFF (by first | omega | simp) ?_ | with_reducible refine Ext.setCellsF _ _ _ (by first | omega | simp) ?_ | with_reducible refine Ext.setCellF _ _ _ (by first | omega | simp) ?_ | with_reducible refine Ext.upFN (by first | omega | simp) ?_ | with_reducible refine Ext.up1F (by first | omega | simp) ?_ | with_reducible refine Ext.up1N (by first | omega | simp) ?_ | with_reducible refine Ext.setCell ?_ (.inr (by first | omega | simp)) _ | refine Ext.alloc ?_ _ | refine Ext.setCellF _ _ _ (by first | omega | simp) ?_ | refine Ext.setCell ?_ (.inr (by first | omega | simp)) _)), rfl⟩
      · intro a' w' hx hs hd
        obtain ⟨y, rfl⟩ := hx.ew
        have e25 : a'.tmps[25]?.getD undef = .bool true := hd 1 25 rfl rfl
        clear hs hd
        refine ⟨rfl, ?_⟩
        go_simp
        exact ⟨by (repeat (first | with_reducible exact Ext.refl _ _ | assumption | with_reducible refine Ext.upN ?_ | with_reducible refine Ext.alloc ?_ _ | with_reducible refine Ext.upA (by assumption) ?_ | with_reducible refine Ext.upW ?_ | with_reducible refine Ext.drew ?_ | with_reducible refine Ext.drewN ?_ _ | with_reducible refine Ext.upF ?_ | with_reducible refine Ext.upFF (by first | omega | simp) ?_ | with_reducible refine Ext.setCellsF _ _ _ (by first | omega | simp) ?_ | with_reducible refine Ext.setCellF _ _ _ (by first | omega | simp) ?_ | with_reducible refine Ext.upFN (by first | omega | simp) ?_ | with_reducible refine Ext.up1F (by first | omega | simp) ?_ | with_reducible refine Ext.up1N (by first | omega | simp) ?_ | with_reducible refine Ext.setCell ?_ (.inr (by first | omega | simp)) _ | refine Ext.alloc ?_ _ | refine Ext.setCellF _ _ _ (by first | omega | simp) ?_ | refine Ext.setCell ?_ (.inr (by first | omega | simp)) _)), rfl⟩
      · intro a' w' hx hs hd
        obtain ⟨y, rfl⟩ := hx.ew
        have e3 : a'.tmps[3]?.getD undef = .slice (some ⟨rb, ro, none⟩) 3 rcap := hs 3 rfl
        have eg : a'.tmps[26]?.getD undef = .bool true := hd 2 26 rfl rfl
        refine ⟨wanted_of (j := 2) (d := 26) rfl rfl eg, ?_⟩
        clear hs hd eg
        go_simp
        exact ⟨by (repeat (first | with_reducible exact Ext.refl _ _ | assumption | with_reducible refine Ext.upN ?_ | with_reducible refine Ext.alloc ?_ _ | with_reducible refine Ext.upA (by assumption) ?_ | with_reducible refine Ext.upW ?_ | with_reducible refine Ext.drew ?_ | with_reducible refine Ext.drewN ?_ _ | with_reducible refine Ext.upF ?_ | with_reducible refine Ext.upFF (by first | omega | simp) ?_ | with_reducible refine Ext.setCellsF _ _ _ (by first | omega | simp) ?_ | with_reducible refine Ext.setCellF _ _ _ (by first | omega | simp) ?_ | with_reducible refine Ext.upFN (by first | omega | simp) ?_ | with_reducible refine Ext.up1F (by first | omega | simp) ?_ | with_reducible refine Ext.up1N (by first | omega | simp) ?_ | with_reducible refine Ext.setCell ?_ (.inr (by first | omega | simp)) _ | refine Ext.alloc ?_ _ | refine Ext.setCellF _ _ _ (by first | omega | simp) ?_ | refine Ext.setCell ?_ (.inr (by first | omega | simp)) _)), rfl⟩
      · intro a' w' hx hs hd
        obtain ⟨y, rfl⟩ := hx.ew
        have e27 : a'.tmps[27]?.getD undef = .slice (some ⟨rb, ro, none⟩) 3 rcap := hd 3 27 rfl rfl
        have eg : a'.tmps[26]?.getD undef = .bool true := hd 2 26 rfl rfl
        refine ⟨wanted_of (j := 2) (d := 26) rfl rfl eg, ?_⟩
        clear hs hd eg
        go_simp
        exact ⟨by (repeat (first | with_reducible exact Ext.refl _ _ | assumption | with_reducible refine Ext.upN ?_ | with_reducible refine Ext.alloc ?_ _ | with_reducible refine Ext.upA (by assumption) ?_ | with_reducible refine Ext.upW ?_ | with_reducible refine Ext.drew ?_ | with_reducible refine Ext.drewN ?_ _ | with_reducible refine Ext.upF ?_ | with_reducible refine Ext.upFF (by first | omega | simp) ?_ | with_reducible refine Ext.setCellsF _ _ _ (by first | omega | simp) ?_ | with_reducible refine Ext.setCellF _ _ _ (by first | omega | simp) ?_ | with_reducible refine Ext.upFN (by first | omega | simp) ?_ | with_reducible refine Ext.up1F (by first | omega | simp) ?_ | with_reducible refine Ext.up1N (by first | omega | simp) ?_ | with_reducible refine Ext.setCell ?_ (.inr (by first | omega | simp)) _ | refine Ext.alloc ?_ _ | refine Ext.setCellF _ _ _ (by first | omega | simp) ?_ | refine Ext.setCell ?_ (.inr (by first | omega | simp)) _)), rfl⟩
      · intro a' w' hx hs hd
        obtain ⟨y, rfl⟩ := hx.ew
        have e28 : a'.tmps[28]?.getD undef = .int .i64 3 := hd 4 28 rfl rfl
        have eg : a'.tmps[26]?.getD undef = .bool true := hd 2 26 rfl rfl
        refine ⟨wanted_of (j := 2) (d := 26) rfl rfl eg, ?_⟩
        clear hs hd eg
        go_simp
        exact ⟨by (repeat (first | with_reducible exact Ext.refl _ _ | assumption | with_reducible refine Ext.upN ?_ | with_reducible refine Ext.alloc ?_ _ | with_reducible refine Ext.upA (by assumption) ?_ | with_reducible refine Ext.upW ?_ | with_reducible refine Ext.drew ?_ | with_reducible refine Ext.drewN ?_ _ | with_reducible refine Ext.upF ?_ | with_reducible refine Ext.upFF (by first | omega | simp) ?_ | with_reducible refine Ext.setCellsF _ _ _ (by first | omega | simp) ?_ | with_reducible refine Ext.setCellF _ _ _ (by first | omega | simp) ?_ | with_reducible refine Ext.upFN (by first | omega | simp) ?_ | with_reducible refine Ext.up1F (by first | omega | simp) ?_ | with_reducible refine Ext.up1N (by first | omega | simp) ?_ | with_reducible refine Ext.setCell ?_ (.inr (by first | omega | simp)) _ | refine Ext.alloc ?_ _ | refine Ext.setCellF _ _ _ (by first | omega | simp) ?_ | refine Ext.setCell ?_ (.inr (by first | omega | simp)) _)), rfl⟩
      · intro a' w' hx hs hd
        obtain ⟨y, rfl⟩ := hx.ew
        have e26 : a'.tmps[26]?.getD undef = .bool true := hd 2 26 rfl rfl
        have e29 : a'.tmps[29]?.getD undef = .bool true := hd 5 29 rfl rfl
        clear hs hd
        refine ⟨rfl, ?_⟩
        go_simp
        exact ⟨by (repeat (first | with_reducible exact Ext.refl _ _ | assumption | with_reducible refine Ext.upN ?_ | with_reducible refine Ext.alloc ?_ _ | with_reducible refine Ext.upA (by assumption) ?_ | with_reducible refine Ext.upW ?_ | with_reducible refine Ext.drew ?_ | with_reducible refine Ext.drewN ?_ _ | with_reducible refine Ext.upF ?_ | with_reducible refine Ext.upFF (by first | omega | simp) ?_ | with_reducible refine Ext.setCellsF _ _ _ (by first | omega | simp) ?_ | with_reducible refine Ext.setCellF _ _ _ (by first | omega | simp) ?_ | with_reducible refine Ext.upFN (by first | omega | simp) ?_ | with_reducible refine Ext.up1F (by first | omega | simp) ?_ | with_reducible refine Ext.up1N (by first | omega | simp) ?_ | with_reducible refine Ext.setCell ?_ (.inr (by first | omega | simp)) _ | refine Ext.alloc ?_ _ | refine Ext.setCellF _ _ _ (by first | omega | simp) ?_ | refine Ext.setCell ?_ (.inr (by first | omega | simp)) _)), rfl⟩
      · intro a' w' hx hs hd
        obtain ⟨y, rfl⟩ := hx.ew
        have e30 : a'.tmps[30]?.getD undef = .bool true := hd 6 30 rfl rfl
        clear hs hd
        refine ⟨rfl, ?_⟩
        go_simp
        exact ⟨by (repeat (first | with_reducible exact Ext.refl _ _ | assumption | with_reducible refine Ext.upN ?_ | with_reducible refine Ext.alloc ?_ _ | with_reducible refine Ext.upA (by assumption) ?_ | with_reducible refine Ext.upW ?_ | with_reducible refine Ext.drew ?_ | with_reducible refine Ext.drewN ?_ _ | with_reducible refine Ext.upF ?_ | with_reducible refine Ext.upFF (by first | omega | simp) ?_ | with_reducible refine Ext.setCellsF _ _ _ (by first | omega | simp) ?_ | with_reducible refine Ext.setCellF _ _ _ (by first | omega | simp) ?_ | with_reducible refine Ext.upFN (by first | omega | simp) ?_ | with_reducible refine Ext.up1F (by first | omega | simp) ?_ | with_reducible refine Ext.up1N (by first | omega | simp) ?_ | with_reducible refine Ext.setCell ?_ (.inr (by first | omega | simp)) _ | refine Ext.alloc ?_ _ | refine Ext.setCellF _ _ _ (by first | omega | simp) ?_ | refine Ext.setCell ?_ (.inr (by first | omega | simp)) _)), rfl⟩
      · intro a' w' hx hs hd
        obtain ⟨y, rfl⟩ := hx.ew
        have e3 : a'.tmps[3]?.getD undef = .slice (some ⟨rb, ro, none⟩) 3 rcap := hs 3 rfl
        have eg : a'.tmps[31]?.getD undef = .bool true := hd 7 31 rfl rfl
        refine ⟨wanted_of (j := 7) (d := 31) rfl rfl eg, ?_⟩
        clear hs hd eg
        go_simp
        exact ⟨by (repeat (first | with_reducible exact Ext.refl _ _ | assumption | with_reducible refine Ext.upN ?_ | with_reducible refine Ext.alloc ?_ _ | with_reducible refine Ext.upA (by assumption) ?_ | with_reducible refine Ext.upW ?_ | with_reducible refine Ext.drew ?_ | with_reducible refine Ext.drewN ?_ _ | with_reducible refine Ext.upF ?_ | with_reducible refine Ext.upFF (by first | omega | simp) ?_ | with_reducible refine Ext.setCellsF _ _ _ (by first | omega | simp) ?_ | with_reducible refine Ext.setCellF _ _ _ (by first | omega | simp) ?_ | with_reducible refine Ext.upFN (by first | omega | simp) ?_ | with_reducible refine Ext.up1F (by first | omega | simp) ?_ | with_reducible refine Ext.up1N (by first | omega | simp) ?_ | with_reducible refine Ext.setCell ?_ (.inr (by first | omega | simp)) _ | refine Ext.alloc ?_ _ | refine Ext.setCellF _ _ _ (by first | omega | simp) ?_ | refine Ext.setCell ?_ (.inr (by first | omega | simp)) _)), rfl⟩
      · intro a' w' hx hs hd
        obtain ⟨y, rfl⟩ := hx.ew
        have e32 : a'.tmps[32]?.getD undef = .slice (some ⟨rb, ro, none⟩) 3 rcap := hd 8 32 rfl rfl
        have eg : a'.tmps[31]?.getD undef = .bool true := hd 7 31 rfl rfl
        refine ⟨wanted_of (j := 7) (d := 31) rfl rfl eg, ?_⟩
        clear hs hd eg
        go_simp
        exact ⟨by (repeat (first | with_reducible exact Ext.refl _ _ | assumption | with_reducible refine Ext.upN ?_ | with_reducible refine Ext.alloc ?_ _ | with_reducible refine Ext.upA (by assumption) ?_ | with_reducible refine Ext.upW ?_ | with_reducible refine Ext.drew ?_ | with_reducible refine Ext.drewN ?_ _ | with_reducible refine Ext.upF ?_ | with_reducible refine Ext.upFF (by first | omega | simp) ?_ | with_reducible refine Ext.setCellsF _ _ _ (by first | omega | simp) ?_ | with_reducible refine Ext.setCellF _ _ _ (by first | omega | simp) ?_ | with_reducible refine Ext.upFN (by first | omega | simp) ?_ | with_reducible refine Ext.up1F (by first | omega | simp) ?_ | with_reducible refine Ext.up1N (by first | omega | simp) ?_ | with_reducible refine Ext.setCell ?_ (.inr (by first | omega | simp)) _ | refine Ext.alloc ?_ _ | refine Ext.setCellF _ _ _ (by first | omega | simp) ?_ | refine Ext.setCell ?_ (.inr (by first | omega | simp)) _)), rfl⟩
      · intro a' w' hx hs hd
        obtain ⟨y, rfl⟩ := hx.ew
        have e33 : a'.tmps[33]?.getD undef = .pointer (some ⟨rb, ro, none⟩) := hd 9 33 rfl rfl
        have eg : a'.tmps[31]?.getD undef = .bool true := hd 7 31 rfl rfl
        refine ⟨wanted_of (j := 7) (d := 31) rfl rfl eg, ?_⟩
        clear hs hd eg
        go_simp
        exact ⟨by (repeat (first | with_reducible exact Ext.refl _ _ | assumption | with_reducible refine Ext.upN ?_ | with_reducible refine Ext.alloc ?_ _ | with_reducible refine Ext.upA (by assumption) ?_ | with_reducible refine Ext.upW ?_ | with_reducible refine Ext.drew ?_ | with_reducible refine Ext.drewN ?_ _ | with_reducible refine Ext.upF ?_ | with_reducible refine Ext.upFF (by first | omega | simp) ?_ | with_reducible refine Ext.setCellsF _ _ _ (by first | omega | simp) ?_ | with_reducible refine Ext.setCellF _ _ _ (by first | omega | simp) ?_ | with_reducible refine Ext.upFN (by first | omega | simp) ?_ | with_reducible refine Ext.up1F (by first | omega | simp) ?_ | with_reducible refine Ext.up1N (by first | omega | simp) ?_ | with_reducible refine Ext.setCell ?_ (.inr (by first | omega | simp)) _ | refine Ext.alloc ?_ _ | refine Ext.setCellF _ _ _ (by first | omega | simp) ?_ | refine Ext.setCell ?_ (.inr (by first | omega | simp)) _)), rfl⟩
      · intro a' w' hx hs hd
        obtain ⟨y, rfl⟩ := hx.ew
        have e34 : a'.tmps[34]?.getD undef = .agg #[.int .i64 0, .int .i64 0, .int .i64 0, .string ByteArray.empty, .float .f64 0, .int .i64 0] := hd 10 34 rfl rfl
        have eg : a'.tmps[31]?.getD undef = .bool true := hd 7 31 rfl rfl
        refine ⟨wanted_of (j := 7) (d := 31) rfl rfl eg, ?_⟩
        clear hs hd eg
        go_simp
        exact (ref_Null 0 0 0 ByteArray.empty 0 0 _).mono (fun e w'' ⟨he, hx⟩ => ⟨_, he, hx, rfl⟩)
      · intro a' w' hx hs hd
        obtain ⟨y, rfl⟩ := hx.ew
        have e31 : a'.tmps[31]?.getD undef = .bool true := hd 7 31 rfl rfl
        have e35 : a'.tmps[35]?.getD undef = .bool true := hd 11 35 rfl rfl
        clear hs hd
        refine ⟨rfl, ?_⟩
        go_simp
        exact ⟨by (repeat (first | with_reducible exact Ext.refl _ _ | assumption | with_reducible refine Ext.upN ?_ | with_reducible refine Ext.alloc ?_ _ | with_reducible refine Ext.upA (by assumption) ?_ | with_reducible refine Ext.upW ?_ | with_reducible refine Ext.drew ?_ | with_reducible refine Ext.drewN ?_ _ | with_reducible refine Ext.upF ?_ | with_reducible refine Ext.upFF (by first | omega | simp) ?_ | with_reducible refine Ext.setCellsF _ _ _ (by first | omega | simp) ?_ | with_reducible refine Ext.setCellF _ _ _ (by first | omega | simp) ?_ | with_reducible refine Ext.upFN (by first | omega | simp) ?_ | with_reducible refine Ext.up1F (by first | omega | simp) ?_ | with_reducible refine Ext.up1N (by first | omega | simp) ?_ | with_reducible refine Ext.setCell ?_ (.inr (by first | omega | simp)) _ | refine Ext.alloc ?_ _ | refine Ext.setCellF _ _ _ (by first | omega | simp) ?_ | refine Ext.setCell ?_ (.inr (by first | omega | simp)) _)), rfl⟩
      · intro a' w' hx hs hd
        obtain ⟨y, rfl⟩ := hx.ew
        have e36 : a'.tmps[36]?.getD undef = .bool true := hd 12 36 rfl rfl
        clear hs hd
        refine ⟨rfl, ?_⟩
        go_simp
        exact ⟨by (repeat (first | with_reducible exact Ext.refl _ _ | assumption | with_reducible refine Ext.upN ?_ | with_reducible refine Ext.alloc ?_ _ | with_reducible refine Ext.upA (by assumption) ?_ | with_reducible refine Ext.upW ?_ | with_reducible refine Ext.drew ?_ | with_reducible refine Ext.drewN ?_ _ | with_reducible refine Ext.upF ?_ | with_reducible refine Ext.upFF (by first | omega | simp) ?_ | with_reducible refine Ext.setCellsF _ _ _ (by first | omega | simp) ?_ | with_reducible refine Ext.setCellF _ _ _ (by first | omega | simp) ?_ | with_reducible refine Ext.upFN (by first | omega | simp) ?_ | with_reducible refine Ext.up1F (by first | omega | simp) ?_ | with_reducible refine Ext.up1N (by first | omega | simp) ?_ | with_reducible refine Ext.setCell ?_ (.inr (by first | omega | simp)) _ | refine Ext.alloc ?_ _ | refine Ext.setCellF _ _ _ (by first | omega | simp) ?_ | refine Ext.setCell ?_ (.inr (by first | omega | simp)) _)), rfl⟩
      · intro a' w' hx hs hd
        obtain ⟨y, rfl⟩ := hx.ew
        have e3 : a'.tmps[3]?.getD undef = .slice (some ⟨rb, ro, none⟩) 3 rcap := hs 3 rfl
        have eg : a'.tmps[37]?.getD undef = .bool true := hd 13 37 rfl rfl
        refine ⟨wanted_of (j := 13) (d := 37) rfl rfl eg, ?_⟩
        clear hs hd eg
        go_simp
        exact ⟨by (repeat (first | with_reducible exact Ext.refl _ _ | assumption | with_reducible refine Ext.upN ?_ | with_reducible refine Ext.alloc ?_ _ | with_reducible refine Ext.upA (by assumption) ?_ | with_reducible refine Ext.upW ?_ | with_reducible refine Ext.drew ?_ | with_reducible refine Ext.drewN ?_ _ | with_reducible refine Ext.upF ?_ | with_reducible refine Ext.upFF (by first | omega | simp) ?_ | with_reducible refine Ext.setCellsF _ _ _ (by first | omega | simp) ?_ | with_reducible refine Ext.setCellF _ _ _ (by first | omega | simp) ?_ | with_reducible refine Ext.upFN (by first | omega | simp) ?_ | with_reducible refine Ext.up1F (by first | omega | simp) ?_ | with_reducible refine Ext.up1N (by first | omega | simp) ?_ | with_reducible refine Ext.setCell ?_ (.inr (by first | omega | simp)) _ | refine Ext.alloc ?_ _ | refine Ext.setCellF _ _ _ (by first | omega | simp) ?_ | refine Ext.setCell ?_ (.inr (by first | omega | simp)) _)), rfl⟩
      · intro a' w' hx hs hd
        obtain ⟨y, rfl⟩ := hx.ew
        have e38 : a'.tmps[38]?.getD undef = .slice (some ⟨rb, ro, none⟩) 3 rcap := hd 14 38 rfl rfl
        have eg : a'.tmps[37]?.getD undef = .bool true := hd 13 37 rfl rfl
        refine ⟨wanted_of (j := 13) (d := 37) rfl rfl eg, ?_⟩
        clear hs hd eg
        go_simp
        exact ⟨by (repeat (first | with_reducible exact Ext.refl _ _ | assumption | with_reducible refine Ext.upN ?_ | with_reducible refine Ext.alloc ?_ _ | with_reducible refine Ext.upA (by assumption) ?_ | with_reducible refine Ext.upW ?_ | with_reducible refine Ext.drew ?_ | with_reducible refine Ext.drewN ?_ _ | with_reducible refine Ext.upF ?_ | with_reducible refine Ext.upFF (by first | omega | simp) ?_ | with_reducible refine Ext.setCellsF _ _ _ (by first | omega | simp) ?_ | with_reducible refine Ext.setCellF _ _ _ (by first | omega | simp) ?_ | with_reducible refine Ext.upFN (by first | omega | simp) ?_ | with_reducible refine Ext.up1F (by first | omega | simp) ?_ | with_reducible refine Ext.up1N (by first | omega | simp) ?_ | with_reducible refine Ext.setCell ?_ (.inr (by first | omega | simp)) _ | refine Ext.alloc ?_ _ | refine Ext.setCellF _ _ _ (by first | omega | simp) ?_ | refine Ext.setCell ?_ (.inr (by first | omega | simp)) _)), rfl⟩
      · intro a' w' hx hs hd
        obtain ⟨y, rfl⟩ := hx.ew
        have e39 : a'.tmps[39]?.getD undef = .pointer (some ⟨rb, ro + 12, none⟩) := hd 15 39 rfl rfl
        have eg : a'.tmps[37]?.getD undef = .bool true := hd 13 37 rfl rfl
        refine ⟨wanted_of (j := 13) (d := 37) rfl rfl eg, ?_⟩
        clear hs hd eg
        go_simp
        exact ⟨by (repeat (first | with_reducible exact Ext.refl _ _ | assumption | with_reducible refine Ext.upN ?_ | with_reducible refine Ext.alloc ?_ _ | with_reducible refine Ext.upA (by assumption) ?_ | with_reducible refine Ext.upW ?_ | with_reducible refine Ext.drew ?_ | with_reducible refine Ext.drewN ?_ _ | with_reducible refine Ext.upF ?_ | with_reducible refine Ext.upFF (by first | omega | simp) ?_ | with_reducible refine Ext.setCellsF _ _ _ (by first | omega | simp) ?_ | with_reducible refine Ext.setCellF _ _ _ (by first | omega | simp) ?_ | with_reducible refine Ext.upFN (by first | omega | simp) ?_ | with_reducible refine Ext.up1F (by first | omega | simp) ?_ | with_reducible refine Ext.up1N (by first | omega | simp) ?_ | with_reducible refine Ext.setCell ?_ (.inr (by first | omega | simp)) _ | refine Ext.alloc ?_ _ | refine Ext.setCellF _ _ _ (by first | omega | simp) ?_ | refine Ext.setCell ?_ (.inr (by first | omega | simp)) _)), rfl⟩
      · intro a' w' hx hs hd
        obtain ⟨y, rfl⟩ := hx.ew
        have e1 : a'.tmps[1]?.getD undef = .pointer (some ⟨w.heap.size, 0, none⟩) := hs 1 rfl
        have eg : a'.tmps[37]?.getD undef = .bool true := hd 13 37 rfl rfl
        refine ⟨wanted_of (j := 13) (d := 37) rfl rfl eg, ?_⟩
        clear hs hd eg
        go_simp
        exact ⟨by (repeat (first | with_reducible exact Ext.refl _ _ | assumption | with_reducible refine Ext.upN ?_ | with_reducible refine Ext.alloc ?_ _ | with_reducible refine Ext.upA (by assumption) ?_ | with_reducible refine Ext.upW ?_ | with_reducible refine Ext.drew ?_ | with_reducible refine Ext.drewN ?_ _ | with_reducible refine Ext.upF ?_ | with_reducible refine Ext.upFF (by first | omega | simp) ?_ | with_reducible refine Ext.setCellsF _ _ _ (by first | omega | simp) ?_ | with_reducible refine Ext.setCellF _ _ _ (by first | omega | simp) ?_ | with_reducible refine Ext.upFN (by first | omega | simp) ?_ | with_reducible refine Ext.up1F (by first | omega | simp) ?_ | with_reducible refine Ext.up1N (by first | omega | simp) ?_ | with_reducible refine Ext.setCell ?_ (.inr (by first | omega | simp)) _ | refine Ext.alloc ?_ _ | refine Ext.setCellF _ _ _ (by first | omega | simp) ?_ | refine Ext.setCell ?_ (.inr (by first | omega | simp)) _)), rfl⟩
      · intro a' w' hx hs hd
        obtain ⟨y, rfl⟩ := hx.ew
        have e40 : a'.tmps[40]?.getD undef = .agg #[.int .i64 1, .int .i64 1, .int .i64 6, .string ByteArray.empty, .float .f64 0, .int .i64 7] := hd 16 40 rfl rfl
        have e41 : a'.tmps[41]?.getD undef = .agg #[.int .i64 1, .int .i64 1, .int .i64 6, .string ByteArray.empty, .float .f64 0, .int .i64 7] := hd 17 41 rfl rfl
        have eg : a'.tmps[37]?.getD undef = .bool true := hd 13 37 rfl rfl
        refine ⟨wanted_of (j := 13) (d := 37) rfl rfl eg, ?_⟩
        clear hs hd eg
        go_simp
        exact (ref11_Same 1 1 6 ByteArray.empty 0 7 1 1 6 ByteArray.empty 0 7 rL_ok rL_ok _).mono (fun e w'' ⟨he, hx⟩ => ⟨_, he, hx, congrArg Value.bool lives_same⟩)
      · intro a' w' hx hs hd
        obtain ⟨y, rfl⟩ := hx.ew
        have e37 : a'.tmps[37]?.getD undef = .bool true := hd 13 37 rfl rfl
        have e42 : a'.tmps[42]?.getD undef = .bool true := hd 18 42 rfl rfl
        clear hs hd
        refine ⟨rfl, ?_⟩
        go_simp
        exact ⟨by (repeat (first | with_reducible exact Ext.refl _ _ | assumption | with_reducible refine Ext.upN ?_ | with_reducible refine Ext.alloc ?_ _ | with_reducible refine Ext.upA (by assumption) ?_ | with_reducible refine Ext.upW ?_ | with_reducible refine Ext.drew ?_ | with_reducible refine Ext.drewN ?_ _ | with_reducible refine Ext.upF ?_ | with_reducible refine Ext.upFF (by first | omega | simp) ?_ | with_reducible refine Ext.setCellsF _ _ _ (by first | omega | simp) ?_ | with_reducible refine Ext.setCellF _ _ _ (by first | omega | simp) ?_ | with_reducible refine Ext.upFN (by first | omega | simp) ?_ | with_reducible refine Ext.up1F (by first | omega | simp) ?_ | with_reducible refine Ext.up1N (by first | omega | simp) ?_ | with_reducible refine Ext.setCell ?_ (.inr (by first | omega | simp)) _ | refine Ext.alloc ?_ _ | refine Ext.setCellF _ _ _ (by first | omega | simp) ?_ | refine Ext.setCell ?_ (.inr (by first | omega | simp)) _)), rfl⟩
      · intro a' w' hx hs hd
        obtain ⟨y, rfl⟩ := hx.ew
        have e43 : a'.tmps[43]?.getD undef = .bool true := hd 19 43 rfl rfl
        clear hs hd
        refine ⟨rfl, ?_⟩
        go_simp
        exact ⟨by (repeat (first | with_reducible exact Ext.refl _ _ | assumption | with_reducible refine Ext.upN ?_ | with_reducible refine Ext.alloc ?_ _ | with_reducible refine Ext.upA (by assumption) ?_ | with_reducible refine Ext.upW ?_ | with_reducible refine Ext.drew ?_ | with_reducible refine Ext.drewN ?_ _ | with_reducible refine Ext.upF ?_ | with_reducible refine Ext.upFF (by first | omega | simp) ?_ | with_reducible refine Ext.setCellsF _ _ _ (by first | omega | simp) ?_ | with_reducible refine Ext.setCellF _ _ _ (by first | omega | simp) ?_ | with_reducible refine Ext.upFN (by first | omega | simp) ?_ | with_reducible refine Ext.up1F (by first | omega | simp) ?_ | with_reducible refine Ext.up1N (by first | omega | simp) ?_ | with_reducible refine Ext.setCell ?_ (.inr (by first | omega | simp)) _ | refine Ext.alloc ?_ _ | refine Ext.setCellF _ _ _ (by first | omega | simp) ?_ | refine Ext.setCell ?_ (.inr (by first | omega | simp)) _)), rfl⟩
      · intro a' w' hx hs hd
        obtain ⟨y, rfl⟩ := hx.ew
        have eg : a'.tmps[44]?.getD undef = .bool true := hd 20 44 rfl rfl
        refine ⟨wanted_of (j := 20) (d := 44) rfl rfl eg, ?_⟩
        clear hs hd eg
        go_simp
        exact (law16_four _).mono (fun e w'' ⟨b, he, hI, hx⟩ => ⟨_, he, hx, b, rfl, hI⟩)
      · intro a' w' hx hs hd
        obtain ⟨y, rfl⟩ := hx.ew
        have e2 : a'.tmps[2]?.getD undef = .slice (some ⟨g, 0, none⟩) 3 3 := hs 2 rfl
        have eg : a'.tmps[44]?.getD undef = .bool true := hd 20 44 rfl rfl
        refine ⟨wanted_of (j := 20) (d := 44) rfl rfl eg, ?_⟩
        clear hs hd eg
        go_simp
        exact ⟨by (repeat (first | with_reducible exact Ext.refl _ _ | assumption | with_reducible refine Ext.upN ?_ | with_reducible refine Ext.alloc ?_ _ | with_reducible refine Ext.upA (by assumption) ?_ | with_reducible refine Ext.upW ?_ | with_reducible refine Ext.drew ?_ | with_reducible refine Ext.drewN ?_ _ | with_reducible refine Ext.upF ?_ | with_reducible refine Ext.upFF (by first | omega | simp) ?_ | with_reducible refine Ext.setCellsF _ _ _ (by first | omega | simp) ?_ | with_reducible refine Ext.setCellF _ _ _ (by first | omega | simp) ?_ | with_reducible refine Ext.upFN (by first | omega | simp) ?_ | with_reducible refine Ext.up1F (by first | omega | simp) ?_ | with_reducible refine Ext.up1N (by first | omega | simp) ?_ | with_reducible refine Ext.setCell ?_ (.inr (by first | omega | simp)) _ | refine Ext.alloc ?_ _ | refine Ext.setCellF _ _ _ (by first | omega | simp) ?_ | refine Ext.setCell ?_ (.inr (by first | omega | simp)) _)), rfl⟩
      · intro a' w' hx hs hd
        obtain ⟨y, rfl⟩ := hx.ew
        have e46 : a'.tmps[46]?.getD undef = .slice (some ⟨g, 0, none⟩) 3 3 := hd 22 46 rfl rfl
        have eg : a'.tmps[44]?.getD undef = .bool true := hd 20 44 rfl rfl
        refine ⟨wanted_of (j := 20) (d := 44) rfl rfl eg, ?_⟩
        clear hs hd eg
        go_simp
        exact ⟨by (repeat (first | with_reducible exact Ext.refl _ _ | assumption | with_reducible refine Ext.upN ?_ | with_reducible refine Ext.alloc ?_ _ | with_reducible refine Ext.upA (by assumption) ?_ | with_reducible refine Ext.upW ?_ | with_reducible refine Ext.drew ?_ | with_reducible refine Ext.drewN ?_ _ | with_reducible refine Ext.upF ?_ | with_reducible refine Ext.upFF (by first | omega | simp) ?_ | with_reducible refine Ext.setCellsF _ _ _ (by first | omega | simp) ?_ | with_reducible refine Ext.setCellF _ _ _ (by first | omega | simp) ?_ | with_reducible refine Ext.upFN (by first | omega | simp) ?_ | with_reducible refine Ext.up1F (by first | omega | simp) ?_ | with_reducible refine Ext.up1N (by first | omega | simp) ?_ | with_reducible refine Ext.setCell ?_ (.inr (by first | omega | simp)) _ | refine Ext.alloc ?_ _ | refine Ext.setCellF _ _ _ (by first | omega | simp) ?_ | refine Ext.setCell ?_ (.inr (by first | omega | simp)) _)), rfl⟩
      · intro a' w' hx hs hd
        obtain ⟨y, rfl⟩ := hx.ew
        have e47 : a'.tmps[47]?.getD undef = .pointer (some ⟨g, 5, none⟩) := hd 23 47 rfl rfl
        have eg : a'.tmps[44]?.getD undef = .bool true := hd 20 44 rfl rfl
        refine ⟨wanted_of (j := 20) (d := 44) rfl rfl eg, ?_⟩
        clear hs hd eg
        go_simp
        exact ⟨by (repeat (first | with_reducible exact Ext.refl _ _ | assumption | with_reducible refine Ext.upN ?_ | with_reducible refine Ext.alloc ?_ _ | with_reducible refine Ext.upA (by assumption) ?_ | with_reducible refine Ext.upW ?_ | with_reducible refine Ext.drew ?_ | with_reducible refine Ext.drewN ?_ _ | with_reducible refine Ext.upF ?_ | with_reducible refine Ext.upFF (by first | omega | simp) ?_ | with_reducible refine Ext.setCellsF _ _ _ (by first | omega | simp) ?_ | with_reducible refine Ext.setCellF _ _ _ (by first | omega | simp) ?_ | with_reducible refine Ext.upFN (by first | omega | simp) ?_ | with_reducible refine Ext.up1F (by first | omega | simp) ?_ | with_reducible refine Ext.up1N (by first | omega | simp) ?_ | with_reducible refine Ext.setCell ?_ (.inr (by first | omega | simp)) _ | refine Ext.alloc ?_ _ | refine Ext.setCellF _ _ _ (by first | omega | simp) ?_ | refine Ext.setCell ?_ (.inr (by first | omega | simp)) _)), rfl⟩
      · intro a' w' hx hs hd
        obtain ⟨y, rfl⟩ := hx.ew
        obtain ⟨b, e45, hI⟩ : ∃ b, a'.tmps[45]?.getD undef = .agg #[.int .i64 0, .slice (some ⟨b, 0, none⟩) 4 4] ∧ Ints y.on (some ⟨b, 0, none⟩) 4 [0, 1, 2, 3] := hd 21 45 rfl rfl
        have e48 : a'.tmps[48]?.getD undef = .agg #[.int .i64 1, .int .i64 1, .slice ca 1 cc, .int .i64 1, .string (txL 1 [ctL])] := hd 24 48 rfl rfl
        have eg : a'.tmps[44]?.getD undef = .bool true := hd 20 44 rfl rfl
        refine ⟨wanted_of (j := 20) (d := 44) rfl rfl eg, ?_⟩
        clear hs hd eg
        have HI := Go.Lib.hid hI; clear hI
        go_simp
        exact (change_Right 0 (some ⟨b, 0, none⟩) 4 [0, 1, 2, 3] 1 1 1 (txL 1 [ctL]) ca cc [ctL] (i64_lit (by decide) (by decide)) (i64_lit (by decide) (by decide)) (i64_lit (by decide) (by decide)) _ HI.out (HCc.out.extN (by (repeat (first | with_reducible exact Ext.refl _ _ | assumption | with_reducible refine Ext.upN ?_ | with_reducible refine Ext.alloc ?_ _ | with_reducible refine Ext.upA (by assumption) ?_ | with_reducible refine Ext.upW ?_ | with_reducible refine Ext.drew ?_ | with_reducible refine Ext.drewN ?_ _ | with_reducible refine Ext.upF ?_ | with_reducible refine Ext.upFF (by first | omega | simp) ?_ | with_reducible refine Ext.setCellsF _ _ _ (by first | omega | simp) ?_ | with_reducible refine Ext.setCellF _ _ _ (by first | omega | simp) ?_ | with_reducible refine Ext.upFN (by first | omega | simp) ?_ | with_reducible refine Ext.up1F (by first | omega | simp) ?_ | with_reducible refine Ext.up1N (by first | omega | simp) ?_ | with_reducible refine Ext.setCell ?_ (.inr (by first | omega | simp)) _ | refine Ext.alloc ?_ _ | refine Ext.setCellF _ _ _ (by first | omega | simp) ?_ | refine Ext.setCell ?_ (.inr (by first | omega | simp)) _))))).mono (fun e w'' ⟨he, hx⟩ => ⟨_, he, hx, congrArg (Value.int .i64) lives_right⟩)
      · intro a' w' hx hs hd
        obtain ⟨y, rfl⟩ := hx.ew
        have e49 : a'.tmps[49]?.getD undef = .int .i64 0 := hd 25 49 rfl rfl
        have eg : a'.tmps[44]?.getD undef = .bool true := hd 20 44 rfl rfl
        refine ⟨wanted_of (j := 20) (d := 44) rfl rfl eg, ?_⟩
        clear hs hd eg
        go_simp
        exact ⟨by (repeat (first | with_reducible exact Ext.refl _ _ | assumption | with_reducible refine Ext.upN ?_ | with_reducible refine Ext.alloc ?_ _ | with_reducible refine Ext.upA (by assumption) ?_ | with_reducible refine Ext.upW ?_ | with_reducible refine Ext.drew ?_ | with_reducible refine Ext.drewN ?_ _ | with_reducible refine Ext.upF ?_ | with_reducible refine Ext.upFF (by first | omega | simp) ?_ | with_reducible refine Ext.setCellsF _ _ _ (by first | omega | simp) ?_ | with_reducible refine Ext.setCellF _ _ _ (by first | omega | simp) ?_ | with_reducible refine Ext.upFN (by first | omega | simp) ?_ | with_reducible refine Ext.up1F (by first | omega | simp) ?_ | with_reducible refine Ext.up1N (by first | omega | simp) ?_ | with_reducible refine Ext.setCell ?_ (.inr (by first | omega | simp)) _ | refine Ext.alloc ?_ _ | refine Ext.setCellF _ _ _ (by first | omega | simp) ?_ | refine Ext.setCell ?_ (.inr (by first | omega | simp)) _)), rfl⟩
      · intro a' w' hx hs hd
        obtain ⟨y, rfl⟩ := hx.ew
        have e44 : a'.tmps[44]?.getD undef = .bool true := hd 20 44 rfl rfl
        have e50 : a'.tmps[50]?.getD undef = .bool true := hd 26 50 rfl rfl
        clear hs hd
        refine ⟨rfl, ?_⟩
        go_simp
        exact ⟨by (repeat (first | with_reducible exact Ext.refl _ _ | assumption | with_reducible refine Ext.upN ?_ | with_reducible refine Ext.alloc ?_ _ | with_reducible refine Ext.upA (by assumption) ?_ | with_reducible refine Ext.upW ?_ | with_reducible refine Ext.drew ?_ | with_reducible refine Ext.drewN ?_ _ | with_reducible refine Ext.upF ?_ | with_reducible refine Ext.upFF (by first | omega | simp) ?_ | with_reducible refine Ext.setCellsF _ _ _ (by first | omega | simp) ?_ | with_reducible refine Ext.setCellF _ _ _ (by first | omega | simp) ?_ | with_reducible refine Ext.upFN (by first | omega | simp) ?_ | with_reducible refine Ext.up1F (by first | omega | simp) ?_ | with_reducible refine Ext.up1N (by first | omega | simp) ?_ | with_reducible refine Ext.setCell ?_ (.inr (by first | omega | simp)) _ | refine Ext.alloc ?_ _ | refine Ext.setCellF _ _ _ (by first | omega | simp) ?_ | refine Ext.setCell ?_ (.inr (by first | omega | simp)) _)), rfl⟩
      · intro a' w' hx hs hd
        obtain ⟨y, rfl⟩ := hx.ew
        have e51 : a'.tmps[51]?.getD undef = .bool true := hd 27 51 rfl rfl
        clear hs hd
        refine ⟨rfl, ?_⟩
        go_simp
        exact ⟨by (repeat (first | with_reducible exact Ext.refl _ _ | assumption | with_reducible refine Ext.upN ?_ | with_reducible refine Ext.alloc ?_ _ | with_reducible refine Ext.upA (by assumption) ?_ | with_reducible refine Ext.upW ?_ | with_reducible refine Ext.drew ?_ | with_reducible refine Ext.drewN ?_ _ | with_reducible refine Ext.upF ?_ | with_reducible refine Ext.upFF (by first | omega | simp) ?_ | with_reducible refine Ext.setCellsF _ _ _ (by first | omega | simp) ?_ | with_reducible refine Ext.setCellF _ _ _ (by first | omega | simp) ?_ | with_reducible refine Ext.upFN (by first | omega | simp) ?_ | with_reducible refine Ext.up1F (by first | omega | simp) ?_ | with_reducible refine Ext.up1N (by first | omega | simp) ?_ | with_reducible refine Ext.setCell ?_ (.inr (by first | omega | simp)) _ | refine Ext.alloc ?_ _ | refine Ext.setCellF _ _ _ (by first | omega | simp) ?_ | refine Ext.setCell ?_ (.inr (by first | omega | simp)) _)), rfl⟩
      · intro a' w' hx hs hd
        obtain ⟨y, rfl⟩ := hx.ew
        have eg : a'.tmps[52]?.getD undef = .bool true := hd 28 52 rfl rfl
        refine ⟨wanted_of (j := 28) (d := 52) rfl rfl eg, ?_⟩
        clear hs hd eg
        go_simp
        exact (law16_four _).mono (fun e w'' ⟨b, he, hI, hx⟩ => ⟨_, he, hx, b, rfl, hI⟩)
      · intro a' w' hx hs hd
        obtain ⟨y, rfl⟩ := hx.ew
        have eg : a'.tmps[52]?.getD undef = .bool true := hd 28 52 rfl rfl
        refine ⟨wanted_of (j := 28) (d := 52) rfl rfl eg, ?_⟩
        clear hs hd eg
        go_simp
        exact ⟨by (repeat (first | with_reducible exact Ext.refl _ _ | assumption | with_reducible refine Ext.upN ?_ | with_reducible refine Ext.alloc ?_ _ | with_reducible refine Ext.upA (by assumption) ?_ | with_reducible refine Ext.upW ?_ | with_reducible refine Ext.drew ?_ | with_reducible refine Ext.drewN ?_ _ | with_reducible refine Ext.upF ?_ | with_reducible refine Ext.upFF (by first | omega | simp) ?_ | with_reducible refine Ext.setCellsF _ _ _ (by first | omega | simp) ?_ | with_reducible refine Ext.setCellF _ _ _ (by first | omega | simp) ?_ | with_reducible refine Ext.upFN (by first | omega | simp) ?_ | with_reducible refine Ext.up1F (by first | omega | simp) ?_ | with_reducible refine Ext.up1N (by first | omega | simp) ?_ | with_reducible refine Ext.setCell ?_ (.inr (by first | omega | simp)) _ | refine Ext.alloc ?_ _ | refine Ext.setCellF _ _ _ (by first | omega | simp) ?_ | refine Ext.setCell ?_ (.inr (by first | omega | simp)) _)), rfl⟩
      · intro a' w' hx hs hd
        obtain ⟨y, rfl⟩ := hx.ew
        obtain ⟨b, e53, hI⟩ : ∃ b, a'.tmps[53]?.getD undef = .agg #[.int .i64 0, .slice (some ⟨b, 0, none⟩) 4 4] ∧ Ints y.on (some ⟨b, 0, none⟩) 4 [0, 1, 2, 3] := hd 29 53 rfl rfl
        have e54 : a'.tmps[54]?.getD undef = .agg #[.int .i64 1, .int .i64 1, .slice none 0 0, .int .i64 0, .string ByteArray.empty] := hd 30 54 rfl rfl
        have eg : a'.tmps[52]?.getD undef = .bool true := hd 28 52 rfl rfl
        refine ⟨wanted_of (j := 28) (d := 52) rfl rfl eg, ?_⟩
        clear hs hd eg
        have HI := Go.Lib.hid hI; clear hI
        go_simp
        exact (change_Right 0 (some ⟨b, 0, none⟩) 4 [0, 1, 2, 3] 1 1 0 ByteArray.empty none 0 [] (i64_lit (by decide) (by decide)) (i64_lit (by decide) (by decide)) (i64_lit (by decide) (by decide)) _ HI.out (certs_nil _)).mono (fun e w'' ⟨he, hx⟩ => ⟨_, he, hx, congrArg (Value.int .i64) lives_wrong⟩)
      · intro a' w' hx hs hd
        obtain ⟨y, rfl⟩ := hx.ew
        have e55 : a'.tmps[55]?.getD undef = .int .i64 16 := hd 31 55 rfl rfl
        have eg : a'.tmps[52]?.getD undef = .bool true := hd 28 52 rfl rfl
        refine ⟨wanted_of (j := 28) (d := 52) rfl rfl eg, ?_⟩
        clear hs hd eg
        go_simp
        exact ⟨by (repeat (first | with_reducible exact Ext.refl _ _ | assumption | with_reducible refine Ext.upN ?_ | with_reducible refine Ext.alloc ?_ _ | with_reducible refine Ext.upA (by assumption) ?_ | with_reducible refine Ext.upW ?_ | with_reducible refine Ext.drew ?_ | with_reducible refine Ext.drewN ?_ _ | with_reducible refine Ext.upF ?_ | with_reducible refine Ext.upFF (by first | omega | simp) ?_ | with_reducible refine Ext.setCellsF _ _ _ (by first | omega | simp) ?_ | with_reducible refine Ext.setCellF _ _ _ (by first | omega | simp) ?_ | with_reducible refine Ext.upFN (by first | omega | simp) ?_ | with_reducible refine Ext.up1F (by first | omega | simp) ?_ | with_reducible refine Ext.up1N (by first | omega | simp) ?_ | with_reducible refine Ext.setCell ?_ (.inr (by first | omega | simp)) _ | refine Ext.alloc ?_ _ | refine Ext.setCellF _ _ _ (by first | omega | simp) ?_ | refine Ext.setCell ?_ (.inr (by first | omega | simp)) _)), rfl⟩
      · intro a' w' hx hs hd
        obtain ⟨y, rfl⟩ := hx.ew
        have e52 : a'.tmps[52]?.getD undef = .bool true := hd 28 52 rfl rfl
        have e56 : a'.tmps[56]?.getD undef = .bool true := hd 32 56 rfl rfl
        clear hs hd
        refine ⟨rfl, ?_⟩
        go_simp
        exact ⟨by (repeat (first | with_reducible exact Ext.refl _ _ | assumption | with_reducible refine Ext.upN ?_ | with_reducible refine Ext.alloc ?_ _ | with_reducible refine Ext.upA (by assumption) ?_ | with_reducible refine Ext.upW ?_ | with_reducible refine Ext.drew ?_ | with_reducible refine Ext.drewN ?_ _ | with_reducible refine Ext.upF ?_ | with_reducible refine Ext.upFF (by first | omega | simp) ?_ | with_reducible refine Ext.setCellsF _ _ _ (by first | omega | simp) ?_ | with_reducible refine Ext.setCellF _ _ _ (by first | omega | simp) ?_ | with_reducible refine Ext.upFN (by first | omega | simp) ?_ | with_reducible refine Ext.up1F (by first | omega | simp) ?_ | with_reducible refine Ext.up1N (by first | omega | simp) ?_ | with_reducible refine Ext.setCell ?_ (.inr (by first | omega | simp)) _ | refine Ext.alloc ?_ _ | refine Ext.setCellF _ _ _ (by first | omega | simp) ?_ | refine Ext.setCell ?_ (.inr (by first | omega | simp)) _)), rfl⟩
      · intro a' w' hx hs hd
        obtain ⟨y, rfl⟩ := hx.ew
        have e57 : a'.tmps[57]?.getD undef = .bool true := hd 33 57 rfl rfl
        clear hs hd
        refine ⟨rfl, ?_⟩
        go_simp
        exact ⟨by (repeat (first | with_reducible exact Ext.refl _ _ | assumption | with_reducible refine Ext.upN ?_ | with_reducible refine Ext.alloc ?_ _ | with_reducible refine Ext.upA (by assumption) ?_ | with_reducible refine Ext.upW ?_ | with_reducible refine Ext.drew ?_ | with_reducible refine Ext.drewN ?_ _ | with_reducible refine Ext.upF ?_ | with_reducible refine Ext.upFF (by first | omega | simp) ?_ | with_reducible refine Ext.setCellsF _ _ _ (by first | omega | simp) ?_ | with_reducible refine Ext.setCellF _ _ _ (by first | omega | simp) ?_ | with_reducible refine Ext.upFN (by first | omega | simp) ?_ | with_reducible refine Ext.up1F (by first | omega | simp) ?_ | with_reducible refine Ext.up1N (by first | omega | simp) ?_ | with_reducible refine Ext.setCell ?_ (.inr (by first | omega | simp)) _ | refine Ext.alloc ?_ _ | refine Ext.setCellF _ _ _ (by first | omega | simp) ?_ | refine Ext.setCell ?_ (.inr (by first | omega | simp)) _)), rfl⟩
    case q =>
      intro vs w' hx hR
      obtain ⟨y4, rfl⟩ := hx.ew
      have v34 : vs 34 = .bool true := hR 34 (by decide)
      clear hR
      simp only [putAll, List.take_succ_cons, List.take_zero, List.drop_succ_cons, List.drop_zero, Act.put, List.setIfInBounds_toArray, List.set_cons_zero, List.set_cons_succ, Nat.reduceAdd, Nat.zero_add]
      simp only [v34]
      go_wp2
      go_ret
      exact ⟨rfl, by (repeat (first | with_reducible exact Ext.refl _ _ | assumption | with_reducible refine Ext.upN ?_ | with_reducible refine Ext.alloc ?_ _ | with_reducible refine Ext.upA (by assumption) ?_ | with_reducible refine Ext.upW ?_ | with_reducible refine Ext.drew ?_ | with_reducible refine Ext.drewN ?_ _ | with_reducible refine Ext.upF ?_ | with_reducible refine Ext.upFF (by first | omega | simp) ?_ | with_reducible refine Ext.setCellsF _ _ _ (by first | omega | simp) ?_ | with_reducible refine Ext.setCellF _ _ _ (by first | omega | simp) ?_ | with_reducible refine Ext.upFN (by first | omega | simp) ?_ | with_reducible refine Ext.up1F (by first | omega | simp) ?_ | with_reducible refine Ext.up1N (by first | omega | simp) ?_ | with_reducible refine Ext.setCell ?_ (.inr (by first | omega | simp)) _ | refine Ext.alloc ?_ _ | refine Ext.setCellF _ _ _ (by first | omega | simp) ?_ | refine Ext.setCell ?_ (.inr (by first | omega | simp)) _))⟩
end Go.Proofs.Ytakbkpklfihfiaa
