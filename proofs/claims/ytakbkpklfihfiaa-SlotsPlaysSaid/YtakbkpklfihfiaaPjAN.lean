/- Joined texts: Prep, Terms. What each proves stands at its head; no conditions beside those in its theorems. -/
import Derived.Test.YtakbkpklfihfiaaPjAM
/- Contracts of layer 11: what is prepared; the reference's. -/
namespace Go.Proofs.Ytakbkpklfihfiaa
open Go.RowKit Go.Lib F64
set_option linter.unusedSimpArgs false
set_option linter.unusedVariables false

def headS (sg a b c : Int) (t : ByteArray) : ByteArray := if ok32 a b c = true then ⟨(headL sg a b c ++ t.data.toList).toArray⟩ else ⟨#[]⟩
def headE (a b c : Int) : Int := if ok32 a b c = true then 0 else 1
theorem append_bytes (l : List UInt8) (t : ByteArray) : (⟨l.toArray⟩ : ByteArray) ++ t = ⟨(l ++ t.data.toList).toArray⟩ := by
  apply ByteArray.ext
  rw [ByteArray.data_append]
  simp
theorem prep_head (e v s : Int) (r : Req) (h : reqE r = 0) : prepS e v s r = headS 80 e v s (reqS r) ∧ prepE e v s r = headE e v s := by
  unfold prepS prepL prepE prepB headS headE reqS
  rw [decide_eq_true h, Bool.true_and]
  cases ok32 e v s <;> simp
theorem prep_no (e v s : Int) (r : Req) (h : reqE r ≠ 0) : prepS e v s r = ⟨#[]⟩ ∧ prepE e v s r = 1 := by
  unfold prepS prepL prepE prepB
  rw [decide_eq_false h, Bool.false_and]
  exact ⟨rfl, rfl⟩
theorem reqE_01 (r : Req) : reqE r = 0 ∨ reqE r = 1 := by unfold reqE; split; exact .inl rfl; split; exact .inl rfl; exact .inr rfl
set_option maxHeartbeats 2000000 in
set_option maxRecDepth 100000 in
theorem deeds_headed (sg a b c : Int) (hsg : 0 ≤ sg ∧ sg ≤ 255) (ha : I64 a) (hb : I64 b) (hc : I64 c) (t : ByteArray) (ht : t.size ≤ 1000000) (g : Nat) (w : World) (h : Bx w g [.int .i64 a, .int .i64 b, .int .i64 c] 3) :
    Calls Try.prog 116 #[.int .i64 sg, .string t, .slice (some ⟨g, 0, none⟩) 3 3] w fun e w' => e = .returned (.tuple #[.string (headS sg a b c t), .int .i64 (headE a b c)]) ∧ Ext Non w w' := by
  have BG := Go.Lib.hid h
  have HI := Go.Lib.hid (And.intro ha (And.intro hb hc))
  have HS := Go.Lib.hid hsg
  have HR := Go.Lib.hid (head_run (lim := 64) (a := a) (b := b) (c := c) (by decide) hsg)
  clear h ha hb hc hsg
  go_enter Try.func116, Try.ntmps116
  go_wp2_with fail
  refine (pack_New 64 (by decide) w.heap.size _ (Nat.le_refl _)).mono ?_
  rintro e w1 ⟨bw, rfl, x1, p1, hbw⟩
  have hg : g < w.heap.size := BG.out.lt
  have B1 := Go.Lib.hid (BG.out.extN x1)
  have P1 := Go.Lib.hid p1; have X1 := Go.Lib.hid x1
  clear x1 p1
  go_wp2_with fail
  refine (pack_Byte w.heap.size bw _ sg (by have := HS.out; unfold I64; omega) _ P1.out X1.out.size).mono ?_
  rintro e w2 ⟨rfl, y2⟩
  have B2 := Go.Lib.hid (B1.out.wrote y2.x hbw hg)
  have P2 := Go.Lib.hid y2.p
  have X2 := Go.Lib.hid (X1.out.step y2.x (fun i hi s => by rcases s with s | s <;> omega))
  clear y2
  have q0 : w2.cell? ⟨g, 0, none⟩ = some (.int .i64 a) := B2.out.cell rfl
  go_wp2_with fail
  refine wp_loop_rounds 4 ?_
  rw [rounds_succ]
  go_wp2_with fail
  refine (pack_Long w.heap.size bw _ a HI.out.1 _ P2.out X2.out.size).mono ?_
  rintro e w3 ⟨rfl, y3⟩
  have B3 := Go.Lib.hid (B2.out.wrote y3.x hbw hg)
  have P3 := Go.Lib.hid y3.p
  have X3 := Go.Lib.hid (X2.out.step y3.x (fun i hi s => by rcases s with s | s <;> omega))
  clear y3 q0
  have q1 : w3.cell? ⟨g, 1, none⟩ = some (.int .i64 b) := B3.out.cell rfl
  go_wp2_with fail
  rw [rounds_succ]
  go_wp2_with fail
  refine (pack_Long w.heap.size bw _ b HI.out.2.1 _ P3.out X3.out.size).mono ?_
  rintro e w4 ⟨rfl, y4⟩
  have B4 := Go.Lib.hid (B3.out.wrote y4.x hbw hg)
  have P4 := Go.Lib.hid y4.p
  have X4 := Go.Lib.hid (X3.out.step y4.x (fun i hi s => by rcases s with s | s <;> omega))
  clear y4 q1
  have q2 : w4.cell? ⟨g, 2, none⟩ = some (.int .i64 c) := B4.out.cell rfl
  go_wp2_with fail
  rw [rounds_succ]
  go_wp2_with fail
  refine (pack_Long w.heap.size bw _ c HI.out.2.2 _ P4.out X4.out.size).mono ?_
  rintro e w5 ⟨rfl, y5⟩
  have P5 : Hid (PW w5 w.heap.size bw (headW 64 sg a b c)) := Go.Lib.hid y5.p
  have X5 := Go.Lib.hid (X4.out.step y5.x (fun i hi s => by rcases s with s | s <;> omega))
  clear y5 q2
  go_wp2_with fail
  rw [rounds_succ]
  go_wp2_with fail
  refine (pack_Done _ _ _ _ P5.out).mono ?_
  rintro e w6 ⟨rfl, x6⟩
  have X6 := Go.Lib.hid (X5.out.trans x6)
  clear x6
  cases ho : ok32 a b c
  · have he := HR.out.2 ho
    have hbe : ((headW 64 sg a b c).err != 0) = true := by rw [bne_iff_ne]; exact he
    have HF := Go.Lib.hid (show headS sg a b c t = ⟨#[]⟩ ∧ headE a b c = 1 by unfold headS headE; rw [ho]; exact ⟨rfl, rfl⟩)
    generalize (headW 64 sg a b c).err = er at *
    clear ho he
    go_wp2
    go_returns
    exact ⟨by rw [HF.out.1, HF.out.2]; rfl, X6.out⟩
  · have hw := HR.out.1 ho
    have HF := Go.Lib.hid (show headS sg a b c t = (⟨(headL sg a b c).toArray⟩ : ByteArray) ++ t ∧ headE a b c = 0 by unfold headS headE; rw [ho, append_bytes]; exact ⟨rfl, rfl⟩)
    rw [hw]
    rw [show doneS ⟨headL sg a b c, 64 - 13, 0⟩ = ⟨(headL sg a b c).toArray⟩ from rfl]
    have hds : (⟨(headL sg a b c).toArray⟩ : ByteArray).size = 13 := rfl
    generalize (⟨(headL sg a b c).toArray⟩ : ByteArray) = hd at *
    have hsum : ((hd.size : Nat) : Int) + ((t.size : Nat) : Int) ≤ 9223372036854775807 := by rw [hds]; omega
    clear ho hw hds
    go_wp2
    go_returns
    exact ⟨by rw [HF.out.1, HF.out.2]; rfl, X6.out⟩
theorem reqS_size (r : Req) : (reqS r).size ≤ 34 := by
  unfold reqS reqL
  split
  · decide
  · split
    · rename_i h
      obtain ⟨h1, h2, h3, h4, h5⟩ := rightB_facts h
      obtain ⟨o1, o2, o3, o4, o5⟩ := op_bounds h5
      have : (keyL r).length = r.op.key.size := size_data _
      have := reqT_length r
      show (reqT r).toArray.size ≤ 34
      rw [List.size_toArray]; omega
    · decide
set_option maxHeartbeats 2000000 in
set_option maxRecDepth 100000 in
theorem deeds_Prepared (ep vw sl c s k : Int) (key : ByteArray) (x : Nat) (id : Int) (he : I64 ep) (hv : I64 vw) (hsl : I64 sl) (hc : I64 c) (hs : I64 s) (hk : I64 k) (hid : I64 id) (hx : x < 18446744073709551616) (hks : key.size ≤ 9223372036854775807) (w : World) :
    Calls Try.prog 70 #[.int .i64 ep, .int .i64 vw, .int .i64 sl, .agg #[.int .i64 c, .int .i64 s, .int .i64 k, .string key, .float .f64 x, .int .i64 id]] w fun e w' =>
    e = .returned (.tuple #[.string (prepS ep vw sl ⟨c, s, ⟨k, key, x, id⟩⟩), .int .i64 (prepE ep vw sl ⟨c, s, ⟨k, key, x, id⟩⟩)]) ∧ Ext Non w w' := by
  have HC := Go.Lib.hid (And.intro hc (And.intro hs (And.intro hk (And.intro hid (And.intro hx (And.intro hks (And.intro he (And.intro hv hsl))))))))
  clear hc hs hk hid hx hks he hv hsl
  have X0 := Go.Lib.hid ((Ext.refl Non w).alloc (.cells #[.int .i64 c, .int .i64 s, .int .i64 k, .string key, .float .f64 x, .int .i64 id] 49))
  go_enter Try.func70, Try.ntmps70
  go_wp2_with fail
  obtain ⟨a1, a2, a3, a4, a5, a6, a7, a8, a9⟩ := HC.out
  refine (deeds_Text _ _ _ _ _ _ a1 a2 a3 a4 a5 a6 _).mono ?_
  rintro e w1 ⟨rfl, x1⟩
  have X1 := Go.Lib.hid (X0.out.trans x1)
  clear x1 a1 a2 a3 a4 a5 a6
  rcases reqE_01 ⟨c, s, ⟨k, key, x, id⟩⟩ with h | h
  · have HP := Go.Lib.hid (prep_head ep vw sl _ h)
    have HZ := Go.Lib.hid (reqS_size ⟨c, s, ⟨k, key, x, id⟩⟩)
    rw [h]
    generalize reqS ⟨c, s, ⟨k, key, x, id⟩⟩ = t at *
    clear h
    go_wp2_with fail
    have BG := Bx.new w1 [.int .i64 ep, .int .i64 vw, .int .i64 sl] 3
    have XA := Go.Lib.hid (X1.out.alloc (.cells #[.int .i64 ep, .int .i64 vw, .int .i64 sl] 3))
    refine (deeds_headed 80 ep vw sl (by decide) a7 a8 a9 t (by have := HZ.out; omega) w1.heap.size _ BG).mono ?_
    rintro e w2 ⟨rfl, x2⟩
    go_wp2
    go_returns
    exact ⟨by rw [HP.out.1, HP.out.2]; rfl, XA.out.trans x2⟩
  · have HP := Go.Lib.hid (prep_no ep vw sl ⟨c, s, ⟨k, key, x, id⟩⟩ (by rw [h]; decide))
    rw [h]
    clear h
    go_wp2
    go_returns
    exact ⟨by rw [HP.out.1, HP.out.2]; rfl, X1.out⟩
set_option maxHeartbeats 2000000 in
set_option maxRecDepth 100000 in
theorem ref_Prepared (ep vw sl c s k : Int) (key : ByteArray) (x : Nat) (id : Int) (he : I64 ep) (hv : I64 vw) (hsl : I64 sl) (hc : I64 c) (hs : I64 s) (hk : I64 k) (hid : I64 id) (hx : x < 18446744073709551616) (hks : key.size ≤ 9223372036854775807) (w : World) :
    Calls Try.prog 53 #[.int .i64 ep, .int .i64 vw, .int .i64 sl, .agg #[.int .i64 c, .int .i64 s, .int .i64 k, .string key, .float .f64 x, .int .i64 id]] w fun e w' =>
    e = .returned (.tuple #[.string (prepS ep vw sl ⟨c, s, ⟨k, key, x, id⟩⟩), .int .i64 (prepE ep vw sl ⟨c, s, ⟨k, key, x, id⟩⟩)]) ∧ Ext Non w w' := by
  have HC := Go.Lib.hid (And.intro hc (And.intro hs (And.intro hk (And.intro hid (And.intro hx (And.intro hks (And.intro he (And.intro hv hsl))))))))
  clear hc hs hk hid hx hks he hv hsl
  have X0 := Go.Lib.hid ((Ext.refl Non w).alloc (.cells #[.int .i64 c, .int .i64 s, .int .i64 k, .string key, .float .f64 x, .int .i64 id] 49))
  go_enter Try.func53, Try.ntmps53
  go_wp2_with fail
  obtain ⟨a1, a2, a3, a4, a5, a6, a7, a8, a9⟩ := HC.out
  refine (ref_Text _ _ _ _ _ _ a1 a2 a3 a4 a5 a6 _).mono ?_
  rintro e w1 ⟨rfl, x1⟩
  have X1 := Go.Lib.hid (X0.out.trans x1)
  clear x1 a1 a2 a3 a4 a5 a6
  rcases reqE_01 ⟨c, s, ⟨k, key, x, id⟩⟩ with h | h
  · have HP := Go.Lib.hid (prep_head ep vw sl _ h)
    have HZ := Go.Lib.hid (reqS_size ⟨c, s, ⟨k, key, x, id⟩⟩)
    have HR := Go.Lib.hid (head_run (lim := 100) (sg := 80) (a := ep) (b := vw) (c := sl) (by decide) (by decide))
    rw [h]
    generalize reqS ⟨c, s, ⟨k, key, x, id⟩⟩ = t at *
    clear h
    go_wp2_with fail
    refine (refw_New 100 (by decide) w1.heap.size _ (Nat.le_refl _)).mono ?_
    rintro e w2 ⟨bw, rfl, x2, p2, hbw⟩
    have P2 := Go.Lib.hid p2; have X2 := Go.Lib.hid x2
    clear x2 p2
    go_wp2_with fail
    refine (refw_Num1 w1.heap.size bw _ 80 (by unfold I64; omega) _ P2.out X2.out.size).mono ?_
    rintro e w3 ⟨rfl, y3⟩
    have P3 := Go.Lib.hid y3.p
    have X3 := Go.Lib.hid (X2.out.step y3.x (fun i hi s => by rcases s with s | s <;> omega))
    clear y3
    go_wp2_with fail
    refine (refw_Num4 w1.heap.size bw _ ep a7 _ P3.out X3.out.size).mono ?_
    rintro e w4 ⟨rfl, y4⟩
    have P4 := Go.Lib.hid y4.p
    have X4 := Go.Lib.hid (X3.out.step y4.x (fun i hi s => by rcases s with s | s <;> omega))
    clear y4
    go_wp2_with fail
    refine (refw_Num4 w1.heap.size bw _ vw a8 _ P4.out X4.out.size).mono ?_
    rintro e w5 ⟨rfl, y5⟩
    have P5 := Go.Lib.hid y5.p
    have X5 := Go.Lib.hid (X4.out.step y5.x (fun i hi s => by rcases s with s | s <;> omega))
    clear y5
    go_wp2_with fail
    refine (refw_Num4 w1.heap.size bw _ sl a9 _ P5.out X5.out.size).mono ?_
    rintro e w6 ⟨rfl, y6⟩
    have P6 : Hid (RW w6 w1.heap.size bw (headW 100 80 ep vw sl)) := Go.Lib.hid y6.p
    have X6 := Go.Lib.hid (X5.out.step y6.x (fun i hi s => by rcases s with s | s <;> omega))
    clear y6
    go_wp2_with fail
    refine (refw_Done _ _ _ _ P6.out).mono ?_
    rintro e w7 ⟨rfl, x7⟩
    have X7 := Go.Lib.hid ((X1.out.trans X6.out).trans x7)
    clear x7
    cases ho : ok32 ep vw sl
    · have he := HR.out.2 ho
      have hbe : ((headW 100 80 ep vw sl).err != 0) = true := by rw [bne_iff_ne]; exact he
      have HF := Go.Lib.hid (show headS 80 ep vw sl t = ⟨#[]⟩ ∧ headE ep vw sl = 1 by unfold headS headE; rw [ho]; exact ⟨rfl, rfl⟩)
      generalize (headW 100 80 ep vw sl).err = er at *
      clear ho he
      go_wp2
      go_returns
      exact ⟨by rw [HP.out.1, HP.out.2, HF.out.1, HF.out.2]; rfl, X7.out⟩
    · have hw := HR.out.1 ho
      have HF := Go.Lib.hid (show headS 80 ep vw sl t = (⟨(headL 80 ep vw sl).toArray⟩ : ByteArray) ++ t ∧ headE ep vw sl = 0 by unfold headS headE; rw [ho, append_bytes]; exact ⟨rfl, rfl⟩)
      rw [hw]
      rw [show doneS ⟨headL 80 ep vw sl, 100 - 13, 0⟩ = ⟨(headL 80 ep vw sl).toArray⟩ from rfl]
      have hds : (⟨(headL 80 ep vw sl).toArray⟩ : ByteArray).size = 13 := rfl
      generalize (⟨(headL 80 ep vw sl).toArray⟩ : ByteArray) = hd at *
      have hsum : ((hd.size : Nat) : Int) + ((t.size : Nat) : Int) ≤ 9223372036854775807 := by rw [hds]; have := HZ.out; omega
      clear ho hw hds
      go_wp2
      go_returns
      exact ⟨by rw [HP.out.1, HP.out.2, HF.out.1, HF.out.2]; rfl, X7.out⟩
  · have HP := Go.Lib.hid (prep_no ep vw sl ⟨c, s, ⟨k, key, x, id⟩⟩ (by rw [h]; decide))
    rw [h]
    clear h
    go_wp2
    go_returns
    exact ⟨by rw [HP.out.1, HP.out.2]; rfl, X1.out⟩
end Go.Proofs.Ytakbkpklfihfiaa

/- Contracts of layers 7 and 9 (council, terms); the reference's. -/
namespace Go.Proofs.Ytakbkpklfihfiaa
open Go.RowKit Go.Lib F64
set_option linter.unusedSimpArgs false
set_option linter.unusedVariables false

theorem idx_of (xs : List Int) (t : Int) (i : Nat) (hi : i < xs.length) (h0 : ∀ j (h : j < xs.length), j < i → xs[j] ≠ t) (he : xs[i] = t) : hasB xs t = true := by rw [hasB_iff, ← he]; exact List.getElem_mem hi
theorem idx_no (xs : List Int) (t : Int) (h0 : ∀ j (h : j < xs.length), j < xs.length → xs[j] ≠ t) : hasB xs t = false := by
  rw [Bool.eq_false_iff]; intro h
  rw [hasB_iff] at h
  obtain ⟨j, hj, e⟩ := List.getElem_of_mem h
  exact h0 j hj hj e
theorem slices_Index (a : Option Addr) (cap : Nat) (xs : List Int) (t : Int) (w : World) (h : Ints w a cap xs) : Calls Try.prog 131 #[.slice a xs.length cap, .int .i64 t] w fun e w' => ∃ n : Int, e = .returned (.int .i64 n) ∧ w = w' ∧ (decide (0 ≤ n) = hasB xs t) := by
  have hm := h.small
  have hm2 := h.le
  have HH := Go.Lib.hid h; clear h
  go_enter Try.func131, Try.ntmps131
  go_wp2
  go_loop [8] (fun iv => ∃ (i : Nat), i ≤ xs.length ∧ iv = .int .i64 i ∧ (∀ j (h : j < xs.length), j < i → xs[j] ≠ t)) (fun iv => xs.length - (intOf iv).toNat)
  case atStart => exact ⟨0, Nat.zero_le _, rfl, fun j h hj => absurd hj (Nat.not_lt_zero _)⟩
  case round =>
    obtain ⟨i, hi, rfl, hn⟩ := hrel
    have HN := Go.Lib.hid hn; clear hn
    by_cases hlt : i < xs.length
    · obtain ⟨b, o, rfl, hc, hx⟩ := HH.out.at_ i hlt
      generalize hxi : xs[i] = x at *
      have HX := Go.Lib.hid hxi; clear hxi
      by_cases hxt : x = t
      · have hb : (t == x) = true := by rw [hxt]; simp
        have HT := Go.Lib.hid hxt; clear hxt
        go_wp2
        go_ret
        refine ⟨_, rfl, rfl, ?_⟩
        rw [idx_of xs t i hlt HN.out (HX.out.trans HT.out)]
        simp
      · have hb : (t == x) = false := by rw [beq_eq_false_iff_ne]; exact fun e => hxt e.symm
        have HT := Go.Lib.hid hxt; clear hxt
        go_wp2
        go_round
        case rel =>
          refine ⟨i + 1, hlt, by go_num, fun j hj hji => ?_⟩
          rcases Nat.lt_or_eq_of_le (Nat.lt_succ_iff.1 hji) with h | rfl
          · exact HN.out j hj h
          · exact fun e => HT.out (HX.out.symm.trans e)
        case measure => simp [intOf]; omega
    · go_wp2
      go_ret
      refine ⟨_, rfl, rfl, ?_⟩
      rw [idx_no xs t (fun j hj _ => HN.out j hj (by omega))]
      rfl
theorem slices_Contains (a : Option Addr) (cap : Nat) (xs : List Int) (t : Int) (w : World) (h : Ints w a cap xs) : Calls Try.prog 115 #[.slice a xs.length cap, .int .i64 t] w fun e w' => e = .returned (.bool (hasB xs t)) ∧ w = w' := by
  have HH := Go.Lib.hid h; clear h
  go_enter Try.func115, Try.ntmps115
  go_wp2_with fail
  refine (slices_Index _ _ _ _ _ HH.out).mono ?_
  rintro e w1 ⟨n, rfl, rfl, hn⟩
  have HN := Go.Lib.hid hn; clear hn
  go_wp2
  go_ret
  exact ⟨ret_bool HN.out, rfl⟩
theorem council_Has (ep : Int) (a : Option Addr) (cap : Nat) (xs : List Int) (t : Int) (w : World) (h : Ints w a cap xs) : Calls Try.prog 69 #[.agg #[.int .i64 ep, .slice a xs.length cap], .int .i64 t] w fun e w' => e = .returned (.bool (hasB xs t)) ∧ Ext Non w w' := by
  have HH := Go.Lib.hid h; clear h
  go_enter Try.func69, Try.ntmps69
  go_wp2_with fail
  refine (slices_Contains _ _ _ _ _ (HH.out.extN ((Ext.refl _ _).alloc _))).mono ?_
  rintro e w1 ⟨rfl, rfl⟩
  go_wp2
  go_ret
  exact ⟨rfl, (Ext.refl _ _).alloc _⟩
theorem ref_Has (a : Option Addr) (cap : Nat) (xs : List Int) (t : Int) (w : World) (h : Ints w a cap xs) : Calls Try.prog 26 #[.slice a xs.length cap, .int .i64 t] w fun e w' => e = .returned (.bool (hasB xs t)) ∧ ∃ n, w' = w.drewN n := by
  have hm := h.small
  have hm2 := h.le
  have HH := Go.Lib.hid h; clear h
  go_enter Try.func26, Try.ntmps26
  go_wp2
  go_loopw [5] (fun iv wr => ∃ (i : Nat), i ≤ xs.length ∧ iv = .int .i64 i ∧ (∃ n, wr = w.drewN n) ∧ (∀ j (h : j < xs.length), j < i → xs[j] ≠ t)) (fun iv _ => xs.length - (intOf iv).toNat)
  case atStart => exact ⟨0, Nat.zero_le _, rfl, ⟨0, rfl⟩, fun j h hj => absurd hj (Nat.not_lt_zero _)⟩
  case round =>
    obtain ⟨i, hi, rfl, ⟨nd, rfl⟩, hn⟩ := hrel
    have HN := Go.Lib.hid hn; clear hn
    by_cases hlt : i < xs.length
    · obtain ⟨b, o, rfl, hc, hx⟩ := (HH.out.drewN nd).at_ i hlt
      generalize hxi : xs[i] = x at *
      have HX := Go.Lib.hid hxi; clear hxi
      by_cases hxt : x = t
      · have hb : (x == t) = true := by rw [hxt]; simp
        have HT := Go.Lib.hid hxt; clear hxt
        go_wp2
        go_ret
        exact ⟨ret_bool (by rw [idx_of xs t i hlt HN.out (HX.out.trans HT.out)]), _, rfl⟩
      · have hb : (x == t) = false := by rw [beq_eq_false_iff_ne]; exact hxt
        have HT := Go.Lib.hid hxt; clear hxt
        go_wp2
        go_roundw
        case rel =>
          refine ⟨i + 1, hlt, by go_num, ⟨_, rfl⟩, fun j hj hji => ?_⟩
          rcases Nat.lt_or_eq_of_le (Nat.lt_succ_iff.1 hji) with h | rfl
          · exact HN.out j hj h
          · exact fun e => HT.out (HX.out.symm.trans e)
        case measure => simp [intOf]; omega
    · go_wp2
      go_ret
      exact ⟨ret_bool (by rw [idx_no xs t (fun j hj _ => HN.out j hj (by omega))]), _, rfl⟩
theorem council_Faults (n : Int) (h0 : 0 ≤ n) (h1 : n ≤ 4611686018427387903) (w : World) : Calls Try.prog 27 #[.int .i64 n] w fun e w' => e = .returned (.int .i64 (faultsI n)) ∧ w = w' := by
  by_cases hn : n < 1
  · have HF := Go.Lib.hid (show faultsI n = 0 by unfold faultsI; rw [if_pos hn])
    go_enter Try.func27, Try.ntmps27
    go_wp2
    go_ret
    exact ⟨ret_int HF.out.symm, rfl⟩
  · have HF := Go.Lib.hid (show faultsI n = (n - 1) / 3 by unfold faultsI; rw [if_neg hn])
    have hw : IntKind.i64.wrap (n - 1) = n - 1 := IntWalk.i64_in _ (by omega)
    have hge : 0 ≤ n - 1 := by omega
    go_enter Try.func27, Try.ntmps27
    go_wp2
    go_ret
    exact ⟨ret_int (by rw [HF.out]; try rw [Int.tdiv_eq_ediv_of_nonneg (by omega)]), rfl⟩
theorem faults_bd (n : Int) (h0 : 0 ≤ n) : 0 ≤ faultsI n ∧ faultsI n ≤ n := by unfold faultsI; split <;> omega
theorem council_Quorum (n : Int) (h0 : 0 ≤ n) (h1 : n ≤ 4611686018427387903) (w : World) : Calls Try.prog 28 #[.int .i64 n] w fun e w' => e = .returned (.int .i64 (quorumI n)) ∧ w = w' := by
  by_cases hn : n < 1
  · have HF := Go.Lib.hid (show quorumI n = 0 by unfold quorumI; rw [if_pos hn])
    go_enter Try.func28, Try.ntmps28
    go_wp2
    go_ret
    exact ⟨ret_int HF.out.symm, rfl⟩
  · have HF := Go.Lib.hid (show quorumI n = faultsI n + (n - faultsI n) / 2 + 1 by unfold quorumI; rw [if_neg hn])
    obtain ⟨f0, f1⟩ := faults_bd n h0
    have HQ := Go.Lib.hid (And.intro h0 h1)
    go_enter Try.func28, Try.ntmps28
    go_wp2_with fail
    refine (council_Faults n HQ.out.1 HQ.out.2 _).mono ?_
    rintro e w1 ⟨rfl, rfl⟩
    generalize faultsI n = f at *
    have hge : 0 ≤ n - f := by omega
    have hw : IntKind.i64.wrap (n - f) = n - f := IntWalk.i64_in _ (by omega)
    go_wp2
    go_ret
    exact ⟨ret_int (by rw [HF.out]; try rw [Int.tdiv_eq_ediv_of_nonneg (by omega)]), rfl⟩
theorem ref_Faults (n : Int) (h0 : 0 ≤ n) (h1 : n ≤ 4611686018427387903) (w : World) : Calls Try.prog 118 #[.int .i64 n] w fun e w' => e = .returned (.int .i64 (faultsI n)) ∧ w = w' := by
  by_cases hn : n < 1
  · have HF := Go.Lib.hid (show faultsI n = 0 by unfold faultsI; rw [if_pos hn])
    go_enter Try.func118, Try.ntmps118
    go_wp2
    go_ret
    exact ⟨ret_int HF.out.symm, rfl⟩
  · have HF := Go.Lib.hid (show faultsI n = (n - 1) / 3 by unfold faultsI; rw [if_neg hn])
    have hw : IntKind.i64.wrap (n - 1) = n - 1 := IntWalk.i64_in _ (by omega)
    have hge : 0 ≤ n - 1 := by omega
    go_enter Try.func118, Try.ntmps118
    go_wp2
    go_ret
    exact ⟨ret_int (by rw [HF.out]; try rw [Int.tdiv_eq_ediv_of_nonneg (by omega)]), rfl⟩
theorem ref_Quorum (n : Int) (h0 : 0 ≤ n) (h1 : n ≤ 4611686018427387903) (w : World) : Calls Try.prog 74 #[.int .i64 n] w fun e w' => e = .returned (.int .i64 (quorumI n)) ∧ w = w' := by
  by_cases hn : n < 1
  · have HF := Go.Lib.hid (show quorumI n = 0 by unfold quorumI; rw [if_pos hn])
    go_enter Try.func74, Try.ntmps74
    go_wp2
    go_ret
    exact ⟨ret_int HF.out.symm, rfl⟩
  · have HF := Go.Lib.hid (quorum_ref n (by omega))
    obtain ⟨f0, f1⟩ := faults_bd n h0
    have HQ := Go.Lib.hid (And.intro h0 h1)
    go_enter Try.func74, Try.ntmps74
    go_wp2_with fail
    refine (ref_Faults n HQ.out.1 HQ.out.2 _).mono ?_
    rintro e w1 ⟨rfl, rfl⟩
    generalize hf : faultsI n = f at *
    have HG := Go.Lib.hid hf; clear hf
    go_wp2_with fail
    refine (ref_Faults n HQ.out.1 HQ.out.2 _).mono ?_
    rintro e w1 ⟨rfl, rfl⟩
    rw [HG.out]
    go_wp2
    go_ret
    exact ⟨ret_int HF.out, rfl⟩
/-! ### The reference's members -/
theorem rising_snoc (l : List Int) : ∀ last, risingB last l = true ↔ ∀ j (h : j < l.length), (l[j] < 16 ∧ (if h0 : j = 0 then last < l[j] else l[j - 1]'(by omega) < l[j])) := by
  induction l with
  | nil => intro last; exact ⟨fun _ j h => absurd h (Nat.not_lt_zero _), fun _ => rfl⟩
  | cons x xs ih =>
    intro last
    simp only [risingB, Bool.and_eq_true, decide_eq_true_eq]
    rw [ih x]
    constructor
    · rintro ⟨⟨h1, h2⟩, h3⟩ j hj
      cases j with
      | zero => exact ⟨h2, by rw [dif_pos rfl]; exact h1⟩
      | succ j =>
        have hj' : j < xs.length := by simpa using hj
        obtain ⟨a, b⟩ := h3 j hj'
        refine ⟨a, ?_⟩
        rw [dif_neg (by omega)]
        by_cases h0 : j = 0
        · subst h0; rw [dif_pos rfl] at b; exact b
        · rw [dif_neg h0] at b
          have e : (x :: xs)[j + 1 - 1]'(by simp; omega) = xs[j - 1]'(by omega) := by
            obtain ⟨k, rfl⟩ : ∃ k, j = k + 1 := ⟨j - 1, by omega⟩
            rfl
          rw [e]; exact b
    · intro h
      obtain ⟨a0, b0⟩ := h 0 (by simp)
      rw [dif_pos rfl] at b0
      refine ⟨⟨b0, a0⟩, fun j hj => ?_⟩
      obtain ⟨a, b⟩ := h (j + 1) (by simp; omega)
      refine ⟨a, ?_⟩
      rw [dif_neg (by omega)] at b
      by_cases h0 : j = 0
      · subst h0; rw [dif_pos rfl]; exact b
      · rw [dif_neg h0]
        have e : (x :: xs)[j + 1 - 1]'(by simp; omega) = xs[j - 1]'(by omega) := by
          obtain ⟨k, rfl⟩ : ∃ k, j = k + 1 := ⟨j - 1, by omega⟩
          rfl
        rw [e] at b; exact b
/-- As the reference looks at one. -/
def okM (l : List Int) (j : Nat) (h : j < l.length) : Prop := 0 ≤ l[j] ∧ l[j] < 16 ∧ (∀ h0 : 0 < j, l[j - 1]'(by omega) < l[j])
theorem rising_okM (l : List Int) : risingB (-1) l = true ↔ ∀ j (h : j < l.length), okM l j h := by
  rw [rising_snoc]
  constructor
  · intro h j
    induction j with
    | zero =>
      intro hj
      obtain ⟨a, b⟩ := h 0 hj
      rw [dif_pos rfl] at b
      exact ⟨by omega, a, fun h0 => absurd h0 (Nat.lt_irrefl 0)⟩
    | succ j ih =>
      intro hj
      obtain ⟨a, b⟩ := h (j + 1) hj
      rw [dif_neg (by omega)] at b
      have := (ih (by omega)).1
      simp only [Nat.add_sub_cancel] at b
      exact ⟨by omega, a, fun _ => by simpa using b⟩
  · intro h j hj
    obtain ⟨a, b, c⟩ := h j hj
    refine ⟨b, ?_⟩
    by_cases h0 : j = 0
    · rw [dif_pos h0]; omega
    · rw [dif_neg h0]; exact c (by omega)
set_option maxHeartbeats 2000000 in
set_option maxRecDepth 100000 in
theorem ref_Members (a : Option Addr) (cap : Nat) (xs : List Int) (w : World) (h : Ints w a cap xs) : Calls Try.prog 117 #[.slice a xs.length cap] w fun e w' => e = .returned (.bool (membersB xs)) ∧ Ext Non w w' := by
  have hm := h.small
  have hm2 := h.le
  have HH := Go.Lib.hid h; clear h
  go_enter Try.func117, Try.ntmps117
  go_wp2
  go_loopw [3] (fun iv wr => ∃ (i : Nat), i ≤ xs.length ∧ iv = .int .i64 i ∧ Ext Non w wr ∧ (∀ j (h : j < xs.length), j < i → okM xs j h)) (fun iv _ => xs.length - (intOf iv).toNat)
  case atStart => exact ⟨0, Nat.zero_le _, rfl, Ext.refl _ _, fun j h hj => absurd hj (Nat.not_lt_zero _)⟩
  case round =>
    obtain ⟨i, hi, rfl, x0, hn⟩ := hrel
    have XX := Go.Lib.hid x0; clear x0
    have HN := Go.Lib.hid hn; clear hn
    by_cases hlt : i < xs.length
    · obtain ⟨b, o, rfl, hc, hx⟩ := (HH.out.extN XX.out).at_ i hlt
      generalize hxi : xs[i] = x at *
      have HX := Go.Lib.hid hxi; clear hxi
      have bad : ¬ okM xs i hlt → membersB xs = false := fun hno => by
        unfold membersB
        have : risingB (-1) xs = false := by rw [Bool.eq_false_iff]; intro hr; exact hno ((rising_okM xs).1 hr i hlt)
        rw [this]; rfl
      have BAD := Go.Lib.hid bad; clear bad
      by_cases h1 : 0 ≤ x
      · have d1 : decide (x < 0) = false := decide_eq_false (by omega)
        by_cases h2 : x < 16
        · have d2 : decide (16 ≤ x) = false := decide_eq_false (by omega)
          by_cases h3 : i = 0
          · subst h3
            rw [Nat.add_zero] at hc
            have d3 : decide ((0 : Int) < 0) = false := rfl
            have HO : Hid (okM xs 0 hlt) := Go.Lib.hid ⟨by rw [HX.out]; exact h1, by rw [HX.out]; exact h2, fun h0 => absurd h0 (Nat.lt_irrefl 0)⟩
            go_wp2_with fail
            go_quiet (fail)
            go_wp2
            go_roundw
            case rel =>
              refine ⟨1, by omega, rfl, XX.out.drewN _, fun j hj hji => ?_⟩
              obtain rfl : j = 0 := by omega
              exact HO.out
            case measure => simp [intOf]; omega
          · have hip : (0 : Int) < i := by omega
            have d3 : decide (0 < i) = true := decide_eq_true (by omega)
            have hw : IntKind.i64.wrap ((i : Int) - 1) = ((i - 1 : Nat) : Int) := by rw [show ((i : Int) - 1) = ((i - 1 : Nat) : Int) by omega]; exact IntWalk.i64_in _ (by omega)
            have hip1 : i - 1 < xs.length := by omega
            obtain ⟨b', o', e', hc', hx'⟩ := (HH.out.extN XX.out).at_ (i - 1) hip1
            have e1 : b' = b ∧ o' = o := by cases e'; exact ⟨rfl, rfl⟩
            obtain ⟨rfl, rfl⟩ := e1
            generalize hyi : xs[i - 1] = y at *
            have HY := Go.Lib.hid hyi; clear hyi e'
            generalize hpn : i - 1 = p at *
            have HPn := Go.Lib.hid hpn; clear hpn
            have hp0 : (0 : Int) ≤ (p : Int) := by omega
            have hp1 : (p : Int) < (xs.length : Int) := by omega
            by_cases h4 : y < x
            · have d4 : decide (x ≤ y) = false := decide_eq_false (by omega)
              have HO : Hid (okM xs i hlt) := Go.Lib.hid ⟨by rw [HX.out]; exact h1, by rw [HX.out]; exact h2, fun h0 => by
                have hp := HPn.out
                subst hp
                rw [HX.out, HY.out]; exact h4⟩
              go_wp2_with fail
              go_quiet (fail)
              go_wp2
              go_roundw
              case rel =>
                refine ⟨i + 1, hlt, by go_num, XX.out.drewN _, fun j hj hji => ?_⟩
                rcases Nat.lt_or_eq_of_le (Nat.lt_succ_iff.1 hji) with h | rfl
                · exact HN.out j hj h
                · exact HO.out
              case measure => simp [intOf]; omega
            · have d4 : decide (x ≤ y) = true := decide_eq_true (by omega)
              have HO := Go.Lib.hid (BAD.out (fun ho => h4 (by
                have := ho.2.2 (by omega)
                have hp := HPn.out
                subst hp
                rw [HX.out, HY.out] at this; exact this)))
              go_wp2_with fail
              go_quiet (fail)
              go_wp2
              go_ret
              exact ⟨ret_bool HO.out.symm, XX.out.drewN _⟩
        · have d2 : decide (16 ≤ x) = true := decide_eq_true (by omega)
          have HO := Go.Lib.hid (BAD.out (fun ho => h2 (by have := ho.2.1; rw [HX.out] at this; exact this)))
          go_wp2_with fail
          go_quiet (fail)
          go_wp2
          go_ret
          exact ⟨ret_bool HO.out.symm, XX.out.drewN _⟩
      · have d1 : decide (x < 0) = true := decide_eq_true (by omega)
        have HO := Go.Lib.hid (BAD.out (fun ho => h1 (by have := ho.1; rw [HX.out] at this; exact this)))
        go_wp2_with fail
        go_quiet (fail)
        go_wp2
        go_ret
        exact ⟨ret_bool HO.out.symm, XX.out.drewN _⟩
    · have HO := Go.Lib.hid (show membersB xs = (decide (4 ≤ xs.length) && decide (xs.length ≤ 10)) by
        unfold membersB
        rw [(rising_okM xs).2 (fun j hj => HN.out j hj (by omega))]; rfl)
      by_cases h4 : 4 ≤ xs.length
      · go_wp2
        go_ret
        exact ⟨ret_bool (by rw [HO.out, Bool.eq_iff_iff]; simp; omega), XX.out⟩
      · go_wp2
        go_ret
        exact ⟨ret_bool (by rw [HO.out, Bool.eq_iff_iff]; simp; omega), XX.out⟩
end Go.Proofs.Ytakbkpklfihfiaa
