/- Contracts of layer 11: what is prepared; the reference's. -/
import Derived.Test.YtakbkpklfihfiaaDeedsT
namespace Go.Proofs.Ytakbkpklfihfiaa
open Go.RowKit Go.Lib F64
set_option linter.unusedSimpArgs false
set_option linter.unusedVariables false

def headS (sg a b c : Int) (t : ByteArray) : ByteArray := if ok32 a b c = true then ⟨(headL sg a b c ++ t.data.toList).toArray⟩ else ⟨#[]⟩
def headE (a b c : Int) : Int := if ok32 a b c = true then 0 else 1
theorem append_bytes (l : List UInt8) (t : ByteArray) : (⟨l.toArray⟩ : ByteArray) ++ t = ⟨(l ++ t.data.toList).toArray⟩ := by
  apply ByteArray.ext
  rw [ByteArray.data_append]
  simp
theorem prep_head (e v s : Int) (r : Req) (h : reqE r = 0) : prepS e v s r = headS 80 e v s (reqS r) ∧ prepE e v s r = headE e v s := by
  unfold prepS prepL prepE prepB headS headE reqS
  rw [decide_eq_true h, Bool.true_and]
  cases ok32 e v s <;> simp
theorem prep_no (e v s : Int) (r : Req) (h : reqE r ≠ 0) : prepS e v s r = ⟨#[]⟩ ∧ prepE e v s r = 1 := by
  unfold prepS prepL prepE prepB
  rw [decide_eq_false h, Bool.false_and]
  exact ⟨rfl, rfl⟩
theorem reqE_01 (r : Req) : reqE r = 0 ∨ reqE r = 1 := by unfold reqE; split; exact .inl rfl; split; exact .inl rfl; exact .inr rfl
theorem reqS_no (r : Req) (h : reqE r = 1) : reqS r = ⟨#[]⟩ := by
  unfold reqE at h
  unfold reqS reqL
  split at h
  · cases h
  · rename_i hn
    rw [if_neg hn]
    split at h
    · cases h
    · rename_i hr
      rw [if_neg hr]

set_option maxHeartbeats 2000000 in
set_option maxRecDepth 100000 in
theorem deeds_headed (sg a b c : Int) (hsg : 0 ≤ sg ∧ sg ≤ 255) (ha : I64 a) (hb : I64 b) (hc : I64 c) (t : ByteArray) (ht : t.size ≤ 1000000) (g : Nat) (w : World) (h : Bx w g [.int .i64 a, .int .i64 b, .int .i64 c] 3) :
    Calls Try.prog 116 #[.int .i64 sg, .string t, .slice (some ⟨g, 0, none⟩) 3 3] w fun e w' => e = .returned (.tuple #[.string (headS sg a b c t), .int .i64 (headE a b c)]) ∧ Ext Non w w' := by
  have BG := Go.Lib.hid h
  have HI := Go.Lib.hid (And.intro ha (And.intro hb hc))
  have HS := Go.Lib.hid hsg
  have HR := Go.Lib.hid (head_run (lim := 64) (a := a) (b := b) (c := c) (by decide) hsg)
  clear h ha hb hc hsg
  go_enter Try.func116, Try.ntmps116
  go_wp2_with fail
  refine (pack_New 64 (by decide) w.heap.size _ (Nat.le_refl _)).mono ?_
  rintro e w1 ⟨bw, rfl, x1, p1, hbw⟩
  have hg : g < w.heap.size := BG.out.lt
  have B1 := Go.Lib.hid (BG.out.extN x1)
  have P1 := Go.Lib.hid p1; have X1 := Go.Lib.hid x1
  clear x1 p1
  go_wp2_with fail
  refine (pack_Byte w.heap.size bw _ sg (by have := HS.out; unfold I64; omega) _ P1.out X1.out.size).mono ?_
  rintro e w2 ⟨rfl, y2⟩
  have B2 := Go.Lib.hid (B1.out.wrote y2.x hbw hg)
  have P2 := Go.Lib.hid y2.p
  have X2 := Go.Lib.hid (X1.out.step y2.x (fun i hi s => by rcases s with s | s <;> omega))
  clear y2
  have q0 : w2.cell? ⟨g, 0, none⟩ = some (.int .i64 a) := B2.out.cell rfl
  go_wp2_with fail
  refine wp_loop_rounds 4 ?_
  rw [rounds_succ]
  go_wp2_with fail
  refine (pack_Long w.heap.size bw _ a HI.out.1 _ P2.out X2.out.size).mono ?_
  rintro e w3 ⟨rfl, y3⟩
  have B3 := Go.Lib.hid (B2.out.wrote y3.x hbw hg)
  have P3 := Go.Lib.hid y3.p
  have X3 := Go.Lib.hid (X2.out.step y3.x (fun i hi s => by rcases s with s | s <;> omega))
  clear y3 q0
  have q1 : w3.cell? ⟨g, 1, none⟩ = some (.int .i64 b) := B3.out.cell rfl
  go_wp2_with fail
  rw [rounds_succ]
  go_wp2_with fail
  refine (pack_Long w.heap.size bw _ b HI.out.2.1 _ P3.out X3.out.size).mono ?_
  rintro e w4 ⟨rfl, y4⟩
  have B4 := Go.Lib.hid (B3.out.wrote y4.x hbw hg)
  have P4 := Go.Lib.hid y4.p
  have X4 := Go.Lib.hid (X3.out.step y4.x (fun i hi s => by rcases s with s | s <;> omega))
  clear y4 q1
  have q2 : w4.cell? ⟨g, 2, none⟩ = some (.int .i64 c) := B4.out.cell rfl
  go_wp2_with fail
  rw [rounds_succ]
  go_wp2_with fail
  refine (pack_Long w.heap.size bw _ c HI.out.2.2 _ P4.out X4.out.size).mono ?_
  rintro e w5 ⟨rfl, y5⟩
  have P5 : Hid (PW w5 w.heap.size bw (headW 64 sg a b c)) := Go.Lib.hid y5.p
  have X5 := Go.Lib.hid (X4.out.step y5.x (fun i hi s => by rcases s with s | s <;> omega))
  clear y5 q2
  go_wp2_with fail
  rw [rounds_succ]
  go_wp2_with fail
  refine (pack_Done _ _ _ _ P5.out).mono ?_
  rintro e w6 ⟨rfl, x6⟩
  have X6 := Go.Lib.hid (X5.out.trans x6)
  clear x6
  cases ho : ok32 a b c
  · have he := HR.out.2 ho
    have hbe : ((headW 64 sg a b c).err != 0) = true := by rw [bne_iff_ne]; exact he
    have HF := Go.Lib.hid (show headS sg a b c t = ⟨#[]⟩ ∧ headE a b c = 1 by unfold headS headE; rw [ho]; exact ⟨rfl, rfl⟩)
    generalize (headW 64 sg a b c).err = er at *
    clear ho he
    go_wp2
    go_returns
    exact ⟨by rw [HF.out.1, HF.out.2]; rfl, X6.out⟩
  · have hw := HR.out.1 ho
    have HF := Go.Lib.hid (show headS sg a b c t = (⟨(headL sg a b c).toArray⟩ : ByteArray) ++ t ∧ headE a b c = 0 by unfold headS headE; rw [ho, append_bytes]; exact ⟨rfl, rfl⟩)
    rw [hw]
    rw [show doneS ⟨headL sg a b c, 64 - 13, 0⟩ = ⟨(headL sg a b c).toArray⟩ from rfl]
    have hds : (⟨(headL sg a b c).toArray⟩ : ByteArray).size = 13 := rfl
    generalize (⟨(headL sg a b c).toArray⟩ : ByteArray) = hd at *
    have hsum : ((hd.size : Nat) : Int) + ((t.size : Nat) : Int) ≤ 9223372036854775807 := by rw [hds]; omega
    clear ho hw hds
    go_wp2
    go_returns
    exact ⟨by rw [HF.out.1, HF.out.2]; rfl, X6.out⟩
theorem reqS_size (r : Req) : (reqS r).size ≤ 34 := by
  unfold reqS reqL
  split
  · decide
  · split
    · rename_i h
      obtain ⟨h1, h2, h3, h4, h5⟩ := rightB_facts h
      obtain ⟨o1, o2, o3, o4, o5⟩ := op_bounds h5
      have : (keyL r).length = r.op.key.size := size_data _
      have := reqT_length r
      show (reqT r).toArray.size ≤ 34
      rw [List.size_toArray]; omega
    · decide
set_option maxHeartbeats 2000000 in
set_option maxRecDepth 100000 in
theorem deeds_Prepared (ep vw sl c s k : Int) (key : ByteArray) (x : Nat) (id : Int) (he : I64 ep) (hv : I64 vw) (hsl : I64 sl) (hc : I64 c) (hs : I64 s) (hk : I64 k) (hid : I64 id) (hx : x < 18446744073709551616) (hks : key.size ≤ 9223372036854775807) (w : World) :
    Calls Try.prog 70 #[.int .i64 ep, .int .i64 vw, .int .i64 sl, .agg #[.int .i64 c, .int .i64 s, .int .i64 k, .string key, .float .f64 x, .int .i64 id]] w fun e w' =>
    e = .returned (.tuple #[.string (prepS ep vw sl ⟨c, s, ⟨k, key, x, id⟩⟩), .int .i64 (prepE ep vw sl ⟨c, s, ⟨k, key, x, id⟩⟩)]) ∧ Ext Non w w' := by
  have HC := Go.Lib.hid (And.intro hc (And.intro hs (And.intro hk (And.intro hid (And.intro hx (And.intro hks (And.intro he (And.intro hv hsl))))))))
  clear hc hs hk hid hx hks he hv hsl
  have X0 := Go.Lib.hid ((Ext.refl Non w).alloc (.cells #[.int .i64 c, .int .i64 s, .int .i64 k, .string key, .float .f64 x, .int .i64 id] 49))
  go_enter Try.func70, Try.ntmps70
  go_wp2_with fail
  obtain ⟨a1, a2, a3, a4, a5, a6, a7, a8, a9⟩ := HC.out
  refine (deeds_Text _ _ _ _ _ _ a1 a2 a3 a4 a5 a6 _).mono ?_
  rintro e w1 ⟨rfl, x1⟩
  have X1 := Go.Lib.hid (X0.out.trans x1)
  clear x1 a1 a2 a3 a4 a5 a6
  rcases reqE_01 ⟨c, s, ⟨k, key, x, id⟩⟩ with h | h
  · have HP := Go.Lib.hid (prep_head ep vw sl _ h)
    have HZ := Go.Lib.hid (reqS_size ⟨c, s, ⟨k, key, x, id⟩⟩)
    rw [h]
    generalize reqS ⟨c, s, ⟨k, key, x, id⟩⟩ = t at *
    clear h
    go_wp2_with fail
    have BG := Bx.new w1 [.int .i64 ep, .int .i64 vw, .int .i64 sl] 3
    have XA := Go.Lib.hid (X1.out.alloc (.cells #[.int .i64 ep, .int .i64 vw, .int .i64 sl] 3))
    refine (deeds_headed 80 ep vw sl (by decide) a7 a8 a9 t (by have := HZ.out; omega) w1.heap.size _ BG).mono ?_
    rintro e w2 ⟨rfl, x2⟩
    go_wp2
    go_returns
    exact ⟨by rw [HP.out.1, HP.out.2]; rfl, XA.out.trans x2⟩
  · have HP := Go.Lib.hid (prep_no ep vw sl ⟨c, s, ⟨k, key, x, id⟩⟩ (by rw [h]; decide))
    rw [h]
    clear h
    go_wp2
    go_returns
    exact ⟨by rw [HP.out.1, HP.out.2]; rfl, X1.out⟩
set_option maxHeartbeats 2000000 in
set_option maxRecDepth 100000 in
theorem ref_Prepared (ep vw sl c s k : Int) (key : ByteArray) (x : Nat) (id : Int) (he : I64 ep) (hv : I64 vw) (hsl : I64 sl) (hc : I64 c) (hs : I64 s) (hk : I64 k) (hid : I64 id) (hx : x < 18446744073709551616) (hks : key.size ≤ 9223372036854775807) (w : World) :
    Calls Try.prog 53 #[.int .i64 ep, .int .i64 vw, .int .i64 sl, .agg #[.int .i64 c, .int .i64 s, .int .i64 k, .string key, .float .f64 x, .int .i64 id]] w fun e w' =>
    e = .returned (.tuple #[.string (prepS ep vw sl ⟨c, s, ⟨k, key, x, id⟩⟩), .int .i64 (prepE ep vw sl ⟨c, s, ⟨k, key, x, id⟩⟩)]) ∧ Ext Non w w' := by
  have HC := Go.Lib.hid (And.intro hc (And.intro hs (And.intro hk (And.intro hid (And.intro hx (And.intro hks (And.intro he (And.intro hv hsl))))))))
  clear hc hs hk hid hx hks he hv hsl
  have X0 := Go.Lib.hid ((Ext.refl Non w).alloc (.cells #[.int .i64 c, .int .i64 s, .int .i64 k, .string key, .float .f64 x, .int .i64 id] 49))
  go_enter Try.func53, Try.ntmps53
  go_wp2_with fail
  obtain ⟨a1, a2, a3, a4, a5, a6, a7, a8, a9⟩ := HC.out
  refine (ref_Text _ _ _ _ _ _ a1 a2 a3 a4 a5 a6 _).mono ?_
  rintro e w1 ⟨rfl, x1⟩
  have X1 := Go.Lib.hid (X0.out.trans x1)
  clear x1 a1 a2 a3 a4 a5 a6
  rcases reqE_01 ⟨c, s, ⟨k, key, x, id⟩⟩ with h | h
  · have HP := Go.Lib.hid (prep_head ep vw sl _ h)
    have HZ := Go.Lib.hid (reqS_size ⟨c, s, ⟨k, key, x, id⟩⟩)
    have HR := Go.Lib.hid (head_run (lim := 100) (sg := 80) (a := ep) (b := vw) (c := sl) (by decide) (by decide))
    rw [h]
    generalize reqS ⟨c, s, ⟨k, key, x, id⟩⟩ = t at *
    clear h
    go_wp2_with fail
    refine (refw_New 100 (by decide) w1.heap.size _ (Nat.le_refl _)).mono ?_
    rintro e w2 ⟨bw, rfl, x2, p2, hbw⟩
    have P2 := Go.Lib.hid p2; have X2 := Go.Lib.hid x2
    clear x2 p2
    go_wp2_with fail
    refine (refw_Num1 w1.heap.size bw _ 80 (by unfold I64; omega) _ P2.out X2.out.size).mono ?_
    rintro e w3 ⟨rfl, y3⟩
    have P3 := Go.Lib.hid y3.p
    have X3 := Go.Lib.hid (X2.out.step y3.x (fun i hi s => by rcases s with s | s <;> omega))
    clear y3
    go_wp2_with fail
    refine (refw_Num4 w1.heap.size bw _ ep a7 _ P3.out X3.out.size).mono ?_
    rintro e w4 ⟨rfl, y4⟩
    have P4 := Go.Lib.hid y4.p
    have X4 := Go.Lib.hid (X3.out.step y4.x (fun i hi s => by rcases s with s | s <;> omega))
    clear y4
    go_wp2_with fail
    refine (refw_Num4 w1.heap.size bw _ vw a8 _ P4.out X4.out.size).mono ?_
    rintro e w5 ⟨rfl, y5⟩
    have P5 := Go.Lib.hid y5.p
    have X5 := Go.Lib.hid (X4.out.step y5.x (fun i hi s => by rcases s with s | s <;> omega))
    clear y5
    go_wp2_with fail
    refine (refw_Num4 w1.heap.size bw _ sl a9 _ P5.out X5.out.size).mono ?_
    rintro e w6 ⟨rfl, y6⟩
    have P6 : Hid (RW w6 w1.heap.size bw (headW 100 80 ep vw sl)) := Go.Lib.hid y6.p
    have X6 := Go.Lib.hid (X5.out.step y6.x (fun i hi s => by rcases s with s | s <;> omega))
    clear y6
    go_wp2_with fail
    refine (refw_Done _ _ _ _ P6.out).mono ?_
    rintro e w7 ⟨rfl, x7⟩
    have X7 := Go.Lib.hid ((X1.out.trans X6.out).trans x7)
    clear x7
    cases ho : ok32 ep vw sl
    · have he := HR.out.2 ho
      have hbe : ((headW 100 80 ep vw sl).err != 0) = true := by rw [bne_iff_ne]; exact he
      have HF := Go.Lib.hid (show headS 80 ep vw sl t = ⟨#[]⟩ ∧ headE ep vw sl = 1 by unfold headS headE; rw [ho]; exact ⟨rfl, rfl⟩)
      generalize (headW 100 80 ep vw sl).err = er at *
      clear ho he
      go_wp2
      go_returns
      exact ⟨by rw [HP.out.1, HP.out.2, HF.out.1, HF.out.2]; rfl, X7.out⟩
    · have hw := HR.out.1 ho
      have HF := Go.Lib.hid (show headS 80 ep vw sl t = (⟨(headL 80 ep vw sl).toArray⟩ : ByteArray) ++ t ∧ headE ep vw sl = 0 by unfold headS headE; rw [ho, append_bytes]; exact ⟨rfl, rfl⟩)
      rw [hw]
      rw [show doneS ⟨headL 80 ep vw sl, 100 - 13, 0⟩ = ⟨(headL 80 ep vw sl).toArray⟩ from rfl]
      have hds : (⟨(headL 80 ep vw sl).toArray⟩ : ByteArray).size = 13 := rfl
      generalize (⟨(headL 80 ep vw sl).toArray⟩ : ByteArray) = hd at *
      have hsum : ((hd.size : Nat) : Int) + ((t.size : Nat) : Int) ≤ 9223372036854775807 := by rw [hds]; have := HZ.out; omega
      clear ho hw hds
      go_wp2
      go_returns
      exact ⟨by rw [HP.out.1, HP.out.2, HF.out.1, HF.out.2]; rfl, X7.out⟩
  · have HP := Go.Lib.hid (prep_no ep vw sl ⟨c, s, ⟨k, key, x, id⟩⟩ (by rw [h]; decide))
    rw [h]
    clear h
    go_wp2
    go_returns
    exact ⟨by rw [HP.out.1, HP.out.2]; rfl, X1.out⟩
end Go.Proofs.Ytakbkpklfihfiaa
