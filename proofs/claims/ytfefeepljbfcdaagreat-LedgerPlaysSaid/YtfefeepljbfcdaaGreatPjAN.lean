/- Joined texts: RefW2. What each proves stands at its head; no conditions beside those in its theorems. -/
import Derived.Test.YtfefeepljbfcdaaGreatPjAD
import Derived.Test.YtfefeepljbfcdaaGreatPjAA
import Derived.Test.YtfefeepljbfcdaaGreatPjAB
import Derived.Test.YtfefeepljbfcdaaGreatPjAG
import Derived.Test.YtfefeepljbfcdaaGreatPjAL
import Derived.Test.YtfefeepljbfcdaaGreatPjAM
/- Contracts of the reference of layer 1: the writer, continued. -/
namespace Go.Proofs.YtfefeepljbfcdaaGreat
open Go.RowKit Go.Lib
set_option linter.unusedSimpArgs false
set_option linter.unusedVariables false

theorem put_any (n0 b : Nat) (W : Wr) (v : Value) (l : List UInt8) (hl : l.length ≤ 1048576) (hp : 0 < l.length) (m0 : Nat) (w : World) (h : RW w n0 b W) (h0 : n0 ≤ w.heap.size) (ho : w.ownsRow m0 5 1 v l.length (bcells l)) :
    Calls Tryz.prog 105 #[.pointer (some ⟨b, 0, none⟩), v, .bool true] w fun e w' => e = .returned (.tuple #[]) ∧ RWrote w w' n0 b (putW W true l) := by
  obtain ⟨ad, c, rfl⟩ := new_slice ho hp
  exact refw_put n0 b W ad c l hl w h h0 (new_cells ho)
set_option maxHeartbeats 2000000 in
set_option maxRecDepth 100000 in
theorem refw_Bits (n0 b : Nat) (W : Wr) (n : Nat) (hn : n < 18446744073709551616) (w : World) (h : RW w n0 b W) (h0 : n0 ≤ w.heap.size) : Calls Tryz.prog 67 #[.pointer (some ⟨b, 0, none⟩), .int .u64 n] w fun e w' => e = .returned (.tuple #[]) ∧ RWrote w w' n0 b (bitsW W n) := by
  have H := Go.Lib.hid h
  clear h
  unfold bitsW
  go_enter Tryz.func67, Tryz.ntmps67
  go_wp2_with fail
  refine (refw_big8 (n : Int) (by omega) (by omega) _).mono ?_
  rintro e w1 ⟨v, rfl, o1, x1⟩
  obtain ⟨ad, cap, hv⟩ := new_slice o1 (by simp [big8, big4])
  subst hv
  have X1 := Go.Lib.hid x1; have O1 := Go.Lib.hid o1
  clear x1 o1
  go_wp2_with fail
  refine (refw_put n0 b W ad cap (big8 (n : Int)) (by simp [big8, big4]) _ (H.out.extN X1.out) (Nat.le_trans h0 X1.out.size) (new_cells O1.out)).mono ?_
  rintro e w2 ⟨rfl, x2⟩
  go_wp2
  go_returns
  exact ⟨rfl, (RWrote.extN H.out X1.out).trans x2⟩
set_option maxHeartbeats 2000000 in
set_option maxRecDepth 100000 in
theorem refw_Text (n0 b : Nat) (W : Wr) (s : ByteArray) (hsz : s.size ≤ 9223372036854775807) (w : World) (h : RW w n0 b W) (h0 : n0 ≤ w.heap.size) : Calls Tryz.prog 66 #[.pointer (some ⟨b, 0, none⟩), .string s] w fun e w' => e = .returned (.tuple #[]) ∧ RWrote w w' n0 b (textW W s.data.toList) := by
  have H := Go.Lib.hid h
  clear h
  have HLen := Go.Lib.hid (show s.data.toList.length = s.size from size_data s)
  unfold textW
  by_cases h2 : s.size ≤ 65535
  · have HD := Go.Lib.hid (show decide (s.data.toList.length ≤ 65535) = true by rw [HLen.out]; exact decide_eq_true h2)
    have h2i : ((s.size : Nat) : Int) ≤ 65535 := by omega
    have hu : IntKind.u64.wrap ((s.size : Nat) : Int) = s.size := by rw [IntKind.wrap_u64]; omega
    obtain ⟨i0, hi, hz0, hz1, hz2⟩ := info_parts info_u8
    go_enter Tryz.func66, Tryz.ntmps66
    go_wp2_with fail
    refine (refw_big2 ((s.size : Nat) : Int) (by omega) (by omega) _).mono ?_
    rintro e w1 ⟨v, rfl, o1, x1⟩
    have X1 := Go.Lib.hid x1; have O1 := Go.Lib.hid o1
    have hb2 : (big2 ((s.size : Nat) : Int)).length = 2 := rfl
    rw [hb2] at O1
    obtain ⟨ad, cap, hv⟩ := new_slice O1.out (by decide)
    subst hv
    clear x1 o1 hb2
    go_wp2_with (at_builtin; refine wpList_append_own_string _ rfl _ _ 120 9 rfl w.heap.size 5 i0 Tryz.underlying120 Tryz.underlying9 hi hz0 hz1 hz2 _ 2 _ rfl O1.out s rfl ?qc1 ?qc2 ?qc3 ?_)
    case qc1 => unfold maxLen; omega
    case qc2 => omega
    case qc3 => exact X1.out.size
    intro v' w2 hown hgrow hnil
    have HS := Go.Lib.hid (show (big2 (s.size : Int) ++ s.data.toList).length = 2 + s.size by rw [List.length_append, HLen.out]; rfl)
    have OW := Go.Lib.hid (show w2.ownsRow w.heap.size 5 1 v' (big2 (s.size : Int) ++ s.data.toList).length (bcells (big2 (s.size : Int) ++ s.data.toList)) by rw [HS.out, bcells_append]; exact hown)
    have lo : ∀ k, (Value.slice (some ad) 2 cap).ownBlock = some k → w.heap.size ≤ k := fun k e => (own_isU8 O1.out k e).1
    have x2 : Ext Non w w2 := X1.out.step (Ext.ofGrown (S := fun k => w.heap.size ≤ k) hgrow (fun k hk => .inl (lo k hk))) (fun i hi e => by omega)
    have X2 := Go.Lib.hid x2
    clear hown hgrow hnil x2 lo
    go_wp2_with fail
    refine (put_any n0 b W v' _ (by rw [HS.out]; omega) (by rw [HS.out]; omega) _ _ (H.out.extN X2.out) (Nat.le_trans h0 X2.out.size) OW.out).mono ?_
    rintro e w3 ⟨rfl, x3⟩
    go_wp2
    go_returns
    rw [HD.out, HLen.out]
    exact ⟨rfl, (RWrote.extN H.out X2.out).trans x3⟩
  · have HD := Go.Lib.hid (show decide (s.data.toList.length ≤ 65535) = false by rw [HLen.out]; exact decide_eq_false h2)
    have h2i : (65535 : Int) < ((s.size : Nat) : Int) := by omega
    have HQ := Go.Lib.hid (putW_false W (big2 ((s.data.toList.length : Nat) : Int) ++ s.data.toList))
    go_enter Tryz.func66, Tryz.ntmps66
    go_wp2_with fail
    refine (refw_put_no n0 b W _ H.out).mono ?_
    rintro e w2 ⟨rfl, x2⟩
    go_wp2
    go_returns
    exact ⟨rfl, by rw [HD.out, HQ.out]; exact x2⟩
theorem refw_Done (n0 b : Nat) (W : Wr) (w : World) (h : RW w n0 b W) : Calls Tryz.prog 69 #[.pointer (some ⟨b, 0, none⟩)] w fun e w' => e = .returned (.tuple #[.string (doneS W), .int .i64 W.err]) ∧ Ext Non w w' := by
  have H := Go.Lib.hid h
  obtain ⟨v, r, o⟩ := h.ex
  have q2 : w.cell? ⟨b, 2, none⟩ = some (.int .i64 W.err) := cell_of_heap r rfl
  have q0 : w.cell? ⟨b, 0, none⟩ = some v := cell_of_heap r rfl
  have O := Go.Lib.hid o
  clear h r
  by_cases he : W.err = 0
  · rw [he] at q2
    have HE := Go.Lib.hid he
    have HS := Go.Lib.hid (show doneS W = ⟨W.bs.toArray⟩ by unfold doneS; rw [if_pos he])
    have hcv : ∀ src dst, (Tryz.prog).underlying src = some (.slice 5) → (Tryz.prog).underlying dst = some .string → (convert src dst v).run Tryz.prog w = .ok (.string ⟨W.bs.toArray⟩) w := by
      intro src dst hs hd
      rcases o.2 with ⟨rfl, h0⟩ | ⟨g, cap, cur, rfl, hb, hg, hl, hm, hsz, ht⟩
      · rw [run_convert_bytes_string w src dst 5 none 0 0 hs Tryz.underlying5 hd]
        have : W.bs = [] := List.eq_nil_of_length_eq_zero h0
        rw [this]
        rfl
      · refine run_convert_bytes_back w src dst 5 ⟨g, 0, none⟩ cap W.bs hs Tryz.underlying5 hd (fun j hj => ?_)
        exact o.cells (g := g) rfl j _ (by simp [bcells, hj])
    have hc := hcv 120 9 Tryz.underlying120 Tryz.underlying9
    clear he hcv o
    go_enter Tryz.func69, Tryz.ntmps69
    go_wp2
    go_returns
    exact ⟨by rw [HS.out, HE.out]; rfl, Ext.refl _ _⟩
  · have HS := Go.Lib.hid (show doneS W = ⟨#[]⟩ by unfold doneS; rw [if_neg he])
    have hb : (W.err != 0) = true := by rw [bne_iff_ne]; exact he
    clear he o
    go_enter Tryz.func69, Tryz.ntmps69
    go_wp2_with fail
    go_region
    all_goals go_wp2
    all_goals go_returns
    all_goals exact ⟨by rw [HS.out]; rfl, (Ext.refl _ _).drew⟩
end Go.Proofs.YtfefeepljbfcdaaGreat
