/- Joined texts: Pack. What each proves stands at its head; no conditions beside those in its theorems. -/
import Derived.Test.YtflpkoafebjfdaaGreatProg
import Derived.Lib.AppendStr
import Derived.Laws.AppendOwn
import Derived.Test.YtflpkoafebjfdaaGreatPjAH
/- Contracts of layer 1 (pack): the writer. -/
namespace Go.Proofs.YtflpkoafebjfdaaGreat
open Go.RowKit Go.Lib
set_option linter.unusedSimpArgs false
set_option linter.unusedVariables false

def bcells (l : List UInt8) : List Value := l.map fun b => Value.int .u8 b.toNat
theorem bcells_length (l : List UInt8) : (bcells l).length = l.length := by simp [bcells]
theorem bcells_one (l : List UInt8) : ∀ u ∈ bcells l, u.oneCell' = true := by intro u hu; obtain ⟨x, _, rfl⟩ := List.mem_map.1 hu; rfl
theorem bcells_append (a b : List UInt8) : bcells (a ++ b) = bcells a ++ bcells b := by simp [bcells]
/-- Block k is a row of bytes. -/
def isU8 (w : World) (k : Nat) : Prop := ∃ cs fr, w.heap[k]? = some (.cells cs 5 fr)
/-- Block b is a writer; its bytes lie in a block of their own that is not older than n0. -/
structure PW (w : World) (n0 b : Nat) (W : Wr) : Prop where
  ex : ∃ v, w.heap[b]? = some (.cells [v, .int .i64 W.room, .int .i64 W.err].toArray 247 (0, 0)) ∧ w.ownsRow n0 5 1 v W.bs.length (bcells W.bs)
  nb : n0 ≤ b
  ok : WOk W
/-- The blocks that a writer may write. -/
def WB (n0 b : Nat) (w : World) : Nat → Prop := fun k => k = b ∨ (n0 ≤ k ∧ isU8 w k)
theorem own_isU8 {w : World} {n0 : Nat} {v : Value} {n : Nat} {xs : List Value} (h : w.ownsRow n0 5 1 v n xs) : ∀ k, v.ownBlock = some k → n0 ≤ k ∧ isU8 w k := by
  intro k e
  rcases h.2 with ⟨rfl, _⟩ | ⟨g, cap, cur, rfl, hb, hg, _⟩
  · simp [Value.ownBlock] at e
  · simp [Value.ownBlock] at e
    subst e
    exact ⟨hb, _, _, hg⟩
theorem own_keep {w w' : World} {n0 : Nat} {v : Value} {n : Nat} {xs : List Value} {S : Nat → Prop} (h : w.ownsRow n0 5 1 v n xs) (x : Ext S w w') (hs : ∀ k, v.ownBlock = some k → ¬ S k) : w'.ownsRow n0 5 1 v n xs := by
  rcases h.2 with ⟨rfl, h0⟩ | ⟨g, cap, cur, rfl, hb, hg, rr⟩
  · exact ⟨h.1, .inl ⟨rfl, h0⟩⟩
  · exact ⟨h.1, .inr ⟨g, cap, cur, rfl, hb, (x.block g (Array.getElem?_eq_some_iff.1 hg).1 (hs g rfl)).trans hg, rr⟩⟩
theorem own_slice {w : World} {n0 : Nat} {v : Value} {n : Nat} {xs : List Value} (h : w.ownsRow n0 5 1 v n xs) : ∃ a c, v = .slice a n c := by
  rcases h.2 with ⟨rfl, h0⟩ | ⟨g, cap, cur, rfl, _⟩
  · exact ⟨none, 0, by rw [h0]⟩
  · exact ⟨_, _, rfl⟩
theorem PW.lt {w : World} {n0 b : Nat} {W : Wr} (h : PW w n0 b W) : b < w.heap.size := by
  obtain ⟨_, h, _⟩ := h.ex
  exact (Array.getElem?_eq_some_iff.1 h).1
theorem PW.noU8 {w : World} {n0 b : Nat} {W : Wr} (h : PW w n0 b W) : ¬ isU8 w b := by
  rintro ⟨cs, fr, e⟩
  obtain ⟨_, h, _⟩ := h.ex
  rw [h] at e; injection e with e; injection e with _ e _; revert e; decide
theorem PW.base {w : World} {n0 b : Nat} {W : Wr} (h : PW w n0 b W) : ∀ k, WB n0 b w k → n0 ≤ k := by
  rintro k (rfl | e)
  · exact h.nb
  · exact e.1
theorem PW.ext {S : Nat → Prop} {w w' : World} {n0 b : Nat} {W : Wr} (h : PW w n0 b W) (x : Ext S w w') (hs : ∀ k, WB n0 b w k → ¬ S k) : PW w' n0 b W := by
  obtain ⟨v, r, o⟩ := h.ex
  exact ⟨⟨v, (x.block b h.lt (hs b (.inl rfl))).trans r, own_keep o x fun k e => hs k (.inr (own_isU8 o k e))⟩, h.nb, h.ok⟩
theorem PW.extN {w w' : World} {n0 b : Nat} {W : Wr} (h : PW w n0 b W) (x : Ext Non w w') : PW w' n0 b W := h.ext x fun _ _ f => f
/-- Steps of a writer, one behind the other. -/
theorem Ext.wtrans {w w' w'' : World} {n0 b : Nat} (h : Ext (WB n0 b w) w w') (k : Ext (WB n0 b w') w' w'') : Ext (WB n0 b w) w w'' :=
  h.step k fun i hi s => by
    rcases s with s | ⟨s1, cs, fr, s2⟩
    · exact .inl s
    · by_cases hb : WB n0 b w i
      · exact hb
      · have := h.block i hi hb
        rw [this] at s2
        exact .inr ⟨s1, cs, fr, s2⟩
/-- Blocks of other types are not the writer's. -/
theorem WB.other {w : World} {n0 b k : Nat} {vs : Array Value} {t : TypeId} {fr : Nat × Nat} (hk : w.heap[k]? = some (.cells vs t fr)) (h1 : k ≠ b) (h2 : t ≠ 5) : ¬ WB n0 b w k := by
  rintro (e | ⟨_, cs, fr', e⟩)
  · exact h1 e
  · rw [e] at hk; injection hk with hk; injection hk with _ hk _; exact h2 hk.symm
/-- What a call of the writer's comes to. -/
structure Wrote (w w' : World) (n0 b : Nat) (W' : Wr) : Prop where
  p : PW w' n0 b W'
  x : Ext (WB n0 b w) w w'
theorem Wrote.same {w : World} {n0 b : Nat} {W : Wr} (h : PW w n0 b W) : Wrote w w n0 b W := ⟨h, Ext.refl _ _⟩
theorem Wrote.extN {w w' : World} {n0 b : Nat} {W : Wr} (h : PW w n0 b W) (x : Ext Non w w') : Wrote w w' n0 b W := ⟨h.extN x, x.ofNon⟩
theorem Wrote.trans {w w' w'' : World} {n0 b : Nat} {W' W'' : Wr} (h : Wrote w w' n0 b W') (k : Wrote w' w'' n0 b W'') : Wrote w w'' n0 b W'' := ⟨k.p, h.x.wtrans k.x⟩
theorem Wrote.new {w0 w w' : World} {n0 b : Nat} {W' : Wr} (h : Wrote w w' n0 b W') (x : Ext Non w0 w) (hb : w0.heap.size ≤ n0) (hb' : n0 ≤ b) : Ext Non w0 w' :=
  x.step h.x fun i hi s => by
    rcases s with s | s
    · omega
    · have := s.1; omega

theorem pack_New (n : Int) (hn : n ≤ 1048576) (n0 : Nat) (w : World) (h0 : n0 ≤ w.heap.size) : Calls Tryz.prog 100 #[.int .i64 n] w fun e w' => ∃ b, e = .returned (.pointer (some ⟨b, 0, none⟩)) ∧ Ext Non w w' ∧ PW w' n0 b (newW n) ∧ w.heap.size ≤ b := by
  by_cases hp : 0 < n
  · have HW := Go.Lib.hid (show newW n = ⟨[], n, 0⟩ by unfold newW; rw [if_pos hp])
    have HO := Go.Lib.hid (WOk.new hn)
    go_enter Tryz.func100, Tryz.ntmps100
    go_wp2
    go_returns
    refine ⟨w.heap.size, rfl, (Ext.refl _ _).alloc _, ⟨⟨.slice none 0 0, ?_, ?_⟩, h0, HO.out⟩, Nat.le_refl _⟩
    · rw [HW.out]; exact heap_alloc_new _ _
    · rw [HW.out]; exact ⟨rfl, .inl ⟨rfl, rfl⟩⟩
  · have HW := Go.Lib.hid (show newW n = ⟨[], 0, 0⟩ by unfold newW; rw [if_neg hp])
    have HO := Go.Lib.hid (WOk.new hn)
    go_enter Tryz.func100, Tryz.ntmps100
    go_wp2
    go_returns
    refine ⟨w.heap.size, rfl, (Ext.refl _ _).alloc _, ⟨⟨.slice none 0 0, ?_, ?_⟩, h0, HO.out⟩, Nat.le_refl _⟩
    · rw [HW.out]; exact heap_alloc_new _ _
    · rw [HW.out]; exact ⟨rfl, .inl ⟨rfl, rfl⟩⟩
theorem pack_fail (n0 b : Nat) (W : Wr) (er : Int) (w : World) (h : PW w n0 b W) : Calls Tryz.prog 176 #[.pointer (some ⟨b, 0, none⟩), .int .i64 er] w fun e w' => e = .returned (.tuple #[]) ∧ Wrote w w' n0 b (failW W er) := by
  have H := Go.Lib.hid h
  obtain ⟨v, r, o⟩ := h.ex
  have q2 : w.cell? ⟨b, 2, none⟩ = some (.int .i64 W.err) := cell_of_heap r rfl
  have z2 : w.frozen? ⟨b, 2, none⟩ = false := froz_of_heap r
  have R := Go.Lib.hid r; have O := Go.Lib.hid o
  clear h r o
  go_enter Tryz.func176, Tryz.ntmps176
  go_wp2
  go_returns
  have r := heap_set_same (k := 2) R.out (.int .i64 er)
  have x : Ext (One b) w (w.setCell ⟨b, 2, none⟩ (.int .i64 er)) := (Ext.refl _ _).set1 _
  refine ⟨rfl, ⟨⟨v, r, own_keep O.out x ?_⟩, H.out.nb, H.out.ok.fail er⟩, x.mono (fun k _ s => .inl s)⟩
  intro k e s
  have s : k = b := s
  subst s
  exact H.out.noU8 (own_isU8 O.out k e).2
theorem info_u8 : (Tryz.prog.info? 5).map (fun i => (i.zero, i.size, i.bytes)) = some (some (.int .u8 0), 1, 1) := by kernel_rfl

set_option maxHeartbeats 1000000 in
set_option maxRecDepth 100000 in
theorem pack_add (n0 b : Nat) (W : Wr) (ad : Addr) (cap : Nat) (l : List UInt8) (hl : l.length ≤ 1048576) (w : World) (h : PW w n0 b W) (h0 : n0 ≤ w.heap.size)
    (hc : ∀ j u, (bcells l)[j]? = some u → w.cell? (ad.add j) = some u) : Calls Tryz.prog 177 #[.pointer (some ⟨b, 0, none⟩), .slice (some ad) l.length cap] w fun e w' => e = .returned (.tuple #[]) ∧ Wrote w w' n0 b (addW W l) := by
  have H := Go.Lib.hid h
  obtain ⟨v, r, o⟩ := h.ex
  have q0 : w.cell? ⟨b, 0, none⟩ = some v := cell_of_heap r rfl
  have q1 : w.cell? ⟨b, 1, none⟩ = some (.int .i64 W.room) := cell_of_heap r rfl
  have HC := Go.Lib.hid hc
  have hro := h.ok.room
  have hli := h.ok.lim
  have R := Go.Lib.hid r; have O := Go.Lib.hid o
  clear h hc r o
  by_cases hr : W.room < l.length
  · have HA := Go.Lib.hid (show addW W l = failW W 3 by unfold addW; rw [if_pos hr])
    go_enter Tryz.func177, Tryz.ntmps177
    go_wp2_with fail
    refine (pack_fail n0 b W 3 _ H.out).mono ?_
    rintro e w1 ⟨rfl, x1⟩
    go_wp2
    go_returns
    exact ⟨rfl, by rw [HA.out]; exact x1⟩
  · have HA := Go.Lib.hid (show addW W l = ⟨W.bs ++ l, W.room - l.length, W.err⟩ by unfold addW; rw [if_neg hr])
    have hw : IntKind.i64.wrap (W.room - (l.length : Int)) = W.room - l.length := IntWalk.i64_in _ (by omega)
    have hbl := H.out.lt
    have HL := Go.Lib.hid (show W.bs.length + l.length ≤ 1048576 by omega)
    have HK := Go.Lib.hid (H.out.ok.add l)
    obtain ⟨i0, hi, hz0, hz1, hz2⟩ := info_parts info_u8
    go_enter Tryz.func177, Tryz.ntmps177
    go_wp2_with (at_builtin; refine wpList_append_own _ rfl _ _ 229 rfl n0 5 i0 (.int .u8 0) 1 1 Tryz.underlying229 hi hz0 hz1 hz2 rfl (by decide) _ _ _ rfl O.out ad l.length cap (bcells l) rfl ?qc1 ?qc2 ?qc3 ?qc4 ?qc5 h0 ?_)
    case qc1 => simp [bcells_length]
    case qc2 => exact HC.out
    case qc3 => exact bcells_one l
    case qc4 => have := HL.out; unfold maxLen; omega
    case qc5 => have := HL.out; omega
    intro v' w1 hown hgrow hnil
    have hown : w1.ownsRow n0 5 1 v' (W.bs ++ l).length (bcells (W.bs ++ l)) := by rw [bcells_append, List.length_append]; exact hown
    obtain ⟨nn, hnn⟩ : ∃ nn, nn = (W.bs ++ l).length := ⟨_, rfl⟩
    rw [← hnn] at hown
    obtain ⟨va, vc, hv'⟩ := own_slice hown
    have HNN := Go.Lib.hid hnn; clear hnn
    subst hv'
    have x1 : Ext (fun k => v.ownBlock = some k) w w1 := Ext.ofGrown hgrow (fun k hk => .inl hk)
    have nb : v.ownBlock ≠ some b := fun e => H.out.noU8 (own_isU8 O.out b e).2
    have R1 := Go.Lib.hid ((x1.block b hbl (fun e => nb e)).trans R.out)
    have z0 : w1.cell? ⟨b, 0, none⟩ = some v := cell_of_heap R1.out rfl
    have z1 : w1.frozen? ⟨b, 0, none⟩ = false := froz_of_heap R1.out
    have R2 := Go.Lib.hid (heap_set_same (k := 0) R1.out (.slice va nn vc))
    have z2 : (w1.setCell ⟨b, 0, none⟩ (.slice va nn vc)).cell? ⟨b, 1, none⟩ = some (.int .i64 W.room) := cell_of_heap R2.out rfl
    have z3 : (w1.setCell ⟨b, 0, none⟩ (.slice va nn vc)).frozen? ⟨b, 1, none⟩ = false := froz_of_heap R2.out
    have OW := Go.Lib.hid hown; have X1 := Go.Lib.hid x1
    clear hown hgrow hnil x1
    go_wp2
    go_returns
    have R3 := heap_set_same (k := 1) R2.out (.int .i64 (W.room - l.length))
    have x3 : Ext (One b) w1 ((w1.setCell ⟨b, 0, none⟩ (.slice va nn vc)).setCell ⟨b, 1, none⟩ (.int .i64 (W.room - l.length))) := ((Ext.refl _ _).set1 _).set1 _
    refine ⟨rfl, ⟨⟨.slice va nn vc, ?_, ?_⟩, H.out.nb, HK.out⟩, ?_⟩
    · rw [HA.out]; exact R3
    · rw [HA.out]
      show World.ownsRow _ _ _ _ _ (W.bs ++ l).length _
      rw [← HNN.out]
      refine own_keep OW.out x3 (fun k e s => ?_)
      have s : k = b := s
      subst s
      obtain ⟨_, cs, fr, e2⟩ := own_isU8 OW.out k e
      rw [R1.out] at e2; injection e2 with e2; injection e2 with _ e2 _; revert e2; decide
    · refine (X1.out.mono fun k hk s => .inr (own_isU8 O.out k s)).step x3 (fun i hi s => .inl s)
/-! ### The fields -/
theorem putW_err {W : Wr} (h : W.err ≠ 0) (ok : Bool) (c : List UInt8) : putW W ok c = W := by unfold putW; rw [if_neg h]
theorem putW_no {W : Wr} (h : W.err = 0) (c : List UInt8) : putW W false c = failW W 4 := by unfold putW; rw [if_pos h]; rfl
theorem putW_ok {W : Wr} (h : W.err = 0) (c : List UInt8) : putW W true c = addW W c := by unfold putW; rw [if_pos h]; rfl
theorem bcells_at {w : World} {k : Nat} {cs : List Value} {t : TypeId} {l : List UInt8} (h : w.heap[k]? = some (.cells cs.toArray t (0, 0))) (he : cs = bcells l) : ∀ j u, (bcells l)[j]? = some u → w.cell? ((⟨k, 0, none⟩ : Addr).add j) = some u := by
  intro j u hj
  rw [addr_add, Nat.zero_add]
  exact cell_of_heap h (by rw [he]; exact hj)
set_option maxHeartbeats 1000000 in
set_option maxRecDepth 100000 in
theorem pack_Byte (n0 b : Nat) (W : Wr) (n : Int) (hn : I64 n) (w : World) (h : PW w n0 b W) (h0 : n0 ≤ w.heap.size) : Calls Tryz.prog 101 #[.pointer (some ⟨b, 0, none⟩), .int .i64 n] w fun e w' => e = .returned (.tuple #[]) ∧ Wrote w w' n0 b (byteW W n) := by
  have H := Go.Lib.hid h
  obtain ⟨v, r, o⟩ := h.ex
  have q2 : w.cell? ⟨b, 2, none⟩ = some (.int .i64 W.err) := cell_of_heap r rfl
  have hI := hn
  clear h r o
  unfold byteW
  by_cases he : W.err = 0
  · rw [he] at q2
    have HE := Go.Lib.hid he
    by_cases h1 : 0 ≤ n
    · by_cases h2 : n ≤ 255
      · have HP := Go.Lib.hid (show putW W (okN n 255) (big1 n) = addW W (big1 n) by rw [show okN n 255 = true by unfold okN; simp [h1, h2]]; exact putW_ok he _)
        have wb : IntKind.u8.wrap n = n := by rw [IntKind.wrap_u8]; omega
        have HB := Go.Lib.hid (show ([Value.int .u8 n] : List Value) = bcells (big1 n) by simp [bcells, big1, lowB_toNat]; omega)
        clear he hI
        go_enter Tryz.func101, Tryz.ntmps101
        go_wp2_with fail
        have A := Go.Lib.hid ((Ext.refl Non w).alloc (.cells #[.int .u8 n] 5))
        refine (pack_add n0 b W ⟨w.heap.size, 0, none⟩ 1 (big1 n) (by simp [big1]) _ (H.out.extN A.out) (Nat.le_trans h0 A.out.size) (bcells_at (heap_alloc_new _ _) HB.out)).mono ?_
        rintro e w1 ⟨rfl, x1⟩
        go_wp2
        go_returns
        exact ⟨rfl, by rw [HP.out]; exact (Wrote.extN H.out A.out).trans x1⟩
      · have HP := Go.Lib.hid (show putW W (okN n 255) (big1 n) = failW W 4 by rw [show okN n 255 = false by unfold okN; simp [h2]]; exact putW_no he _)
        clear he hI
        go_enter Tryz.func101, Tryz.ntmps101
        go_wp2_with fail
        refine (pack_fail n0 b W 4 _ H.out).mono ?_
        rintro e w1 ⟨rfl, x1⟩
        go_wp2
        go_returns
        exact ⟨rfl, by rw [HP.out]; exact x1⟩
    · have HP := Go.Lib.hid (show putW W (okN n 255) (big1 n) = failW W 4 by rw [show okN n 255 = false by unfold okN; simp [h1]]; exact putW_no he _)
      clear he hI
      go_enter Tryz.func101, Tryz.ntmps101
      go_wp2_with fail
      refine (pack_fail n0 b W 4 _ H.out).mono ?_
      rintro e w1 ⟨rfl, x1⟩
      go_wp2
      go_returns
      exact ⟨rfl, by rw [HP.out]; exact x1⟩
  · have HP := Go.Lib.hid (putW_err he (okN n 255) (big1 n))
    have hb : (W.err != 0) = true := by rw [bne_iff_ne]; exact he
    clear he
    go_enter Tryz.func101, Tryz.ntmps101
    go_wp2
    go_returns
    exact ⟨rfl, by rw [HP.out]; exact Wrote.same H.out⟩
set_option maxHeartbeats 1000000 in
set_option maxRecDepth 100000 in
theorem pack_Word (n0 b : Nat) (W : Wr) (n : Int) (hn : I64 n) (w : World) (h : PW w n0 b W) (h0 : n0 ≤ w.heap.size) : Calls Tryz.prog 116 #[.pointer (some ⟨b, 0, none⟩), .int .i64 n] w fun e w' => e = .returned (.tuple #[]) ∧ Wrote w w' n0 b (wordW W n) := by
  have H := Go.Lib.hid h
  obtain ⟨v, r, o⟩ := h.ex
  have q2 : w.cell? ⟨b, 2, none⟩ = some (.int .i64 W.err) := cell_of_heap r rfl
  have hI := hn
  clear h r o
  unfold wordW
  by_cases he : W.err = 0
  · rw [he] at q2
    have HE := Go.Lib.hid he
    by_cases h1 : 0 ≤ n
    · by_cases h2 : n ≤ 65535
      · have HP := Go.Lib.hid (show putW W (okN n 65535) (big2 n) = addW W (big2 n) by rw [show okN n 65535 = true by unfold okN; simp [h1, h2]]; exact putW_ok he _)
        have HB := Go.Lib.hid (show ([.int .u8 (n / 256), .int .u8 (n % 256)] : List Value) = bcells (big2 n) by simp [bcells, big2, lowB_toNat]; omega)
        clear he hI
        go_enter Tryz.func116, Tryz.ntmps116
        go_wp2_with fail
        have A := Go.Lib.hid ((Ext.refl Non w).alloc (.cells [.int .u8 (n / 256), .int .u8 (n % 256)].toArray 5))
        refine (pack_add n0 b W ⟨w.heap.size, 0, none⟩ 2 (big2 n) (by simp [big2]) _ (H.out.extN A.out) (Nat.le_trans h0 A.out.size) (bcells_at (heap_alloc_new _ _) HB.out)).mono ?_
        rintro e w1 ⟨rfl, x1⟩
        go_wp2
        go_returns
        exact ⟨rfl, by rw [HP.out]; exact (Wrote.extN H.out A.out).trans x1⟩
      · have HP := Go.Lib.hid (show putW W (okN n 65535) (big2 n) = failW W 4 by rw [show okN n 65535 = false by unfold okN; simp [h2]]; exact putW_no he _)
        clear he hI
        go_enter Tryz.func116, Tryz.ntmps116
        go_wp2_with fail
        refine (pack_fail n0 b W 4 _ H.out).mono ?_
        rintro e w1 ⟨rfl, x1⟩
        go_wp2
        go_returns
        exact ⟨rfl, by rw [HP.out]; exact x1⟩
    · have HP := Go.Lib.hid (show putW W (okN n 65535) (big2 n) = failW W 4 by rw [show okN n 65535 = false by unfold okN; simp [h1]]; exact putW_no he _)
      clear he hI
      go_enter Tryz.func116, Tryz.ntmps116
      go_wp2_with fail
      refine (pack_fail n0 b W 4 _ H.out).mono ?_
      rintro e w1 ⟨rfl, x1⟩
      go_wp2
      go_returns
      exact ⟨rfl, by rw [HP.out]; exact x1⟩
  · have HP := Go.Lib.hid (putW_err he (okN n 65535) (big2 n))
    have hb : (W.err != 0) = true := by rw [bne_iff_ne]; exact he
    clear he
    go_enter Tryz.func116, Tryz.ntmps116
    go_wp2
    go_returns
    exact ⟨rfl, by rw [HP.out]; exact Wrote.same H.out⟩
set_option maxHeartbeats 1000000 in
set_option maxRecDepth 100000 in
theorem pack_Long (n0 b : Nat) (W : Wr) (n : Int) (hn : I64 n) (w : World) (h : PW w n0 b W) (h0 : n0 ≤ w.heap.size) : Calls Tryz.prog 104 #[.pointer (some ⟨b, 0, none⟩), .int .i64 n] w fun e w' => e = .returned (.tuple #[]) ∧ Wrote w w' n0 b (longW W n) := by
  have H := Go.Lib.hid h
  obtain ⟨v, r, o⟩ := h.ex
  have q2 : w.cell? ⟨b, 2, none⟩ = some (.int .i64 W.err) := cell_of_heap r rfl
  have hI := hn
  clear h r o
  unfold longW
  by_cases he : W.err = 0
  · rw [he] at q2
    have HE := Go.Lib.hid he
    by_cases h1 : 0 ≤ n
    · by_cases h2 : n ≤ 4294967295
      · have HP := Go.Lib.hid (show putW W (okN n 4294967295) (big4 n) = addW W (big4 n) by rw [show okN n 4294967295 = true by unfold okN; simp [h1, h2]]; exact putW_ok he _)
        have HB := Go.Lib.hid (show ([.int .u8 (n / 16777216), .int .u8 (n / 65536 % 256), .int .u8 (n / 256 % 256), .int .u8 (n % 256)] : List Value) = bcells (big4 n) by simp [bcells, big4, lowB_toNat]; omega)
        clear he hI
        go_enter Tryz.func104, Tryz.ntmps104
        go_wp2_with fail
        have A := Go.Lib.hid ((Ext.refl Non w).alloc (.cells [.int .u8 (n / 16777216), .int .u8 (n / 65536 % 256), .int .u8 (n / 256 % 256), .int .u8 (n % 256)].toArray 5))
        refine (pack_add n0 b W ⟨w.heap.size, 0, none⟩ 4 (big4 n) (by simp [big4]) _ (H.out.extN A.out) (Nat.le_trans h0 A.out.size) (bcells_at (heap_alloc_new _ _) HB.out)).mono ?_
        rintro e w1 ⟨rfl, x1⟩
        go_wp2
        go_returns
        exact ⟨rfl, by rw [HP.out]; exact (Wrote.extN H.out A.out).trans x1⟩
      · have HP := Go.Lib.hid (show putW W (okN n 4294967295) (big4 n) = failW W 4 by rw [show okN n 4294967295 = false by unfold okN; simp [h2]]; exact putW_no he _)
        clear he hI
        go_enter Tryz.func104, Tryz.ntmps104
        go_wp2_with fail
        refine (pack_fail n0 b W 4 _ H.out).mono ?_
        rintro e w1 ⟨rfl, x1⟩
        go_wp2
        go_returns
        exact ⟨rfl, by rw [HP.out]; exact x1⟩
    · have HP := Go.Lib.hid (show putW W (okN n 4294967295) (big4 n) = failW W 4 by rw [show okN n 4294967295 = false by unfold okN; simp [h1]]; exact putW_no he _)
      clear he hI
      go_enter Tryz.func104, Tryz.ntmps104
      go_wp2_with fail
      refine (pack_fail n0 b W 4 _ H.out).mono ?_
      rintro e w1 ⟨rfl, x1⟩
      go_wp2
      go_returns
      exact ⟨rfl, by rw [HP.out]; exact x1⟩
  · have HP := Go.Lib.hid (putW_err he (okN n 4294967295) (big4 n))
    have hb : (W.err != 0) = true := by rw [bne_iff_ne]; exact he
    clear he
    go_enter Tryz.func104, Tryz.ntmps104
    go_wp2
    go_returns
    exact ⟨rfl, by rw [HP.out]; exact Wrote.same H.out⟩
theorem add_any (n0 b : Nat) (W : Wr) (v : Value) (l : List UInt8) (hl : l.length ≤ 1048576) (hp : 0 < l.length) (m0 : Nat) (w : World) (h : PW w n0 b W) (h0 : n0 ≤ w.heap.size) (ho : w.ownsRow m0 5 1 v l.length (bcells l)) :
    Calls Tryz.prog 177 #[.pointer (some ⟨b, 0, none⟩), v] w fun e w' => e = .returned (.tuple #[]) ∧ Wrote w w' n0 b (addW W l) := by
  have ho' := ho
  rcases ho.2 with ⟨_, hz⟩ | ⟨g, cap, cur, rfl, _⟩
  · omega
  · exact pack_add n0 b W ⟨g, 0, none⟩ cap l hl w h h0 (fun j u hj => ho'.cells (g := g) rfl j u hj)
set_option maxHeartbeats 1000000 in
set_option maxRecDepth 100000 in
theorem pack_Text (n0 b : Nat) (W : Wr) (s : ByteArray) (hsz : s.size ≤ 9223372036854775807) (w : World) (h : PW w n0 b W) (h0 : n0 ≤ w.heap.size) : Calls Tryz.prog 103 #[.pointer (some ⟨b, 0, none⟩), .string s] w fun e w' => e = .returned (.tuple #[]) ∧ Wrote w w' n0 b (textW W s.data.toList) := by
  have H := Go.Lib.hid h
  obtain ⟨v, r, o⟩ := h.ex
  have q2 : w.cell? ⟨b, 2, none⟩ = some (.int .i64 W.err) := cell_of_heap r rfl
  clear h r o
  have hlen : s.data.toList.length = s.size := size_data s
  have HLen := Go.Lib.hid hlen; clear hlen
  unfold textW
  by_cases he : W.err = 0
  · rw [he] at q2
    have HE := Go.Lib.hid he
    by_cases h2 : s.size ≤ 65535
    · have HP := Go.Lib.hid (show putW W (decide (s.data.toList.length ≤ 65535)) (big2 s.data.toList.length ++ s.data.toList) = addW W (big2 s.size ++ s.data.toList) by rw [HLen.out, decide_eq_true h2]; exact putW_ok he _)
      have h2i : ((s.size : Nat) : Int) ≤ 65535 := by omega
      have HB := Go.Lib.hid (show ([.int .u8 ((s.size : Int) / 256), .int .u8 ((s.size : Int) % 256)] : List Value) = bcells (big2 s.size) by simp [bcells, big2, lowB_toNat]; omega)
      clear he
      obtain ⟨i0, hi, hz0, hz1, hz2⟩ := info_parts info_u8
      have A := Go.Lib.hid ((Ext.refl Non w).alloc (.cells #[.int .u8 ((s.size : Int) / 256), .int .u8 ((s.size : Int) % 256)] 5))
      have O := Go.Lib.hid (show (w.alloc (.cells #[.int .u8 ((s.size : Int) / 256), .int .u8 ((s.size : Int) % 256)] 5)).ownsRow w.heap.size 5 1 (.slice (some ⟨w.heap.size, 0, none⟩) 2 2) 2 (bcells (big2 s.size)) from
        ⟨by rw [bcells_length]; rfl, .inr ⟨_, _, _, rfl, Nat.le_refl _, heap_alloc_new _ _, Nat.le_refl _, by decide, rfl, by rw [← HB.out]; rfl⟩⟩)
      go_enter Tryz.func103, Tryz.ntmps103
      go_wp2_with (at_builtin; refine wpList_append_own_string _ rfl _ _ 229 9 rfl w.heap.size 5 i0 Tryz.underlying229 Tryz.underlying9 hi hz0 hz1 hz2 _ 2 _ rfl O.out s rfl ?qc1 ?qc2 ?qc3 ?_)
      case qc1 => unfold maxLen; omega
      case qc2 => omega
      case qc3 => exact A.out.size
      intro v' w1 hown hgrow hnil
      have HS := Go.Lib.hid (show (big2 (s.size : Int) ++ s.data.toList).length = 2 + s.size by rw [List.length_append, HLen.out]; rfl)
      have OW := Go.Lib.hid (show w1.ownsRow w.heap.size 5 1 v' (big2 (s.size : Int) ++ s.data.toList).length (bcells (big2 (s.size : Int) ++ s.data.toList)) by rw [HS.out, bcells_append]; exact hown)
      have x1 : Ext Non w w1 := A.out.step (Ext.ofGrown (S := fun k => k = w.heap.size) hgrow (fun k hk => .inl (by simp [Value.ownBlock] at hk; omega))) (fun i hi e => by omega)
      have X1 := Go.Lib.hid x1
      clear hown hgrow hnil x1
      go_wp2_with fail
      refine (add_any n0 b W v' _ (by rw [HS.out]; omega) (by rw [HS.out]; omega) _ _ (H.out.extN X1.out) (Nat.le_trans h0 X1.out.size) OW.out).mono ?_
      rintro e w2 ⟨rfl, x2⟩
      go_wp2
      go_returns
      exact ⟨rfl, by rw [HP.out]; exact (Wrote.extN H.out X1.out).trans x2⟩
    · have HP := Go.Lib.hid (show putW W (decide (s.data.toList.length ≤ 65535)) (big2 s.data.toList.length ++ s.data.toList) = failW W 4 by rw [HLen.out, decide_eq_false h2]; exact putW_no he _)
      have h2i : (65535 : Int) < ((s.size : Nat) : Int) := by omega
      clear he
      go_enter Tryz.func103, Tryz.ntmps103
      go_wp2_with fail
      refine (pack_fail n0 b W 4 _ H.out).mono ?_
      rintro e w1 ⟨rfl, x1⟩
      go_wp2
      go_returns
      exact ⟨rfl, by rw [HP.out]; exact x1⟩
  · have HP := Go.Lib.hid (putW_err he (decide (s.data.toList.length ≤ 65535)) (big2 s.data.toList.length ++ s.data.toList))
    have hb : (W.err != 0) = true := by rw [bne_iff_ne]; exact he
    clear he
    go_enter Tryz.func103, Tryz.ntmps103
    go_wp2
    go_returns
    exact ⟨rfl, by rw [HP.out]; exact Wrote.same H.out⟩
set_option maxHeartbeats 1000000 in
set_option maxRecDepth 100000 in
theorem pack_Bits (n0 b : Nat) (W : Wr) (n : Nat) (hn : n < 18446744073709551616) (w : World) (h : PW w n0 b W) (h0 : n0 ≤ w.heap.size) : Calls Tryz.prog 107 #[.pointer (some ⟨b, 0, none⟩), .int .u64 n] w fun e w' => e = .returned (.tuple #[]) ∧ Wrote w w' n0 b (bitsW W n) := by
  have H := Go.Lib.hid h
  obtain ⟨v, r, o⟩ := h.ex
  have q2 : w.cell? ⟨b, 2, none⟩ = some (.int .i64 W.err) := cell_of_heap r rfl
  have hbl := H.out.lt
  have hne : b ≠ w.heap.size := by omega
  clear h r o
  unfold bitsW
  by_cases he : W.err = 0
  · rw [he] at q2
    have HE := Go.Lib.hid he
    have HP := Go.Lib.hid (putW_ok he (big8 (n : Int)))
    have HB := Go.Lib.hid (show ([.int .u8 ((n : Int) / 72057594037927936), .int .u8 ((n : Int) / 281474976710656 % 256), .int .u8 ((n : Int) / 1099511627776 % 256), .int .u8 ((n : Int) / 4294967296 % 256), .int .u8 ((n : Int) / 16777216 % 256), .int .u8 ((n : Int) / 65536 % 256), .int .u8 ((n : Int) / 256 % 256), .int .u8 ((n : Int) % 256)] : List Value) = bcells (big8 (n : Int)) by simp [bcells, big8, big4, lowB_toNat]; omega)
    have AA := Go.Lib.hid ((Ext.refl Non w).alloc (.cells [.int .u8 ((n : Int) / 72057594037927936), .int .u8 ((n : Int) / 281474976710656 % 256), .int .u8 ((n : Int) / 1099511627776 % 256), .int .u8 ((n : Int) / 4294967296 % 256), .int .u8 ((n : Int) / 16777216 % 256), .int .u8 ((n : Int) / 65536 % 256), .int .u8 ((n : Int) / 256 % 256), .int .u8 ((n : Int) % 256)].toArray 253))
    clear he
    go_enter Tryz.func107, Tryz.ntmps107
    go_wp2_with fail
    refine wp_loop_rounds 9 ?_
    repeat any_goals (rw [rounds_succ]; go_wp2_with fail)
    refine (pack_add n0 b W ⟨w.heap.size, 0, none⟩ 8 (big8 (n : Int)) (by simp [big8, big4]) _ (H.out.extN AA.out) (Nat.le_trans h0 AA.out.size) (bcells_at (heap_alloc_new _ _) HB.out)).mono ?_
    rintro e w1 ⟨rfl, x1⟩
    go_wp2
    go_returns
    exact ⟨rfl, by rw [HP.out]; exact (Wrote.extN H.out AA.out).trans x1⟩
  · have HP := Go.Lib.hid (putW_err he true (big8 (n : Int)))
    have hb : (W.err != 0) = true := by rw [bne_iff_ne]; exact he
    clear he
    go_enter Tryz.func107, Tryz.ntmps107
    go_wp2
    go_returns
    exact ⟨rfl, by rw [HP.out]; exact Wrote.same H.out⟩
theorem pack_Done (n0 b : Nat) (W : Wr) (w : World) (h : PW w n0 b W) : Calls Tryz.prog 110 #[.pointer (some ⟨b, 0, none⟩)] w fun e w' => e = .returned (.tuple #[.string (doneS W), .int .i64 W.err]) ∧ Ext Non w w' := by
  have H := Go.Lib.hid h
  obtain ⟨v, r, o⟩ := h.ex
  have q2 : w.cell? ⟨b, 2, none⟩ = some (.int .i64 W.err) := cell_of_heap r rfl
  have q0 : w.cell? ⟨b, 0, none⟩ = some v := cell_of_heap r rfl
  have O := Go.Lib.hid o
  clear h r
  by_cases he : W.err = 0
  · rw [he] at q2
    have HE := Go.Lib.hid he
    have HS := Go.Lib.hid (show doneS W = ⟨W.bs.toArray⟩ by unfold doneS; rw [if_pos he])
    have hcv : ∀ src dst, (Tryz.prog).underlying src = some (.slice 5) → (Tryz.prog).underlying dst = some .string → (convert src dst v).run Tryz.prog w = .ok (.string ⟨W.bs.toArray⟩) w := by
      intro src dst hs hd
      rcases o.2 with ⟨rfl, h0⟩ | ⟨g, cap, cur, rfl, hb, hg, hl, hm, hsz, ht⟩
      · rw [run_convert_bytes_string w src dst 5 none 0 0 hs Tryz.underlying5 hd]
        have : W.bs = [] := List.eq_nil_of_length_eq_zero h0
        rw [this]
        rfl
      · refine run_convert_bytes_back w src dst 5 ⟨g, 0, none⟩ cap W.bs hs Tryz.underlying5 hd (fun j hj => ?_)
        exact o.cells (g := g) rfl j _ (by simp [bcells, hj])
    have hc := hcv 229 9 Tryz.underlying229 Tryz.underlying9
    clear he hcv o
    go_enter Tryz.func110, Tryz.ntmps110
    go_wp2
    go_returns
    exact ⟨by rw [HS.out, HE.out]; rfl, Ext.refl _ _⟩
  · have HS := Go.Lib.hid (show doneS W = ⟨#[]⟩ by unfold doneS; rw [if_neg he])
    have hb : (W.err != 0) = true := by rw [bne_iff_ne]; exact he
    clear he o
    go_enter Tryz.func110, Tryz.ntmps110
    go_wp2_with fail
    go_region
    all_goals go_wp2
    all_goals go_returns
    all_goals exact ⟨by rw [HS.out]; rfl, (Ext.refl _ _).drew⟩
end Go.Proofs.YtflpkoafebjfdaaGreat
