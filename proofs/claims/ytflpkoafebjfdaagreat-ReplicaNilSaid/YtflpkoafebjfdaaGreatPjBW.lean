/- Joined texts: Law18b, ReplicaNil18. What each proves stands at its head; no conditions beside those in its theorems. -/
import Derived.Laws.CopyOwn
import Derived.Deep.OwnRows
import Derived.Deep.RegionLaw
import Derived.Recover
import Derived.Test.YtflpkoafebjfdaaGreatProg
import Derived.Shelf.SlIter.Nil
import Derived.Shelf.SortM.Plain
import Derived.Shelf.SortM.SortNone
import Derived.Ground.GgzProg
import Derived.Ground.SlgmProg
import Derived.Test.YtflpkoafebjfdaaGreatPjBU
import Derived.Test.YtflpkoafebjfdaaGreatPjBV
/- The law of layer 18: lives. -/
namespace Go.Proofs.YtflpkoafebjfdaaGreat
open Go.RowKit Go.Lib F64
set_option linter.unusedSimpArgs false
set_option linter.unusedVariables false
attribute [local go_sem] run_store_float
attribute [local go_sem low] EW.cellN EW.frozN alloc_cell_or alloc_froz_or
attribute [local go_sem] relAt relUpon
theorem getD_get {α : Type} (l : List α) (d : α) {j : Nat} (h : j < l.length) : l.getD j d = l[j] := by rw [List.getD_eq_getElem?_getD, List.getElem?_eq_getElem h]; rfl
/-- A packet's cells, read out of a row. -/
theorem OwnC.pk {w : World} {col : Nat → Nat} {v : Value} {z : World} {l : List Pk} (h : OwnC w col 11 54 19 v (PkR z) l) (j : Nat) (hj : j < l.length) : ∃ g cap M, v = .slice (some ⟨g, 0, none⟩) l.length cap ∧ w.cell? ⟨g, j * 19, none⟩ = some (.int .i64 l[j].from_) ∧ w.cell? ⟨g, j * 19 + 1, none⟩ = some (.int .i64 l[j].to_) ∧ (∀ i x, (l[j].msg.cells M)[i]? = some x → w.cell? ⟨g, j * 19 + (i + 2), none⟩ = some x) ∧ MsW z M l[j].msg ∧ I64 l[j].from_ ∧ I64 l[j].to_ := by
  obtain ⟨g, cap, u, e, hg, ⟨M, hu, hM, h1, h2⟩, hc⟩ := h.at PkR.len j hj
  subst hu
  exact ⟨g, cap, M, e, hc 0 _ rfl, hc 1 _ rfl, fun i x hx => hc (i + 2) x hx, hM, h1, h2⟩
theorem ask_bytes {M : MA} : BytesC askM M := bytes_of askM M (fun w h _ => wire_fits_1 askM M w h rfl ⟨by decide, by decide⟩ (by decide +kernel))
theorem idle_goOn {P : Rp → Rp} {g : Rp} {slot : Int} (h0 : IdleB g) (hp : preparedB g.log slot = false) (hs : settledB g.tally = false) : goOnF P g slot = g := by
  obtain ⟨hf, hc, -, hh⟩ := h0
  have e1 : commitIf g slot = g := by unfold commitIf; rw [hp]; exact if_neg (fun q => by cases q.1)
  have e2 : doLoop 4 g = g := doLoop_none 4 hf hc
  have e3 : doneG g g = g := by unfold doneG; exact if_neg (by omega)
  have e4 : voteIf g = g := by unfold voteIf; exact if_neg (fun q => by rw [hf] at q; cases q.1)
  unfold goOnF doF
  rw [e1, e2, e3, e4]
  simp only [hh]
  unfold goOverF
  rw [hs]
  rfl
theorem goAt_idle {P : Rp → Rp} {g : Rp} {slot : Int} (h0 : IdleB g) (hp : preparedB g.log slot = false) (hs : settledB g.tally = false) : GoAt P g slot := fun w b col A h hi hsl => by
  rw [idle_goOn h0 hp hs]
  exact (rep_goOn0 slot hsl w h hi h0 hp).mono (fun e w' ⟨he, x⟩ => ⟨he, ((Nw.start h).extN x).post, hi, Int.le_refl _⟩)
/-- What is asked waits. -/
def askS : Rp := waitS { newRp 0 four18 with now := 1 } askM
def askT : Rp := takeS (propS askS (askS.waits 1)) askS.next (askS.waits 1).req
theorem ask_idle : IdleB askT := ⟨by decide +kernel, Option.isNone_iff_eq_none.1 (by decide +kernel), List.isEmpty_iff.1 (by decide +kernel), by decide +kernel⟩
theorem ask_goes : GoAt (proposeR 63) askT askS.next := goAt_idle ask_idle (by decide +kernel) (by decide +kernel)
theorem ask_rest : ∀ i ∈ [1, 2, 3, 4, 5, 6, 7], ((propN (takeUpF (proposeR 63)) askS i).waits (i + 1)).req.client = 0 := by decide +kernel
theorem ask_propose : PrAt P64 (waitS { newRp 0 four18 with now := 1 } askM) := by
  refine rep_proposeAt (g := askS) (takeUpF (proposeR 63)) (fun i x e hi _ hc => ?_)
  subst e
  rcases Nat.eq_zero_or_pos i with rfl | hp
  · intro w b col A rc rs rk rkey rx rid eq h hj hs hr
    rw [eq]
    refine rep_takeUp (proposeR 63) _ hs rc rs rk rkey rx rid (fun _ => ?_) hr w h hj
    rw [← eq]
    exact ask_goes
  · exact absurd (ask_rest i (by simp only [List.mem_cons, List.not_mem_nil, or_false]; omega)) hc
set_option maxHeartbeats 1000000 in
set_option maxRecDepth 100000 in
theorem law18_lives (w : World) : Calls Tryz.prog 10 #[] w fun e w' => e = .returned (.bool true) ∧ Ext Non w w' := by
  go_enter Tryz.func10, Tryz.ntmps10
  go_wp2_with fail
  refine (law18_four _).mono ?_
  rintro e w1 ⟨kf, rfl, x1, i1⟩
  have X1 := Go.Lib.hid x1; have I1 := Go.Lib.hid i1
  clear x1 i1
  go_wp2_with fail
  refine (rep_New_ok 0 (by omega) (some ⟨kf, 0, none⟩) 4 four18 (by decide) _ I1.out).mono ?_
  rintro e w2 ⟨b, col, A, rfl, x2, hr, hc, hi⟩
  have X2 := Go.Lib.hid (X1.out.trans x2); have HR := Go.Lib.hid hr; have HI := Go.Lib.hid hi
  have HC : Hid (∀ k, k < w.heap.size → col k = 0) := Go.Lib.hid (fun k hk => hc k (Nat.lt_of_lt_of_le hk X1.out.size))
  clear x2 hr hc hi X1 I1
  go_wp2_with fail
  refine (law18_ask _).mono ?_
  rintro e w3 ⟨ks, rfl, x3, hm, hks⟩
  have HM : Hid (MsW (hide col w3) ⟨none, 0, some ⟨ks, 0, none⟩, 1, none, 0, none, 0⟩ askM) := Go.Lib.hid ⟨Ints.nil' _, hm.s.hide (fun k o e => by injection e with e; injection e with e; rw [← e]; exact HR.out.new ks hks), Chs.nil' _, Lks.nil' _, hm.ok⟩
  have R3 := Go.Lib.hid (HR.out.extN x3); have X3 := Go.Lib.hid (X2.out.trans x3)
  clear x3 hm hks HR X2
  go_wp2_with fail
  have P := rep_Handle askM _ 101 1 ask_bytes (deedAt_1 askM _ 101 (by unfold I64; omega) rfl _ ask_propose) w3 R3.out HI.out rfl HM.out
  refine P.mono ?_
  clear P
  rintro e w4 ⟨v, rfl, ⟨⟨col4, A4, r4, hc4, -, ov⟩, x4, -⟩, -⟩
  have X4 := Go.Lib.hid (X3.out.step x4 (fun j hj q => q (HC.out j hj)))
  have HL : Hid (handleL (newRp 0 four18) 1 101 askM = livesL) := Go.Lib.hid rfl
  have HG : Hid (handleG (newRp 0 four18) 1 101 askM = livesG) := Go.Lib.hid rfl
  rw [HL.out] at ov
  rw [HG.out] at r4
  have R4 := Go.Lib.hid r4
  have h6 := l18_len
  obtain ⟨g, cap, M0, hv, -, -, hm0, -⟩ := ov.pk 0 (by omega)
  obtain ⟨g3, cap3, M3, hv3, -, -, hm3, -⟩ := ov.pk 3 (by omega)
  obtain ⟨g5, cap5, M5, hv5, -, ht5, -⟩ := ov.pk 5 (by omega)
  rw [hv] at hv3 hv5
  injection hv3 with hv3 _ _; injection hv3 with hv3; injection hv3 with hv3 _ _
  injection hv5 with hv5 _ _; injection hv5 with hv5; injection hv5 with hv5 _ _
  subst hv3; subst hv5
  have k0 : w4.cell? ⟨g, 2, none⟩ = some (.int .i64 2) := by
    have := hm0 0 (.int .i64 livesL[0].msg.kind) rfl
    rw [← getD_get livesL ⟨0, 0, nullM⟩ (by omega), l18_0] at this
    exact this
  have k3 : w4.cell? ⟨g, 59, none⟩ = some (.int .i64 3) := by
    have := hm3 0 (.int .i64 livesL[3].msg.kind) rfl
    rw [← getD_get livesL ⟨0, 0, nullM⟩ (by omega), l18_3] at this
    exact this
  have k5 : w4.cell? ⟨g, 96, none⟩ = some (.int .i64 3) := by
    rw [← getD_get livesL ⟨0, 0, nullM⟩ (by omega), l18_5] at ht5
    exact ht5
  rw [h6] at hv
  subst hv
  have HLf := Go.Lib.hid (And.intro l18_left l18_act)
  clear h6 hm0 hm3 ht5 ov r4 x4 hc4 R3 HM X3 HL HG HI
  generalize livesG = g4 at *
  go_wp2_with fail
  refine (rep_Left _ R4.out).mono ?_
  rintro e w5 ⟨rfl, rfl⟩
  rw [HLf.out.1]
  go_wp2_with fail
  refine (rep_Active _ R4.out).mono ?_
  rintro e w6 ⟨rfl, rfl⟩
  rw [HLf.out.2]
  go_wp2
  go_returns
  exact ⟨rfl, X4.out⟩
end Go.Proofs.YtflpkoafebjfdaaGreat

/- The law ReplicaNil: the walk. -/
namespace Go.Proofs.YtflpkoafebjfdaaGreat
open Go.RowKit Go.Lib F64
set_option linter.unusedSimpArgs false
set_option linter.unusedVariables false
attribute [local go_sem] run_store_float
attribute [local go_sem low] EW.cellN EW.frozN alloc_cell_or alloc_froz_or
attribute [local go_sem] relAt relUpon
set_option maxHeartbeats 1000000 in
set_option maxRecDepth 100000 in
theorem nil_does (tick : Bool) (now from_ : Int) (M : List Value) (hM : M.length = 17) (w : World) : Calls Tryz.prog 14 #[.pointer none, .agg (.bool tick :: .int .i64 now :: .int .i64 from_ :: M).toArray] w fun e w' => e = .returned (.slice none 0 0) ∧ Ext Non w w' := by
  obtain ⟨L, hL⟩ : ∃ L : List Value, L = .bool tick :: .int .i64 now :: .int .i64 from_ :: M := ⟨_, rfl⟩
  have H0 : Hid (L[0]? = some (.bool tick) ∧ L[1]? = some (.int .i64 now) ∧ L[2]? = some (.int .i64 from_)) := Go.Lib.hid (by rw [hL]; exact ⟨rfl, rfl, rfl⟩)
  have HD : Hid (∀ i v, M[i]? = some v → L[3 + i]? = some v) := Go.Lib.hid (fun i v h => by rw [hL, show 3 + i = i + 1 + 1 + 1 by omega]; simpa using h)
  have HSz := Go.Lib.hid (show (Tryz.prog.info? 43).map (·.size) = some M.length by rw [hM]; kernel_rfl)
  rw [← hL]
  clear hL hM
  obtain ⟨kb, hkb⟩ : ∃ kb, kb = w.heap.size := ⟨_, rfl⟩
  have B1 := Go.Lib.hid (Bx.newAt w L 45 kb hkb)
  have X1 := Go.Lib.hid ((Ext.refl Non w).alloc (.cells L.toArray 45))
  go_enter Tryz.func14, Tryz.ntmps14
  go_upto_region 1 with fail
  rw [← hkb]
  clear hkb
  generalize World.alloc w _ = w1 at *
  obtain ⟨c0, c1, c2⟩ : _ ∧ _ ∧ _ := ⟨B1.out.cell (j := 0) H0.out.1, B1.out.cell (j := 1) H0.out.2.1, B1.out.cell (j := 2) H0.out.2.2⟩
  have RG : Hid (w1.rangeAt kb 3 M) := Go.Lib.hid (fun j v hv => B1.out.cell (j := 3 + j) (HD.out j v hv))
  cases tick
  · go_wp2_with (refine wpList_load_mid rfl 43 _ rfl kb 3 rfl M _ RG.out Tryz.underlying43 rfl HSz.out ?_)
    refine (nil_Handle now from_ M _).mono ?_
    rintro e w2 ⟨rfl, x2⟩
    go_wp2
    go_returns
    exact ⟨rfl, X1.out.trans x2⟩
  · go_wp2_with fail
    refine (nil_Tick now _).mono ?_
    rintro e w2 ⟨rfl, rfl⟩
    go_wp2
    go_returns
    exact ⟨rfl, X1.out⟩
set_option maxHeartbeats 1000000 in
set_option maxRecDepth 100000 in
theorem walk_ReplicaNil (tick : Bool) (now from_ : Int) (M : List Value) (hM : M.length = 17) (w : World) : Calls Tryz.prog 9 #[.agg (.bool tick :: .int .i64 now :: .int .i64 from_ :: M).toArray] w fun e w' => e = .returned (.bool true) ∧ Ext Non w w' := by
  have HM := Go.Lib.hid hM
  obtain ⟨L, hL⟩ : ∃ L : List Value, L = .bool tick :: .int .i64 now :: .int .i64 from_ :: M := ⟨_, rfl⟩
  have HL := Go.Lib.hid hL
  have HSz := Go.Lib.hid (show (Tryz.prog.info? 45).map (·.size) = some L.length by rw [hL, show (Value.bool tick :: Value.int .i64 now :: Value.int .i64 from_ :: M).length = 20 by simp [hM]]; kernel_rfl)
  rw [← hL]
  clear hL hM
  obtain ⟨kb, hkb⟩ : ∃ kb, kb = w.heap.size := ⟨_, rfl⟩
  have B1 := Go.Lib.hid (Bx.newAt w L 45 kb hkb)
  have X1 := Go.Lib.hid ((Ext.refl Non w).alloc (.cells L.toArray 45))
  go_enter Tryz.func9, Tryz.ntmps9
  go_upto_region 1 with fail
  rw [← hkb]
  clear hkb
  generalize World.alloc w _ = w1 at *
  go_wp2_with fail
  refine (law18_lives _).mono ?_
  rintro e w2 ⟨rfl, x2⟩
  have X2 := Go.Lib.hid (X1.out.trans x2); have B2 := Go.Lib.hid (B1.out.extN x2)
  clear x2 X1 B1
  have RG := Go.Lib.hid B2.out.range
  go_wp2_with (refine wpList_load_mid rfl 45 _ rfl kb 0 rfl L _ RG.out Tryz.underlying45 rfl HSz.out ?_)
  have P := nil_does tick now from_ M HM.out w2
  rw [← HL.out] at P
  refine Calls.mono P ?_
  clear P
  rintro e w3 ⟨rfl, x3⟩
  have X3 := Go.Lib.hid (X2.out.trans x3)
  clear x3 X2 B2 RG
  go_wp2_with fail
  refine (nil_ID _).mono ?_
  rintro e _ ⟨rfl, rfl⟩
  go_wp2_with fail
  refine (nil_Epoch _).mono ?_
  rintro e _ ⟨rfl, rfl⟩
  go_wp2_with fail
  refine (nilR_View _).mono ?_
  rintro e _ ⟨rfl, rfl⟩
  go_wp2_with fail
  refine (nil_Active _).mono ?_
  rintro e _ ⟨rfl, rfl⟩
  go_wp2_with fail
  refine (nil_Done _).mono ?_
  rintro e _ ⟨rfl, rfl⟩
  go_wp2_with fail
  refine (nil_Left _).mono ?_
  rintro e _ ⟨rfl, rfl⟩
  go_wp2_with fail
  refine (nil_Halted _).mono ?_
  rintro e _ ⟨rfl, rfl⟩
  go_wp2_with fail
  refine (nilR_Size _).mono ?_
  rintro e _ ⟨rfl, rfl⟩
  go_wp2_with fail
  refine (nil_State _).mono ?_
  rintro e _ ⟨rfl, rfl⟩
  go_wp2_with fail
  refine (nil_Chain _).mono ?_
  rintro e _ ⟨rfl, rfl⟩
  go_wp2_with fail
  refine (nil_History _).mono ?_
  rintro e _ ⟨rfl, rfl⟩
  go_wp2
  go_returns
  exact ⟨rfl, X3.out⟩
section
open Go.ChangeShapes Go.WideShapes
variable {H : Type} {enc : TypeId × Value → H} {W : World} {base n : Nat} {spare : Nat → Bool} {held : Bool}
theorem read_bool18 {cs : List Value} {x : DataW H × List MemPlace} (h : DataW.trod enc Tryz.prog W base spare held n 4 cs = some x) : ∃ k : Bool, cs = [.bool k] := by
  obtain ⟨k, e, _⟩ := DataW.trod_bool Tryz.underlying4 h
  exact ⟨k, e⟩
theorem c_bool18 : (Tryz.prog).cellsOf 4 = 1 := by kernel_rfl
theorem c_event18 : (Tryz.prog).cellsOf 45 = 20 := by kernel_rfl
/-- An event's head: the tick, the time, the sender, and seventeen cells. -/
theorem read_event0 {cs : List Value} {x : DataW H × List MemPlace} (h : DataW.trod enc Tryz.prog W base spare held n 45 cs = some x) : ∃ (tick : Bool) (now from_ : Int) (M : List Value), cs = .bool tick :: .int .i64 now :: .int .i64 from_ :: M ∧ M.length = 17 := by
  obtain ⟨hl, hf⟩ := read_struct Tryz.underlying45 h
  have hl : cs.length = 20 := hl.trans c_event18
  match cs, hl with
  | v0 :: v1 :: v2 :: M, hl =>
    obtain ⟨_, _, h0⟩ := hf 0 _ 4 0 1 rfl rfl rfl c_bool18
    obtain ⟨_, _, h1⟩ := hf 1 _ 3 1 1 rfl rfl rfl c_int
    obtain ⟨_, _, h2⟩ := hf 2 _ 3 2 1 rfl rfl rfl c_int
    obtain ⟨k0, e0⟩ := read_bool18 h0
    obtain ⟨k1, e1, w1⟩ := read_int h1
    obtain ⟨k2, e2, w2⟩ := read_int h2
    simp at e0 e1 e2
    subst e0; subst e1; subst e2
    exact ⟨k0, k1, k2, M, rfl, by simpa using hl⟩
end
set_option maxRecDepth 100000 in
open Go.ChangeShapes Go.WideShapes in
theorem law_ReplicaNil {H : Type} {enc : TypeId × Value → H} (W : World) {base : Nat} (v0 : Value) (d0 : DataW H) (p0 : List MemPlace)
    (h0 : DataW.Trod enc Tryz.prog W 0 (fun _ => true) true 45 v0 d0 p0) (ok0 : Value.okWide Tryz.prog W .any base 45 v0) :
    Calls Tryz.prog 9 #[v0] W fun e w' => e = .returned (.bool true) ∧ Below W.heap.size W w' := by
  obtain ⟨cs, rfl, n, x, hx⟩ := arg_struct Tryz.underlying45 ok0 h0
  obtain ⟨tick, now, from_, M, rfl, hM⟩ := read_event0 hx
  exact (walk_ReplicaNil tick now from_ M hM W).mono fun _ _ ⟨a, b⟩ => ⟨a, b.toBelow⟩
end Go.Proofs.YtflpkoafebjfdaaGreat
