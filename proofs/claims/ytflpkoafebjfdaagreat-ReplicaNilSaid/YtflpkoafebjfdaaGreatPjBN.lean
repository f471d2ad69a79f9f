/- Joined texts: Vot1, Rep12, RepM6. What each proves stands at its head; no conditions beside those in its theorems. -/
import Derived.Laws.CopyOwn
import Derived.Deep.OwnRows
import Derived.Deep.RegionLaw
import Derived.Test.YtflpkoafebjfdaaGreatProg
import Derived.Shelf.SlIter.Nil
import Derived.Shelf.SortM.Plain
import Derived.Shelf.SortM.SortNone
import Derived.Ground.GgzProg
import Derived.Ground.SlgmProg
import Derived.Test.YtflpkoafebjfdaaGreatPjAJ
import Derived.Test.YtflpkoafebjfdaaGreatPjBK
/- Contracts of layer 15 (votes): New. -/
namespace Go.Proofs.YtflpkoafebjfdaaGreat
open Go.RowKit Go.Lib F64
set_option linter.unusedSimpArgs false
set_option linter.unusedVariables false
attribute [local go_sem] run_store_float
attribute [local go_sem low] EW.cellN EW.frozN alloc_cell_or alloc_froz_or EW.cellF EW.frozF EW.cell1 EW.froz1
attribute [local go_sem] relAt relUpon
/-- A new tally's blocks. -/
structure NewTl (n : Nat) (w : World) (b m1 m2 : Nat) (ep : Int) (sa : Option Addr) (sc : Nat) (xs : List Int) : Prop where
  h : Bx w b [.int .i64 ep, .slice sa xs.length sc, .map (some m1), .map (some m2)] 237
  h1 : w.heap[m1]? = some (.map #[] 0)
  h2 : w.heap[m2]? = some (.map #[] 0)
  ints : Ints w sa sc xs
  fr : fresh n w sa
  lb : n ≤ b
  l1 : n ≤ m1
  l2 : n ≤ m2
  ne : m1 ≠ m2
set_option maxHeartbeats 400000 in
set_option maxRecDepth 100000 in
theorem votes_New (ep : Int) (a : Option Addr) (cap : Nat) (xs : List Int) (hc : confB ep xs = true) (w : World) (h : Ints w a cap xs) : Calls Tryz.prog 90 #[.agg #[.int .i64 ep, .slice a xs.length cap]] w fun e w' =>
    ∃ b m1 m2 sa sc, e = .returned (.tuple #[.pointer (some ⟨b, 0, none⟩), .int .i64 0]) ∧ Ext Non w w' ∧ NewTl w.heap.size w' b m1 m2 ep sa sc xs := by
  have HI := Go.Lib.hid h
  have HC := Go.Lib.hid hc
  have HL := Go.Lib.hid (conf_len10 hc).2
  clear h
  go_enter Tryz.func90, Tryz.ntmps90
  go_wp2_with fail
  refine Calls.ew (council_Right ep a cap xs _ (HI.out.extN (by (repeat (first | with_reducible (first | exact Ext.refl _ _ | assumption | refine Ext.upN ?_ | refine Ext.alloc ?_ _ | refine Ext.drew ?_ | refine Ext.drewN ?_ _ | refine Ext.up1N (by first | omega | simp) ?_) | refine Ext.alloc ?_ _ | refine Ext.setCell ?_ (.inr (by first | omega | simp)) _))))) ?_
  rintro e x1 rfl
  rw [hc]
  clear hc
  go_upto_region 3 with fail
  obtain ⟨n0, hn0⟩ : ∃ n0, n0 = x1.on.heap.size := ⟨_, rfl⟩
  have hnw : w.heap.size ≤ n0 := by rw [hn0]; exact Ext.size (by (repeat (first | with_reducible (first | exact Ext.refl _ _ | assumption | refine Ext.upN ?_ | refine Ext.alloc ?_ _ | refine Ext.drew ?_ | refine Ext.drewN ?_ _ | refine Ext.up1N (by first | omega | simp) ?_) | refine Ext.alloc ?_ _ | refine Ext.setCell ?_ (.inr (by first | omega | simp)) _)) : Ext Non w x1.on)
  apply wp_region_rel_m_tail 8 6 7 13 14 (relR [Mo.is _, Mo.is _, Mo.is _, Mo.is _, moS x1.on.heap.size xs (fun s => s), moS x1.on.heap.size xs (fun s => .agg #[.int .i64 ep, s]), moMap x1.on.heap.size, moMap x1.on.heap.size]) (by decide) (by decide) (by decide) ⟨_, _, rfl, rfl, rfl⟩ ⟨_, _, rfl, rfl, rfl⟩ (fun u w h => moMap_lt h) (fun u w h => moMap_lt h) (by kernel_rfl) (by kernel_rfl) (by kernel_rfl) (by kernel_rfl) (by kernel_rfl) (by decide) (by kernel_rfl) (relR_mono _) (StepD.all ?st40) ?q40
  case st40 =>
    refine ⟨?_, ?_, ?_, ?_, ?_, ?_, ?_, ?_, trivial⟩
    · intro a' w' hx hs hd
      obtain ⟨y, rfl⟩ := hx.ew
      have e1 : a'.tmps[1]?.getD undef = _ := hs 1 rfl
      simp only [List.getElem?_toArray, List.getElem?_cons_succ, List.getElem?_cons_zero, Option.getD_some, Array.getElem?_eq_some_iff] at e1
      refine .inl ⟨rfl, ?_⟩
      clear hs hd hx
      go_simp
      exact ⟨Ext.refl _ _, rfl⟩
    · intro a' w' hx hs hd
      obtain ⟨y, rfl⟩ := hx.ew
      have e7 : a'.tmps[7]?.getD undef = _ := hd 0 7 rfl rfl
      refine .inl ⟨rfl, ?_⟩
      clear hs hd hx
      go_simp
      exact ⟨Ext.refl _ _, rfl⟩
    · intro a' w' hx hs hd
      obtain ⟨y, rfl⟩ := hx.ew
      have e1 : a'.tmps[1]?.getD undef = _ := hs 1 rfl
      simp only [List.getElem?_toArray, List.getElem?_cons_succ, List.getElem?_cons_zero, Option.getD_some, Array.getElem?_eq_some_iff] at e1
      refine .inl ⟨rfl, ?_⟩
      clear hs hd hx
      go_simp
      exact ⟨Ext.refl _ _, rfl⟩
    · intro a' w' hx hs hd
      obtain ⟨y, rfl⟩ := hx.ew
      have e9 : a'.tmps[9]?.getD undef = _ := hd 2 9 rfl rfl
      refine .inl ⟨rfl, ?_⟩
      clear hs hd hx
      go_simp
      exact ⟨Ext.refl _ _, rfl⟩
    · intro a' w' hx hs hd
      obtain ⟨y, rfl⟩ := hx.ew
      have e10 : a'.tmps[10]?.getD undef = _ := hd 3 10 rfl rfl
      refine .inl ⟨rfl, ?_⟩
      clear hs hd hx
      go_simp
      exact (slices_Clone a cap xs (by have := HL.out; omega) _ (HI.out.extN (by (repeat (first | with_reducible (first | exact Ext.refl _ _ | assumption | refine Ext.upN ?_ | refine Ext.alloc ?_ _ | refine Ext.drew ?_ | refine Ext.drewN ?_ _ | refine Ext.up1N (by first | omega | simp) ?_) | refine Ext.alloc ?_ _ | refine Ext.setCell ?_ (.inr (by first | omega | simp)) _))))).mono (fun e w'' ⟨a', c', he, hx, hI, hf⟩ => ⟨_, he, hx, a', c', rfl, hI, fun k o q => ⟨Nat.le_trans y.ext.size (hf k o q).1, (hf k o q).2⟩⟩)
    · intro a' w' hx hs hd
      obtain ⟨y, rfl⟩ := hx.ew
      have e8 : a'.tmps[8]?.getD undef = _ := hd 1 8 rfl rfl
      obtain ⟨sa, sc, e11, hI, hf⟩ : ∃ sa sc, a'.tmps[11]?.getD undef = .slice sa xs.length sc ∧ Ints y.on sa sc xs ∧ fresh x1.on.heap.size y.on sa := hd 4 11 rfl rfl
      refine .inl ⟨rfl, ?_⟩
      clear hs hd hx
      go_simp
      exact ⟨Ext.refl _ _, sa, sc, rfl, hI, hf⟩
    · intro a' w' hx hs hd
      obtain ⟨y, rfl⟩ := hx.ew
      refine .inl ⟨rfl, ?_⟩
      clear hs hd hx
      go_simp
      exact ⟨(Ext.refl _ _).alloc _, _, rfl, y.ext.size, heap_alloc_new _ _⟩
    · intro a' w' hx hs hd
      obtain ⟨y, rfl⟩ := hx.ew
      refine .inl ⟨rfl, ?_⟩
      clear hs hd hx
      go_simp
      exact ⟨(Ext.refl _ _).alloc _, _, rfl, y.ext.size, heap_alloc_new _ _⟩
  case' q40 =>
    intro vs w' hx hRR hDD
    obtain ⟨x2, rfl⟩ := hx.ew
    have q0 : vs 0 = _ := hRR 0 (by decide)
    have q1 : vs 1 = _ := hRR 1 (by decide)
    have q2 : vs 2 = _ := hRR 2 (by decide)
    have q3 : vs 3 = _ := hRR 3 (by decide)
    obtain ⟨sa, sc, q4, hI, hf⟩ : ∃ sa sc, vs 4 = .slice sa xs.length sc ∧ Ints x2.on sa sc xs ∧ fresh x1.on.heap.size x2.on sa := hRR 4 (by decide)
    obtain ⟨sb, sd, q5, hI2, hf2⟩ : ∃ sa sc, vs 5 = .agg #[.int .i64 ep, .slice sa xs.length sc] ∧ Ints x2.on sa sc xs ∧ fresh x1.on.heap.size x2.on sa := hRR 5 (by decide)
    obtain ⟨m1, q6, hm1, hh1⟩ : ∃ m, vs 6 = .map (some m) ∧ x1.on.heap.size ≤ m ∧ x2.on.heap[m]? = some (.map #[] 0) := hRR 6 (by decide)
    obtain ⟨m2, q7, hm2, hh2⟩ : ∃ m, vs 7 = .map (some m) ∧ x1.on.heap.size ≤ m ∧ x2.on.heap[m]? = some (.map #[] 0) := hRR 7 (by decide)
    rw [q6, q7] at hDD
    clear hRR hx
    simp only [putAll, List.take_succ_cons, List.take_zero, List.drop_succ_cons, List.drop_zero, Act.put, List.setIfInBounds_toArray, List.set_cons_zero, List.set_cons_succ, Nat.reduceAdd, Nat.zero_add]
    simp only [q0, q1, q2, q3, q4, q5, q6, q7]
    clear q0 q1 q2 q3 q4 q5 q6 q7 vs
  have hne : m1 ≠ m2 := fun e => hDD (by rw [e])
  have HA := Go.Lib.hid (And.intro hI2 (And.intro hf2 (And.intro hm1 (And.intro hh1 (And.intro hm2 (And.intro hh2 hne))))))
  clear hI hf hI2 hf2 hm1 hh1 hm2 hh2 hne hDD
  go_wp2
  go_returns
  obtain ⟨a1, a2, a3, a4, a5, a6, a7⟩ := HA.out
  have hs2 : w.heap.size ≤ x2.on.heap.size := Ext.size (by (repeat (first | with_reducible (first | exact Ext.refl _ _ | assumption | refine Ext.upN ?_ | refine Ext.alloc ?_ _ | refine Ext.drew ?_ | refine Ext.drewN ?_ _ | refine Ext.up1N (by first | omega | simp) ?_) | refine Ext.alloc ?_ _ | refine Ext.setCell ?_ (.inr (by first | omega | simp)) _)) : Ext Non w x2.on)
  have hs1 : w.heap.size ≤ x1.on.heap.size := by omega
  have XL : Ext Non x2.on (x2.on.alloc (.cells #[.int .i64 ep, .slice sb xs.length sd, .map (some m1), .map (some m2)] 237)) := (Ext.refl _ _).alloc _
  exact ⟨x2.on.heap.size, m1, m2, sb, sd, rfl, by (repeat (first | with_reducible (first | exact Ext.refl _ _ | assumption | refine Ext.upN ?_ | refine Ext.alloc ?_ _ | refine Ext.drew ?_ | refine Ext.drewN ?_ _ | refine Ext.up1N (by first | omega | simp) ?_) | refine Ext.alloc ?_ _ | refine Ext.setCell ?_ (.inr (by first | omega | simp)) _)), ⟨Bx.new x2.on [.int .i64 ep, .slice sb xs.length sd, .map (some m1), .map (some m2)] _, (XL.block m1 (Array.getElem?_eq_some_iff.1 a4).1 (fun f => f)).trans a4, (XL.block m2 (Array.getElem?_eq_some_iff.1 a6).1 (fun f => f)).trans a6, a1.extN XL, (a2.extN XL).low3 hs1, hs2, Nat.le_trans hs1 a3, Nat.le_trans hs1 a5, a7⟩⟩
end Go.Proofs.YtflpkoafebjfdaaGreat

/- Contracts of layer 18 (replica): renew. -/
namespace Go.Proofs.YtflpkoafebjfdaaGreat
open Go.RowKit Go.Lib F64
set_option linter.unusedSimpArgs false
set_option linter.unusedVariables false
attribute [local go_sem] run_store_float
attribute [local go_sem low] EW.cellN EW.frozN alloc_cell_or alloc_froz_or
attribute [local go_sem] relAt relUpon
theorem term_first (bt : Nat) (ep : Int) (hep : 0 ≤ ep ∧ ep ≤ 60) (w : World) (q1 : w.cell? ⟨bt, 3, none⟩ = some (.int .i64 ep)) : Calls Tryz.prog 91 #[.pointer (some ⟨bt, 0, none⟩)] w fun e w' => e = .returned (.int .i64 (ep * 4 + 1)) ∧ w = w' := by
  have hw1 : IntKind.i64.wrap (ep * 4) = ep * 4 := IntWalk.i64_in _ (by omega)
  have hw2 : IntKind.i64.wrap (ep * 4 + 1) = ep * 4 + 1 := IntWalk.i64_in _ (by omega)
  go_enter Tryz.func91, Tryz.ntmps91
  go_wp2
  go_ret
  exact ⟨rfl, rfl⟩
/-- The blocks of a new term, one behind the other. -/
structure NewTm (n : Nat) (w : World) (b : Nat) (row : List Value) (ep : Int) (xs : List Int) (bt bl ta m1 m2 mch n1 n2 n3 : Nat) (G : Nat → Prop) (ca sa : Option Addr) (cc sc : Nat) : Prop where
  row : Bx w b ((row.set 0 (.pointer (some ⟨bt, 0, none⟩))).set 77 (.slice none 0 0)) 108
  trm : Bx w bt [ptr bl, ptr ta, .map (some mch), .int .i64 ep, .slice ca xs.length cc, .bool true, .bool false, .int .i64 (ep * 4 + 1)] 123
  log : LoW w bl G (newLo ep xs)
  tal : NewTl n2 w ta m1 m2 ep sa sc xs
  chs : w.heap[mch]? = some (.map #[] 0)
  conf : Ints w ca cc xs
  cfr : fresh n w ca
  cf1 : ∀ k o, ca = some ⟨k, o, none⟩ → k < n1
  lg1 : ∀ k, LoF bl G k → n1 ≤ k ∧ k < n2
  tl3 : ta < n3 ∧ m1 < n3 ∧ m2 < n3
  ts3 : ∀ k o, sa = some ⟨k, o, none⟩ → k < n3
  mc3 : n3 ≤ mch
  bt3 : mch < bt
  n01 : n ≤ n1
  n12 : n1 ≤ n2
set_option maxHeartbeats 1000000 in
set_option maxRecDepth 100000 in
theorem rep_renew (b bk mb : Nat) (lg : Lg) (I : Inv lg) (row : List Value) (hlen : row.length = 88) (h2 : row[2]? = some (ptr bk)) (w : World) (hB : Bx w b row 108) (hL : LD w bk mb lg) : Calls Tryz.prog 44 #[.pointer (some ⟨b, 0, none⟩)] w fun e w' =>
    ∃ bt bl ta m1 m2 mch n1 n2 n3 G ca sa cc sc, e = .returned (.tuple #[]) ∧ Ext (One b) w w' ∧ NewTm w.heap.size w' b row lg.epoch lg.mem bt bl ta m1 m2 mch n1 n2 n3 G ca sa cc sc := by
  have HB := Go.Lib.hid hB
  have HI := Go.Lib.hid I
  have hcf : confB lg.epoch lg.mem = true := by unfold confB; rw [I.mm]; simp [I.ep.1, I.ep.2]
  have HCf := Go.Lib.hid hcf
  have q2 : w.cell? ⟨b, 2, none⟩ = some (ptr bk) := hB.cell h2
  unfold ptr at q2
  have HLd := Go.Lib.hid hL
  have HLen := Go.Lib.hid hlen
  have HEp := Go.Lib.hid I.ep
  clear hB hcf hL I hlen h2
  go_enter Tryz.func44, Tryz.ntmps44
  go_wp2_with fail
  refine (ledger_Conf bk mb lg HI.out _ HLd.out).mono ?_
  rintro e w1 ⟨ca, cc, rfl, x1, i1, f1⟩
  obtain ⟨kc, hkc⟩ : ∃ kc, kc = w1.heap.size := ⟨_, rfl⟩
  have X2 := Go.Lib.hid (x1.alloc (.cells #[.int .i64 lg.epoch, .slice ca lg.mem.length cc] 24))
  have B2 := Go.Lib.hid (Bx.newAt w1 [.int .i64 lg.epoch, .slice ca lg.mem.length cc] 24 kc hkc)
  have I2 := Go.Lib.hid (i1.extN ((Ext.refl Non w1).alloc (.cells #[.int .i64 lg.epoch, .slice ca lg.mem.length cc] 24)))
  have F2 := Go.Lib.hid (f1.extN ((Ext.refl Non w1).alloc (.cells #[.int .i64 lg.epoch, .slice ca lg.mem.length cc] 24)))
  go_upto_region 1 with fail
  rw [← hkc]
  clear hkc q2 x1 i1 f1
  generalize w1.alloc _ = w2 at *
  obtain ⟨q0, q1⟩ := And.intro (B2.out.cell (j := 0) rfl) (B2.out.cell (j := 1) rfl)
  go_wp2_with fail
  refine (slots_New lg.epoch ca cc lg.mem HCf.out _ I2.out).mono ?_
  rintro e w3 ⟨bl, G, rfl, hL, hG, x3⟩
  have B3 := Go.Lib.hid (B2.out.extN x3); have I3 := Go.Lib.hid (I2.out.extN x3); have X3 := Go.Lib.hid x3; have HLo := Go.Lib.hid hL; have HG := Go.Lib.hid hG
  clear q0 q1 hL hG x3
  obtain ⟨q0, q1⟩ := And.intro (B3.out.cell (j := 0) rfl) (B3.out.cell (j := 1) rfl)
  go_wp2_with fail
  refine (votes_New lg.epoch ca cc lg.mem HCf.out _ I3.out).mono ?_
  rintro e w4 ⟨ta, m1, m2, sa, sc, rfl, x4, hT⟩
  have B4 := Go.Lib.hid (B3.out.extN x4); have I4 := Go.Lib.hid (I3.out.extN x4); have X4 := Go.Lib.hid x4; have HTl := Go.Lib.hid hT
  clear q0 q1 x4 hT
  obtain ⟨q0, q1⟩ := And.intro (B4.out.cell (j := 0) rfl) (B4.out.cell (j := 1) rfl)
  have hb4 : b < w4.heap.size := Nat.lt_of_lt_of_le HB.out.lt (X2.out.trans (X3.out.trans X4.out)).size
  have B5 := Go.Lib.hid (HB.out.extN (X2.out.trans (X3.out.trans X4.out)))
  have z0 : (w4.cell? ⟨b, 0, none⟩) = some (row[0]'(by rw [HLen.out]; omega)) := B5.out.cell (List.getElem?_eq_getElem _)
  have zf : w4.frozen? ⟨b, 0, none⟩ = false := froz_of_heap B5.out.h
  have hmm := @run_makeMap Tryz.prog
  go_upto_region 4 with fail
  obtain ⟨mch, hmch⟩ : ∃ mch, mch = w4.heap.size := ⟨_, rfl⟩
  obtain ⟨bt, hbt⟩ : ∃ bt, bt = mch + 1 := ⟨_, rfl⟩
  have E1 : Ext (One b) w4 (w4.setCell ⟨b, 0, none⟩ (.pointer (some ⟨bt, 0, none⟩))) := (Ext.refl _ _).set1 _
  have hsz : (w4.setCell ⟨b, 0, none⟩ (.pointer (some ⟨bt, 0, none⟩))).heap.size = w4.heap.size := by simp [World.setCell]
  have R5 := B5.out.set (j := 0) (.pointer (some ⟨bt, 0, none⟩))
  have TMB := Bx.newAt ((w4.setCell ⟨b, 0, none⟩ (.pointer (some ⟨bt, 0, none⟩))).alloc (.map #[] 0)) [.pointer (some ⟨bl, 0, none⟩), .pointer (some ⟨ta, 0, none⟩), .map (some mch), .int .i64 lg.epoch, .slice ca lg.mem.length cc, .bool true, .bool false, .int .i64 0] 123 bt (by simp only [World.alloc, Array.size_push]; rw [hsz, hbt, hmch])
  have XA : Ext Non (w4.setCell ⟨b, 0, none⟩ (.pointer (some ⟨bt, 0, none⟩))) (((w4.setCell ⟨b, 0, none⟩ (.pointer (some ⟨bt, 0, none⟩))).alloc (.map #[] 0)).alloc (.cells ([.pointer (some ⟨bl, 0, none⟩), .pointer (some ⟨ta, 0, none⟩), .map (some mch), .int .i64 lg.epoch, .slice ca lg.mem.length cc, .bool true, .bool false, .int .i64 0] : List Value).toArray 123)) := ((Ext.refl _ _).alloc _).alloc _
  have HM : ((w4.setCell ⟨b, 0, none⟩ (.pointer (some ⟨bt, 0, none⟩))).alloc (.map #[] 0)).heap[mch]? = some (.map #[] 0) := by rw [hmch, ← hsz]; exact heap_alloc_new _ _
  have HM2 := (((Ext.refl Non ((w4.setCell ⟨b, 0, none⟩ (.pointer (some ⟨bt, 0, none⟩))).alloc (.map #[] 0))).alloc (.cells ([.pointer (some ⟨bl, 0, none⟩), .pointer (some ⟨ta, 0, none⟩), .map (some mch), .int .i64 lg.epoch, .slice ca lg.mem.length cc, .bool true, .bool false, .int .i64 0] : List Value).toArray 123)).block mch (Array.getElem?_eq_some_iff.1 HM).1 (fun f => f)).trans HM
  have HK := Go.Lib.hid (And.intro hmch hbt)
  rw [← hmch, ← hbt]
  have B6 := Go.Lib.hid (R5.extN XA)
  have T6 := Go.Lib.hid TMB
  have M6 := Go.Lib.hid HM2
  have XX := Go.Lib.hid (E1.trans XA.ofNon)
  clear hmch hbt E1 hsz R5 TMB XA HM HM2 z0 zf q0 q1 hmm B5 B4
  generalize (World.alloc (World.alloc _ _) _) = W5 at *
  have hne : bt ≠ b := by have := HK.out; omega
  obtain ⟨q0, q3, q7⟩ : _ ∧ _ ∧ _ := ⟨B6.out.cell (j := 0) (v := .pointer (some ⟨bt, 0, none⟩)) (by rw [List.getElem?_set_self (by rw [HLen.out]; omega)]), T6.out.cell (j := 3) rfl, T6.out.cell (j := 7) rfl⟩
  have qf : W5.frozen? ⟨bt, 7, none⟩ = false := froz_of_heap T6.out.h
  apply wp_region_rel_tail 9 (relR [Mo.is _, Mo.is _, Mo.is _, Mo.is _, Mo.is _, Mo.is _, Mo.is _, Mo.is _, Mo.is _]) (by kernel_rfl) (by kernel_rfl) (by kernel_rfl) (by kernel_rfl) (by kernel_rfl) (by decide) (by kernel_rfl) (relR_mono _) (StepD.all ?st41) ?q41
  case st41 =>
    refine ⟨?_, ?_, ?_, ?_, ?_, ?_, ?_, ?_, ?_, trivial⟩
    · intro a' w' hx hs hd
      obtain ⟨y, rfl⟩ := hx.ew
      have e0 : a'.tmps[0]?.getD undef = _ := hs 0 rfl
      simp only [List.getElem?_toArray, List.getElem?_cons_succ, List.getElem?_cons_zero, Option.getD_some, Array.getElem?_eq_some_iff] at e0
      refine .inl ⟨rfl, ?_⟩
      clear hs hd hx
      go_simp
      exact ⟨Ext.refl _ _, rfl⟩
    · intro a' w' hx hs hd
      obtain ⟨y, rfl⟩ := hx.ew
      have e31 : a'.tmps[31]?.getD undef = _ := hd 0 31 rfl rfl
      refine .inl ⟨rfl, ?_⟩
      clear hs hd hx
      go_simp
      exact ⟨Ext.refl _ _, rfl⟩
    · intro a' w' hx hs hd
      obtain ⟨y, rfl⟩ := hx.ew
      have e32 : a'.tmps[32]?.getD undef = _ := hd 1 32 rfl rfl
      refine .inl ⟨rfl, ?_⟩
      clear hs hd hx
      go_simp
      exact ⟨Ext.refl _ _, rfl⟩
    · intro a' w' hx hs hd
      obtain ⟨y, rfl⟩ := hx.ew
      have e33 : a'.tmps[33]?.getD undef = _ := hd 2 33 rfl rfl
      refine .inl ⟨rfl, ?_⟩
      clear hs hd hx
      go_simp
      exact ⟨Ext.refl _ _, rfl⟩
    · intro a' w' hx hs hd
      obtain ⟨y, rfl⟩ := hx.ew
      have e0 : a'.tmps[0]?.getD undef = _ := hs 0 rfl
      simp only [List.getElem?_toArray, List.getElem?_cons_succ, List.getElem?_cons_zero, Option.getD_some, Array.getElem?_eq_some_iff] at e0
      refine .inl ⟨rfl, ?_⟩
      clear hs hd hx
      go_simp
      exact ⟨Ext.refl _ _, rfl⟩
    · intro a' w' hx hs hd
      obtain ⟨y, rfl⟩ := hx.ew
      have e35 : a'.tmps[35]?.getD undef = _ := hd 4 35 rfl rfl
      refine .inl ⟨rfl, ?_⟩
      clear hs hd hx
      go_simp
      exact ⟨Ext.refl _ _, rfl⟩
    · intro a' w' hx hs hd
      obtain ⟨y, rfl⟩ := hx.ew
      have e36 : a'.tmps[36]?.getD undef = _ := hd 5 36 rfl rfl
      refine .inl ⟨rfl, ?_⟩
      clear hs hd hx
      go_simp
      exact ⟨Ext.refl _ _, rfl⟩
    · intro a' w' hx hs hd
      obtain ⟨y, rfl⟩ := hx.ew
      have e37 : a'.tmps[37]?.getD undef = _ := hd 6 37 rfl rfl
      refine .inl ⟨rfl, ?_⟩
      clear hs hd hx
      go_simp
      exact ⟨Ext.refl _ _, rfl⟩
    · intro a' w' hx hs hd
      obtain ⟨y, rfl⟩ := hx.ew
      have e38 : a'.tmps[38]?.getD undef = _ := hd 7 38 rfl rfl
      refine .inl ⟨rfl, ?_⟩
      clear hs hd hx
      go_simp
      exact (term_first bt lg.epoch HEp.out _ (by simp only [EW.cellN, q3, Option.some_or])).mono (fun e w'' ⟨he, hx⟩ => ⟨_, he, hx ▸ Ext.refl _ _, rfl⟩)
  case' q41 =>
    intro vs w' hx hRR
    obtain ⟨x6, rfl⟩ := hx.ew
    have q0 : vs 0 = _ := hRR 0 (by decide)
    have q1 : vs 1 = _ := hRR 1 (by decide)
    have q2 : vs 2 = _ := hRR 2 (by decide)
    have q3 : vs 3 = _ := hRR 3 (by decide)
    have q4 : vs 4 = _ := hRR 4 (by decide)
    have q5 : vs 5 = _ := hRR 5 (by decide)
    have q6 : vs 6 = _ := hRR 6 (by decide)
    have q7 : vs 7 = _ := hRR 7 (by decide)
    have q8 : vs 8 = _ := hRR 8 (by decide)
    clear hRR hx
    simp only [putAll, List.take_succ_cons, List.take_zero, List.drop_succ_cons, List.drop_zero, Act.put, List.setIfInBounds_toArray, List.set_cons_zero, List.set_cons_succ, Nat.reduceAdd, Nat.zero_add]
    simp only [q0, q1, q2, q3, q4, q5, q6, q7, q8]
    clear q0 q1 q2 q3 q4 q5 q6 q7 q8 vs
  have B7 := Go.Lib.hid (B6.out.extN (by (repeat (first | with_reducible (first | exact Ext.refl _ _ | assumption | refine Ext.upN ?_ | refine Ext.alloc ?_ _ | refine Ext.drew ?_ | refine Ext.drewN ?_ _ | refine Ext.up1N (by first | omega | simp) ?_) | refine Ext.alloc ?_ _ | refine Ext.setCell ?_ (.inr (by first | omega | simp)) _)) : Ext Non W5 x6.on)); have T7 := Go.Lib.hid (T6.out.extN (by (repeat (first | with_reducible (first | exact Ext.refl _ _ | assumption | refine Ext.upN ?_ | refine Ext.alloc ?_ _ | refine Ext.drew ?_ | refine Ext.drewN ?_ _ | refine Ext.up1N (by first | omega | simp) ?_) | refine Ext.alloc ?_ _ | refine Ext.setCell ?_ (.inr (by first | omega | simp)) _)) : Ext Non W5 x6.on))
  have X7 := Go.Lib.hid (XX.out.trans (by (repeat (first | with_reducible (first | exact Ext.refl _ _ | assumption | refine Ext.upN ?_ | refine Ext.alloc ?_ _ | refine Ext.drew ?_ | refine Ext.drewN ?_ _ | refine Ext.up1N (by first | omega | simp) ?_) | refine Ext.alloc ?_ _ | refine Ext.setCell ?_ (.inr (by first | omega | simp)) _)) : Ext Non W5 x6.on).ofNon)
  have M7 : Hid (x6.on.heap[mch]? = some (.map #[] 0)) := Go.Lib.hid (((by (repeat (first | with_reducible (first | exact Ext.refl _ _ | assumption | refine Ext.upN ?_ | refine Ext.alloc ?_ _ | refine Ext.drew ?_ | refine Ext.drewN ?_ _ | refine Ext.up1N (by first | omega | simp) ?_) | refine Ext.alloc ?_ _ | refine Ext.setCell ?_ (.inr (by first | omega | simp)) _)) : Ext Non W5 x6.on).block mch (Array.getElem?_eq_some_iff.1 M6.out).1 (fun f => f)).trans M6.out)
  clear q0 q3 q7 qf B6 T6 XX M6
  generalize x6.on = W7 at *
  have q7 : W7.cell? ⟨bt, 7, none⟩ = some (.int .i64 0) := T7.out.cell (j := 7) rfl
  have qf : W7.frozen? ⟨bt, 7, none⟩ = false := froz_of_heap T7.out.h
  go_upto_region 5 with fail
  have x8 : Ext (One bt) W7 (W7.setCell ⟨bt, 7, none⟩ (.int .i64 (lg.epoch * 4 + 1))) := (Ext.refl _ _).set1 _
  have T8 := Go.Lib.hid (T7.out.set (j := 7) (.int .i64 (lg.epoch * 4 + 1)))
  have B8 := Go.Lib.hid (B7.out.ext x8 (fun q => hne q.symm))
  have M8 : Hid ((W7.setCell ⟨bt, 7, none⟩ (.int .i64 (lg.epoch * 4 + 1))).heap[mch]? = some (.map #[] 0)) := Go.Lib.hid ((x8.block mch (Array.getElem?_eq_some_iff.1 M7.out).1 (fun q => by have q : mch = bt := q; have := HK.out; omega)).trans M7.out)
  have X8 : Hid (Ext (One b) w4 (W7.setCell ⟨bt, 7, none⟩ (.int .i64 (lg.epoch * 4 + 1)))) := Go.Lib.hid (X7.out.step x8 (fun i hi q => by have q : i = bt := q; have := HK.out; omega))
  clear q7 qf x8 B7 T7 X7 M7
  generalize W7.setCell _ _ = W8 at *
  have q77 : W8.cell? ⟨b, 77, none⟩ = some ((row.set 0 (.pointer (some ⟨bt, 0, none⟩)))[77]'(by rw [List.length_set, HLen.out]; omega)) := B8.out.cell (List.getElem?_eq_getElem _)
  have qf : W8.frozen? ⟨b, 77, none⟩ = false := froz_of_heap B8.out.h
  go_wp2
  go_returns
  have x9 : Ext (One b) W8 (W8.setCell ⟨b, 77, none⟩ (.slice none 0 0)) := (Ext.refl _ _).set1 _
  have XT : Ext (One b) w4 (W8.setCell ⟨b, 77, none⟩ (.slice none 0 0)) := X8.out.trans x9
  have hbn : b < w2.heap.size := Nat.lt_of_lt_of_le HB.out.lt X2.out.size
  have hlt3 := X3.out.size; have hlt4 := X4.out.size; have hlt2 := X2.out.size
  have hml := HK.out.1; have hbt := HK.out.2
  refine ⟨bt, bl, ta, m1, m2, mch, w2.heap.size, w3.heap.size, w4.heap.size, G, ca, sa, cc, sc, rfl, ((X2.out.trans (X3.out.trans X4.out)).ofNon).trans XT, ⟨B8.out.set (j := 77) (.slice none 0 0), ?_, ?_, ?_, ?_, ?_, ?_, ?_, ?_, ?_, ?_, ?_, ?_, ?_, ?_⟩⟩
  · exact T8.out.ext x9 (fun q => hne q)
  · exact (HLo.out.extN X4.out).ext XT (fun k hk q => by have q : k = b := q; have := HG.out k hk; omega)
  · have t := HTl.out
    exact ⟨t.h.ext XT (fun q => by have q : ta = b := q; have := t.lb; omega), (XT.block m1 (Array.getElem?_eq_some_iff.1 t.h1).1 (fun q => by have q : m1 = b := q; have := t.l1; omega)).trans t.h1, (XT.block m2 (Array.getElem?_eq_some_iff.1 t.h2).1 (fun q => by have q : m2 = b := q; have := t.l2; omega)).trans t.h2, t.ints.ext XT (fun k o e q => by have q : k = b := q; have := (t.fr k o e).1; omega), t.fr.lowX XT (fun k hk q => by have q : k = b := q; omega) (Nat.le_refl _), t.lb, t.l1, t.l2, t.ne⟩
  · exact (x9.block mch (Array.getElem?_eq_some_iff.1 M8.out).1 (fun q => by have q : mch = b := q; omega)).trans M8.out
  · exact (I4.out.ext XT (fun k o e q => by have q : k = b := q; have h1 := (F2.out k o e).1; have := HB.out.lt; omega))
  · exact (F2.out.extN (X3.out.trans X4.out)).lowX XT (fun k hk q => by have q : k = b := q; have := HB.out.lt; omega) (Nat.le_refl _)
  · intro k o e
    obtain ⟨-, vs, fr, h⟩ := F2.out k o e
    exact (Array.getElem?_eq_some_iff.1 h).1
  · intro k hk
    have h1 := HG.out k hk
    have h2 : k < w3.heap.size := by rcases hk with rfl | hk; exact HLo.out.bl; exact HLo.out.lt k hk
    exact ⟨h1, h2⟩
  · exact ⟨HTl.out.h.lt, (Array.getElem?_eq_some_iff.1 HTl.out.h1).1, (Array.getElem?_eq_some_iff.1 HTl.out.h2).1⟩
  · intro k o e
    obtain ⟨-, vs, fr, h⟩ := HTl.out.fr k o e
    exact (Array.getElem?_eq_some_iff.1 h).1
  · omega
  · omega
  · exact hlt2
  · exact hlt3
end Go.Proofs.YtflpkoafebjfdaaGreat

/- Layer 18: a replica's new term: its blocks get their colours. -/
namespace Go.Proofs.YtflpkoafebjfdaaGreat
open Go.RowKit Go.Lib F64
set_option linter.unusedSimpArgs false
set_option linter.unusedVariables false
open Classical in
/-- The colours of a new term. -/
noncomputable def colT (w : World) (col : Nat → Nat) (bt ta m1 m2 mch : Nat) (L : Nat → Prop) : Nat → Nat := fun k =>
  if k < w.heap.size then col k else if k = bt then 2 else if L k then 3 else if k = ta ∨ k = m1 ∨ k = m2 then 4 else if k = mch then 5 else 0
theorem colT_x (w : World) (col : Nat → Nat) (bt ta m1 m2 mch : Nat) (L : Nat → Prop) : ColX w col (colT w col bt ta m1 m2 mch L) := fun k hk => by unfold colT; rw [if_pos hk]
theorem MapC.empty {w : World} {m : Nat} (h : w.heap[m]? = some (.map #[] 0)) : MapC w m [] := ⟨⟨#[], 0, h, Go.MapKept.stamped_empty 0, rfl⟩, fun p hp => (nomatch hp)⟩
section
variable {w w' : World} {b : Nat} {col : Nat → Nat} {A : RA} {g : Rp}
/-- What stands of a replica besides its term. -/
structure Half (w : World) (b : Nat) (col : Nat → Nat) (A : RA) (g : Rp) : Prop where
  book : BkW w col A.bk A.mb g.book
  chn : TkW w col A.ck g.chain
  tmr : T3 w A.tm g.timer.fails g.timer.run g.timer.fin
  hist : OwnC w col 10 68 7 A.hv EnR g.hist
  out : OwnC w col 11 54 19 A.ov (PkR (hide col w)) g.out
  ss : Sigs (hide col w) A.sa A.sc g.settled.sigs
  sm : Ints (hide col w) A.ma A.mc g.settled.lk.mem
  sl : Sigs (hide col w) A.la A.lc g.settled.lk.sigs
  c1 : col b = 1
  b1 : b < w.heap.size
  c8 : col A.tm = 8
  b8 : A.tm < w.heap.size
  new : ∀ k, w.heap.size ≤ k → col k = 0
theorem Half.renewed (h : Half w b col A g) (I : Inv g.book) {row : List Value} {bt bl ta m1 m2 mch n1 n2 n3 : Nat} {G : Nat → Prop} {ca sa : Option Addr} {cc sc : Nat} (x : Ext (One b) w w') (N : NewTm w.heap.size w' b row g.book.epoch g.book.mem bt bl ta m1 m2 mch n1 n2 n3 G ca sa cc sc)
    (hrow : (row.set 0 (.pointer (some ⟨bt, 0, none⟩))).set 77 (.slice none 0 0) = rowRp { A with bt := bt, bl := bl, ta := ta, mch := mch, ca := ca, cc := cc, sv := .slice none 0 0 } (renewG g)) :
    ∃ col', RepW w' b col' { A with bt := bt, bl := bl, ta := ta, mch := mch, ca := ca, cc := cc, sv := .slice none 0 0 } (renewG g) ∧ ColX w col col' ∧ w.heap.size ≤ bt := by
  have hcf : confB g.book.epoch g.book.mem = true := by unfold confB; rw [I.mm]; simp [I.ep.1, I.ep.2]
  have hlg1 := N.lg1; have htl3 := N.tl3; have hmc3 := N.mc3; have hbt3 := N.bt3; have hn01 := N.n01; have hn12 := N.n12
  have hta := N.tal.lb; have hm1 := N.tal.l1; have hm2 := N.tal.l2; have hne := N.tal.ne
  have hx := colT_x w col bt ta m1 m2 mch (LoF bl G)
  have hc1 : ∀ k, One b k → col k = 1 := fun k s => by have s : k = b := s; rw [s]; exact h.c1
  have XC : Ext (Colo col) w w' := x.mono (fun k hk s => by show col k ≠ 0; rw [hc1 k s]; decide)
  have xh := hide_ext XC hx
  have up : ∀ i, i ≠ 1 → ∀ k, k < w.heap.size → One b k → col k ≠ 0 ∧ col k ≠ i := fun i hi k hk s => by rw [hc1 k s]; exact ⟨by decide, fun e => hi e.symm⟩
  have hnew : ∀ k, w'.heap.size ≤ k → colT w col bt ta m1 m2 mch (LoF bl G) k = 0 := fun k hk => by
    have hs := x.size
    have l1 := N.trm.lt
    have l2 : m1 < w'.heap.size := (Array.getElem?_eq_some_iff.1 N.tal.h1).1
    have l3 : m2 < w'.heap.size := (Array.getElem?_eq_some_iff.1 N.tal.h2).1
    have l4 := N.tal.h.lt
    unfold colT
    rw [if_neg (by omega), if_neg (by omega), if_neg (fun q => by have := hlg1 k q; omega), if_neg (by omega), if_neg (by omega)]
  have k2 : colT w col bt ta m1 m2 mch (LoF bl G) bt = 2 := by unfold colT; rw [if_neg (by omega), if_pos rfl]
  have k3 : ∀ k, LoF bl G k → colT w col bt ta m1 m2 mch (LoF bl G) k = 3 := fun k hk => by
    have := hlg1 k hk
    unfold colT; rw [if_neg (by omega), if_neg (by omega), if_pos hk]
  have k4 : ∀ k, (k = ta ∨ k = m1 ∨ k = m2) → colT w col bt ta m1 m2 mch (LoF bl G) k = 4 := fun k hk => by
    unfold colT; rw [if_neg (by omega), if_neg (by omega), if_neg (fun q => by have := hlg1 k q; omega), if_pos hk]
  have k5 : colT w col bt ta m1 m2 mch (LoF bl G) mch = 5 := by
    unfold colT; rw [if_neg (by omega), if_neg (by omega), if_neg (fun q => by have := hlg1 mch q; omega), if_neg (by omega), if_pos rfl]
  have k0 : ∀ k o, ca = some ⟨k, o, none⟩ → colT w col bt ta m1 m2 mch (LoF bl G) k = 0 := fun k o e => by
    have q1 := (N.cfr k o e).1; have q2 := N.cf1 k o e
    unfold colT; rw [if_neg (by omega), if_neg (by omega), if_neg (fun q => by have := hlg1 k q; omega), if_neg (by omega), if_neg (by omega)]
  have s0 : ∀ k o, sa = some ⟨k, o, none⟩ → colT w col bt ta m1 m2 mch (LoF bl G) k = 0 := fun k o e => by
    obtain ⟨q1, vs, fr, q3⟩ := N.tal.fr k o e
    have q2 := N.ts3 k o e
    have z1 : k ≠ ta := fun z => by
      have q4 := N.tal.h.h
      rw [← z, q3] at q4
      injection q4 with q4; injection q4 with _ q4 _; exact absurd q4 (by decide)
    have z2 : k ≠ m1 := fun z => by have q4 := N.tal.h1; rw [← z, q3] at q4; injection q4 with q4; cases q4
    have z3 : k ≠ m2 := fun z => by have q4 := N.tal.h2; rw [← z, q3] at q4; injection q4 with q4; cases q4
    unfold colT; rw [if_neg (by omega), if_neg (by omega), if_neg (fun q => by have := hlg1 k q; omega), if_neg (by omega), if_neg (by omega)]
  generalize hcol : colT w col bt ta m1 m2 mch (LoF bl G) = col' at *
  refine ⟨col', ?_, hx, by omega⟩
  exact {
    row := fun _ => by rw [← hrow]; exact N.row
    trm := fun _ => N.trm
    log := fun _ => ⟨G, N.log, k3⟩
    tal := fun _ => ⟨sa, sc, m1, m2, [], {
      h := N.tal.h
      ints := N.tal.ints.hide s0
      mv := MapG.empty N.tal.h1
      dr := rfl
      nx := fun p hp => (nomatch hp)
      mc := MapC.empty N.tal.h2
      cb := k4 _ (.inl rfl)
      c1 := k4 _ (.inr (.inl rfl))
      c2 := k4 _ (.inr (.inr rfl))
      inv := TlI.new hcf
      m12 := hne
      b1 := fun e => by have e : ta = m1 := e; have q1 := N.tal.h.h; have q2 := N.tal.h1; rw [e, q2] at q1; injection q1 with q1; cases q1
      b2 := fun e => by have e : ta = m2 := e; have q1 := N.tal.h.h; have q2 := N.tal.h2; rw [e, q2] at q1; injection q1 with q1; cases q1 }⟩
    chs := fun _ => ⟨⟨[], MapG.empty N.chs, rfl, fun p hp => (nomatch hp)⟩, k5⟩
    book := fun _ => h.book.ext x (up 6 (by decide)) hx
    chn := fun _ => by obtain ⟨v1, v2, p⟩ := h.chn; exact ⟨v1, v2, p.ext x (up 7 (by decide)) hx⟩
    tmr := fun _ => h.tmr.ext x (fun s => by have := hc1 _ s; rw [h.c8] at this; cases this)
    says := fun _ => (OwnC.nil _ _ _ _ _ _).z
    hist := fun _ => h.hist.ext x (fun k hk s => (up 10 (by decide) k hk s).2) hx (fun _ _ h => h)
    out := fun _ => h.out.ext x (fun k hk s => (up 11 (by decide) k hk s).2) hx (PkR.up xh)
    ss := h.ss.extN xh
    sm := h.sm.extN xh
    sl := h.sl.extN xh
    conf := N.conf.hide k0
    c1 := (hx b h.b1).trans h.c1
    b1 := Nat.lt_of_lt_of_le h.b1 x.size
    c2 := k2
    b2 := N.trm.lt
    c8 := (hx _ h.b8).trans h.c8
    b8 := Nat.lt_of_lt_of_le h.b8 x.size
    new := hnew }
end
end Go.Proofs.YtflpkoafebjfdaaGreat
