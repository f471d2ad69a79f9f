/- Joined texts: R12c. What each proves stands at its head; no conditions beside those in its theorems. -/
import Derived.Test.YtfefeepljbfcdaaGreatPjAD
import Derived.Test.YtfefeepljbfcdaaGreatPjAA
import Derived.Test.YtfefeepljbfcdaaGreatPjAB
import Derived.Test.YtfefeepljbfcdaaGreatPjAG
import Derived.Test.YtfefeepljbfcdaaGreatPjAO
import Derived.Test.YtfefeepljbfcdaaGreatPjAH
import Derived.Test.YtfefeepljbfcdaaGreatPjAI
import Derived.Test.YtfefeepljbfcdaaGreatPjAE
import Derived.Test.YtfefeepljbfcdaaGreatPjAJ
import Derived.Test.YtfefeepljbfcdaaGreatPjAL
import Derived.Test.YtfefeepljbfcdaaGreatPjAM
import Derived.Test.YtfefeepljbfcdaaGreatPjAN
import Derived.Test.YtfefeepljbfcdaaGreatPjAQ
import Derived.Test.YtfefeepljbfcdaaGreatPjAS
import Derived.Test.YtfefeepljbfcdaaGreatPjBA
import Derived.Test.YtfefeepljbfcdaaGreatPjAK
import Derived.Test.YtfefeepljbfcdaaGreatPjAF
import Derived.Test.YtfefeepljbfcdaaGreatPjBH
import Derived.Test.YtfefeepljbfcdaaGreatPjAR
import Derived.Test.YtfefeepljbfcdaaGreatPjBG
import Derived.Test.YtfefeepljbfcdaaGreatPjBI
/- The reference of layer 12 in memory: where a key stands; what is told of it; a key put, a key cut. -/
namespace Go.Proofs.YtfefeepljbfcdaaGreat
open Go.RowKit Go.Lib F64
set_option linter.unusedSimpArgs false
set_option linter.unusedVariables false
attribute [local go_sem] run_store_float
attribute [local go_sem low] EW.cellN EW.frozN alloc_cell_or alloc_froz_or EW.cellF EW.frozF EW.cell1 EW.froz1
attribute [local go_sem] relAt relUpon
def atI (k : ByteArray) (l : Ks) : Int := match atK k l with | some i => (i : Int) | none => -1
theorem RL.row {w : World} {b sb rb : Nat} {g : Lg} (h : RL w b sb rb g) : ∃ ia ic, w.cell? ⟨b, 4, none⟩ = some (.slice ia (sortK g.keys).length ic) ∧ (sortK g.keys).length ≤ ic ∧ ic ≤ 9223372036854775807 ∧ ∀ j (hj : j < (sortK g.keys).length), ∃ gi, ia = some ⟨gi, 0, none⟩ ∧ gi < w.heap.size ∧ w.cell? ⟨gi, j * 2, none⟩ = some (.string (sortK g.keys)[j].1) ∧ w.cell? ⟨gi, j * 2 + 1, none⟩ = some (.int .u64 (sortK g.keys)[j].2) := by
  obtain ⟨a1, c1, a2, c2, v, hb, -, -, -, -, hv⟩ := h.ex
  rw [← sortK_len] at hv
  obtain ⟨ia, ic, rfl, h1, h2, hc⟩ := ownA_rows (sortK g.keys) itC (fun _ => rfl) hv
  refine ⟨ia, ic, hb.cell rfl, h1, h2, fun j hj => ?_⟩
  obtain ⟨gi, e, hg, hcc⟩ := hc j hj
  exact ⟨gi, e, hg, by have := hcc 0 _ rfl; simpa using this, by have := hcc 1 _ rfl; simpa using this⟩
theorem str_beq_ne {a b : ByteArray} (h : a ≠ b) : (a.toList == b.toList) = false := by
  rw [beq_eq_false_iff_ne]; exact fun e => h (toList_inj e)
set_option maxHeartbeats 2000000 in
set_option maxRecDepth 100000 in
theorem ref12_at (b sb rb : Nat) (g : Lg) (hk16 : g.keys.length ≤ 16) (k : ByteArray) (w : World) (h : RL w b sb rb g) : Calls Tryz.prog 99 #[.pointer (some ⟨b, 0, none⟩), .string k] w fun e w' =>
    e = .returned (.int .i64 (atI k (sortK g.keys))) ∧ Ext Non w w' := by
  obtain ⟨ia, ic, q4, h1, h2, hc⟩ := h.row
  have hl : (sortK g.keys).length ≤ 16 := by rw [sortK_len]; exact hk16
  have HC := Go.Lib.hid hc
  have HA : Hid (∀ i, atK k (sortK g.keys) = some i → atI k (sortK g.keys) = i) := Go.Lib.hid (fun i e => by unfold atI; rw [e])
  have HA0 : Hid (atK k (sortK g.keys) = none → atI k (sortK g.keys) = -1) := Go.Lib.hid (fun e => by unfold atI; rw [e])
  clear h hc
  generalize sortK g.keys = l at *
  generalize atI k l = res at *
  go_enter Tryz.func99, Tryz.ntmps99
  go_wp2_with fail
  go_loopg [5] l.length (fun n iv wr => ∃ (i : Nat) (z : EW Non w), i ≤ l.length ∧ n = l.length - i ∧ iv = .int .i64 i ∧ wr = z.on ∧ Hid (atK k l = (atK k (l.drop i)).map (· + i)))
  case atStart => exact ⟨0, ⟨_, by (repeat (first | with_reducible (first | exact Ext.refl _ _ | assumption | refine Ext.upN ?_ | refine Ext.alloc ?_ _ | refine Ext.drew ?_ | refine Ext.drewN ?_ _ | refine Ext.up1N (by first | omega | simp) ?_) | refine Ext.alloc ?_ _ | refine Ext.setCell ?_ (.inr (by first | omega | simp)) _))⟩, Nat.zero_le _, rfl, rfl, rfl, Go.Lib.hid (by rw [List.drop_zero]; cases atK k l <;> rfl)⟩
  case round =>
    obtain ⟨i, z, hi, hn, rfl, rfl, HD⟩ := hrel
    have HN := Go.Lib.hid hn; clear hn
    by_cases hlt : i < l.length
    · obtain ⟨gi, rfl, hg, k0, k1⟩ := HC.out i hlt
      have HS := Go.Lib.hid (atK_drop k l i hlt)
      generalize l[i] = p at *
      obtain ⟨pk, px⟩ := p
      by_cases hk : pk = k
      · subst hk
        have HF : Hid (res = i) := Go.Lib.hid (HA.out i (by rw [HD.out, HS.out, if_pos rfl]; simp))
        go_wp2
        go_ret
        exact ⟨by rw [HF.out]; rfl, by (repeat (first | with_reducible (first | exact Ext.refl _ _ | assumption | refine Ext.upN ?_ | refine Ext.alloc ?_ _ | refine Ext.drew ?_ | refine Ext.drewN ?_ _ | refine Ext.up1N (by first | omega | simp) ?_) | refine Ext.alloc ?_ _ | refine Ext.setCell ?_ (.inr (by first | omega | simp)) _))⟩
      · have hb := str_beq_ne hk
        have HF : Hid (atK k l = (atK k (l.drop (i + 1))).map (· + (i + 1))) := Go.Lib.hid (by
          rw [HD.out, HS.out, if_neg hk]
          cases atK k (l.drop (i + 1)) <;> simp; omega)
        go_wp2_with fail
        go_roundg (l.length - (i + 1))
        case measure => have := HN.out; omega
        case rel => exact ⟨i + 1, ⟨_, by (repeat (first | with_reducible (first | exact Ext.refl _ _ | assumption | refine Ext.upN ?_ | refine Ext.alloc ?_ _ | refine Ext.drew ?_ | refine Ext.drewN ?_ _ | refine Ext.up1N (by first | omega | simp) ?_) | refine Ext.alloc ?_ _ | refine Ext.setCell ?_ (.inr (by first | omega | simp)) _))⟩, hlt, rfl, by go_num, rfl, HF⟩
    · have HF : Hid (res = -1) := Go.Lib.hid (HA0.out (by rw [HD.out, List.drop_eq_nil_of_le (by omega)]; rfl))
      go_wp2
      go_ret
      exact ⟨by rw [HF.out]; rfl, by (repeat (first | with_reducible (first | exact Ext.refl _ _ | assumption | refine Ext.upN ?_ | refine Ext.alloc ?_ _ | refine Ext.drew ?_ | refine Ext.drewN ?_ _ | refine Ext.up1N (by first | omega | simp) ?_) | refine Ext.alloc ?_ _ | refine Ext.setCell ?_ (.inr (by first | omega | simp)) _))⟩
theorem ref12_at_some (b sb rb : Nat) (g : Lg) (hk16 : g.keys.length ≤ 16) (k : ByteArray) (i : Nat) (hi : atK k (sortK g.keys) = some i) (w : World) (h : RL w b sb rb g) : Calls Tryz.prog 99 #[.pointer (some ⟨b, 0, none⟩), .string k] w fun e w' =>
    e = .returned (.int .i64 (i : Int)) ∧ Ext Non w w' :=
  (ref12_at b sb rb g hk16 k w h).mono fun e w' ⟨he, hx⟩ => ⟨by rw [he]; unfold atI; rw [hi], hx⟩
set_option maxHeartbeats 2000000 in
set_option maxRecDepth 100000 in
theorem ref12_told (b sb rb : Nat) (g : Lg) (hk16 : g.keys.length ≤ 16) (k : ByteArray) (hh : hasK g.keys k = true) (w : World) (h : RL w b sb rb g) : Calls Tryz.prog 101 #[.pointer (some ⟨b, 0, none⟩), .string k] w fun e w' =>
    e = .returned (.agg #[.int .i64 0, .float .f64 (valK g.keys k)]) ∧ Ext Non w w' := by
  obtain ⟨ia, ic, q4, h1, h2, hc⟩ := h.row
  have HH := Go.Lib.hid h
  obtain ⟨i, hi⟩ : ∃ i, atK k (sortK g.keys) = some i := by
    cases ha : atK k (sortK g.keys) with
    | none => rw [(at_sort_none h.nd).1 ha] at hh; cases hh
    | some i => exact ⟨i, rfl⟩
  obtain ⟨hlt, he, -⟩ := at_sort h.nd hi
  obtain ⟨gi, rfl, hg, k0, k1⟩ := hc i hlt
  rw [he] at k1
  have k1 : w.cell? ⟨gi, i * 2 + 1, none⟩ = some (.int .u64 (valK g.keys k)) := k1
  have HI := Go.Lib.hid hi
  clear h hc hi he hh k0
  have HL := Go.Lib.hid (rfl : sortK g.keys = sortK g.keys)
  generalize (sortK g.keys).length = len at *
  have bi : (i : Int) < (len : Int) := by omega
  generalize valK g.keys k = vx at *
  go_enter Tryz.func101, Tryz.ntmps101
  go_upto_region 1 with fail
  have BR := Go.Lib.hid (Bx.newAt w [.int .i64 0, .float .f64 0] 48 _ rfl)
  have HKR := Go.Lib.hid (rfl : w.heap.size = w.heap.size)
  apply wp_region_rel_tail 12 (relR [Mo.is _, Mo.is _, Mo.is _, Mo.is _, Mo.is _, Mo.is _, Mo.is _, Mo.is _, Mo.is _, Mo.is _, Mo.is _, Mo.is _]) (by kernel_rfl) (by kernel_rfl) (by kernel_rfl) (by kernel_rfl) (by kernel_rfl) (by decide) (by kernel_rfl) (relR_mono _) (StepD.all ?st4) ?q4
  case st4 =>
    refine ⟨?_, ?_, ?_, ?_, ?_, ?_, ?_, ?_, ?_, ?_, ?_, ?_, trivial⟩
    · intro a' w' hx hs hd
      obtain ⟨y, rfl⟩ := hx.ew
      have e0 : a'.tmps[0]?.getD undef = _ := hs 0 rfl
      simp only [List.getElem?_toArray, List.getElem?_cons_succ, List.getElem?_cons_zero, Option.getD_some, Array.getElem?_eq_some_iff] at e0
      refine .inl ⟨rfl, ?_⟩
      clear hs hd hx
      go_simp
      exact ⟨Ext.refl _ _, rfl⟩
    · intro a' w' hx hs hd
      obtain ⟨y, rfl⟩ := hx.ew
      have e5 : a'.tmps[5]?.getD undef = _ := hd 0 5 rfl rfl
      refine .inl ⟨rfl, ?_⟩
      clear hs hd hx
      go_simp
      exact ⟨Ext.refl _ _, rfl⟩
    · intro a' w' hx hs hd
      obtain ⟨y, rfl⟩ := hx.ew
      have e6 : a'.tmps[6]?.getD undef = _ := hd 1 6 rfl rfl
      refine .inl ⟨rfl, ?_⟩
      clear hs hd hx
      go_simp
      exact ⟨Ext.refl _ _, rfl⟩
    · intro a' w' hx hs hd
      obtain ⟨y, rfl⟩ := hx.ew
      have e7 : a'.tmps[7]?.getD undef = _ := hd 2 7 rfl rfl
      refine .inl ⟨rfl, ?_⟩
      clear hs hd hx
      go_simp
      exact ⟨Ext.refl _ _, rfl⟩
    · intro a' w' hx hs hd
      obtain ⟨y, rfl⟩ := hx.ew
      have e0 : a'.tmps[0]?.getD undef = _ := hs 0 rfl
      simp only [List.getElem?_toArray, List.getElem?_cons_succ, List.getElem?_cons_zero, Option.getD_some, Array.getElem?_eq_some_iff] at e0
      refine .inl ⟨rfl, ?_⟩
      clear hs hd hx
      go_simp
      exact ⟨Ext.refl _ _, rfl⟩
    · intro a' w' hx hs hd
      obtain ⟨y, rfl⟩ := hx.ew
      have e1 : a'.tmps[1]?.getD undef = _ := hs 1 rfl
      simp only [List.getElem?_toArray, List.getElem?_cons_succ, List.getElem?_cons_zero, Option.getD_some, Array.getElem?_eq_some_iff] at e1
      refine .inl ⟨rfl, ?_⟩
      clear hs hd hx
      go_simp
      exact ⟨Ext.refl _ _, rfl⟩
    · intro a' w' hx hs hd
      obtain ⟨y, rfl⟩ := hx.ew
      have e9 : a'.tmps[9]?.getD undef = _ := hd 4 9 rfl rfl
      have e10 : a'.tmps[10]?.getD undef = _ := hd 5 10 rfl rfl
      refine .inl ⟨rfl, ?_⟩
      clear hs hd hx
      go_simp
      exact (ref12_at_some b sb rb g hk16 k i HI.out _ (HH.out.extN (by (repeat (first | with_reducible (first | exact Ext.refl _ _ | assumption | refine Ext.upN ?_ | refine Ext.alloc ?_ _ | refine Ext.drew ?_ | refine Ext.drewN ?_ _ | refine Ext.up1N (by first | omega | simp) ?_) | refine Ext.alloc ?_ _ | refine Ext.setCell ?_ (.inr (by first | omega | simp)) _))))).mono (fun e w'' ⟨he, hx⟩ => ⟨_, he, hx, rfl⟩)
    · intro a' w' hx hs hd
      obtain ⟨y, rfl⟩ := hx.ew
      have e8 : a'.tmps[8]?.getD undef = _ := hd 3 8 rfl rfl
      have e11 : a'.tmps[11]?.getD undef = _ := hd 6 11 rfl rfl
      refine .inl ⟨rfl, ?_⟩
      clear hs hd hx
      go_simp
      exact ⟨Ext.refl _ _, rfl⟩
    · intro a' w' hx hs hd
      obtain ⟨y, rfl⟩ := hx.ew
      have e12 : a'.tmps[12]?.getD undef = _ := hd 7 12 rfl rfl
      refine .inl ⟨rfl, ?_⟩
      clear hs hd hx
      go_simp
      exact ⟨Ext.refl _ _, rfl⟩
    · intro a' w' hx hs hd
      obtain ⟨y, rfl⟩ := hx.ew
      have e13 : a'.tmps[13]?.getD undef = _ := hd 8 13 rfl rfl
      refine .inl ⟨rfl, ?_⟩
      clear hs hd hx
      go_simp
      exact ⟨Ext.refl _ _, rfl⟩
    · intro a' w' hx hs hd
      obtain ⟨y, rfl⟩ := hx.ew
      have e14 : a'.tmps[14]?.getD undef = _ := hd 9 14 rfl rfl
      refine .inl ⟨rfl, ?_⟩
      clear hs hd hx
      go_simp
      exact ⟨Ext.refl _ _, rfl⟩
    · intro a' w' hx hs hd
      obtain ⟨y, rfl⟩ := hx.ew
      have e15 : a'.tmps[15]?.getD undef = _ := hd 10 15 rfl rfl
      refine .inl ⟨rfl, ?_⟩
      clear hs hd hx
      go_simp
      exact ⟨Ext.refl _ _, rfl⟩
  case' q4 =>
    intro vs w' hx hRR
    obtain ⟨x2, rfl⟩ := hx.ew
    have q0 : vs 0 = _ := hRR 0 (by decide)
    have q1 : vs 1 = _ := hRR 1 (by decide)
    have q2 : vs 2 = _ := hRR 2 (by decide)
    have q3 : vs 3 = _ := hRR 3 (by decide)
    have q4 : vs 4 = _ := hRR 4 (by decide)
    have q5 : vs 5 = _ := hRR 5 (by decide)
    have q6 : vs 6 = _ := hRR 6 (by decide)
    have q7 : vs 7 = _ := hRR 7 (by decide)
    have q8 : vs 8 = _ := hRR 8 (by decide)
    have q9 : vs 9 = _ := hRR 9 (by decide)
    have q10 : vs 10 = _ := hRR 10 (by decide)
    have q11 : vs 11 = _ := hRR 11 (by decide)
    clear hRR hx
    simp only [putAll, List.take_succ_cons, List.take_zero, List.drop_succ_cons, List.drop_zero, Act.put, List.setIfInBounds_toArray, List.set_cons_zero, List.set_cons_succ, Nat.reduceAdd, Nat.zero_add]
    simp only [q0, q1, q2, q3, q4, q5, q6, q7, q8, q9, q10, q11]
    clear q0 q1 q2 q3 q4 q5 q6 q7 q8 q9 q10 q11 vs
  have B2 := Go.Lib.hid (BR.out.extN x2.ext)
  have XX : Ext Non w x2.on := by (repeat (first | with_reducible (first | exact Ext.refl _ _ | assumption | refine Ext.upN ?_ | refine Ext.alloc ?_ _ | refine Ext.drew ?_ | refine Ext.drewN ?_ _ | refine Ext.up1N (by first | omega | simp) ?_) | refine Ext.alloc ?_ _ | refine Ext.setCell ?_ (.inr (by first | omega | simp)) _))
  generalize x2.on = w2 at *
  have u0 : w2.cell? ⟨w.heap.size, 0, none⟩ = some (.int .i64 0) := B2.out.cell rfl
  have u1 : w2.cell? ⟨w.heap.size, 1, none⟩ = some (.float .f64 0) := B2.out.cell rfl
  have f0 : w2.frozen? ⟨w.heap.size, 0, none⟩ = false := froz_of_heap B2.out.h
  have f1 : w2.frozen? ⟨w.heap.size, 1, none⟩ = false := froz_of_heap B2.out.h
  go_wp2
  have B3 := (B2.out.set (j := 0) (.int .i64 0)).set (j := 1) (.float .f64 vx)
  have r0 : ((w2.setCell ⟨w.heap.size, 0, none⟩ (.int .i64 0)).setCell ⟨w.heap.size, 1, none⟩ (.float .f64 vx)).cell? ⟨w.heap.size, 0, none⟩ = some (.int .i64 0) := B3.cell rfl
  have r1 : ((w2.setCell ⟨w.heap.size, 0, none⟩ (.int .i64 0)).setCell ⟨w.heap.size, 1, none⟩ (.float .f64 vx)).cell? ⟨w.heap.size, 1, none⟩ = some (.float .f64 vx) := B3.cell rfl
  have XF : Ext Non w ((w2.setCell ⟨w.heap.size, 0, none⟩ (.int .i64 0)).setCell ⟨w.heap.size, 1, none⟩ (.float .f64 vx)) := by (repeat (first | with_reducible (first | exact Ext.refl _ _ | assumption | refine Ext.upN ?_ | refine Ext.alloc ?_ _ | refine Ext.drew ?_ | refine Ext.drewN ?_ _ | refine Ext.up1N (by first | omega | simp) ?_) | refine Ext.alloc ?_ _ | refine Ext.setCell ?_ (.inr (by first | omega | simp)) _))
  generalize (w2.setCell ⟨w.heap.size, 0, none⟩ (.int .i64 0)).setCell ⟨w.heap.size, 1, none⟩ (.float .f64 vx) = w6 at *
  refine bodyPost_ret (v := .agg #[.int .i64 0, .float .f64 vx]) (by simp [results, Tryz.results101, go_sem, r0, r1]) rfl ?_
  exact ⟨rfl, XF⟩
end Go.Proofs.YtfefeepljbfcdaaGreat
