/- Joined texts: R22b, R22c. What each proves stands at its head; no conditions beside those in its theorems. -/
import Derived.Test.YtekbonciafbjiaaGreatPjAA
import Derived.Test.YtekbonciafbjiaaGreatPjAC
import Derived.Test.YtekbonciafbjiaaGreatPjAD
import Derived.Test.YtekbonciafbjiaaGreatPjAG
import Derived.Test.YtekbonciafbjiaaGreatPjAH
import Derived.Test.YtekbonciafbjiaaGreatPjAI
import Derived.Test.YtekbonciafbjiaaGreatPjAN
import Derived.Test.YtekbonciafbjiaaGreatPjAJ
import Derived.Test.YtekbonciafbjiaaGreatPjAS
import Derived.Test.YtekbonciafbjiaaGreatPjAT
import Derived.Test.YtekbonciafbjiaaGreatPjAU
import Derived.Test.YtekbonciafbjiaaGreatPjAV
import Derived.Test.YtekbonciafbjiaaGreatPjAY
import Derived.Test.YtekbonciafbjiaaGreatPjAL
import Derived.Test.YtekbonciafbjiaaGreatPjAM
import Derived.Test.YtekbonciafbjiaaGreatPjAO
import Derived.Test.YtekbonciafbjiaaGreatPjAR
import Derived.Test.YtekbonciafbjiaaGreatPjAW
import Derived.Test.YtekbonciafbjiaaGreatPjBC
import Derived.Test.YtekbonciafbjiaaGreatPjAE
import Derived.Test.YtekbonciafbjiaaGreatPjAP
import Derived.Test.YtekbonciafbjiaaGreatPjBA
import Derived.Test.YtekbonciafbjiaaGreatPjBI
import Derived.Test.YtekbonciafbjiaaGreatPjBJ
import Derived.Test.YtekbonciafbjiaaGreatPjBK
import Derived.Test.YtekbonciafbjiaaGreatPjAX
import Derived.Test.YtekbonciafbjiaaGreatPjBM
import Derived.Test.YtekbonciafbjiaaGreatPjAB
import Derived.Test.YtekbonciafbjiaaGreatPjBN
import Derived.Test.YtekbonciafbjiaaGreatPjBP
import Derived.Test.YtekbonciafbjiaaGreatPjAQ
import Derived.Test.YtekbonciafbjiaaGreatPjBL
import Derived.Test.YtekbonciafbjiaaGreatPjAK
import Derived.Test.YtekbonciafbjiaaGreatPjBB
import Derived.Test.YtekbonciafbjiaaGreatPjBD
import Derived.Test.YtekbonciafbjiaaGreatPjBE
import Derived.Test.YtekbonciafbjiaaGreatPjBF
import Derived.Test.YtekbonciafbjiaaGreatPjAZ
import Derived.Test.YtekbonciafbjiaaGreatPjBG
import Derived.Test.YtekbonciafbjiaaGreatPjBH
import Derived.Test.YtekbonciafbjiaaGreatPjBO
import Derived.Test.YtekbonciafbjiaaGreatPjBQ
import Derived.Test.YtekbonciafbjiaaGreatPjBS
/- The reference of layer 22: configurations. -/
namespace Go.Proofs.YtekbonciafbjiaaGreat
open Go.RowKit Go.Lib F64
set_option linter.unusedSimpArgs false
set_option linter.unusedVariables false
attribute [local go_sem] run_store_float
attribute [local go_sem low] EW.cellN EW.frozN alloc_cell_or alloc_froz_or EW.cellF EW.frozF EW.cell1 EW.froz1
attribute [local go_sem] relAt relUpon
theorem two_end {w W : World} {kr : Nat} {us : List Value} {t : TypeId} {v0 v1 : Value} (hB : Bx W kr us t) (hk : w.heap.size ≤ kr) (hx : Ext Non w W) (hu : us.length = 2 := by rfl) :
    Ext Non w ((W.setCell ⟨kr, 0, none⟩ v0).setCell ⟨kr, 1, none⟩ v1) ∧ ((W.setCell ⟨kr, 0, none⟩ v0).setCell ⟨kr, 1, none⟩ v1).cell? ⟨kr, 0, none⟩ = some v0 ∧ ((W.setCell ⟨kr, 0, none⟩ v0).setCell ⟨kr, 1, none⟩ v1).cell? ⟨kr, 1, none⟩ = some v1 ∧ Ext (One kr) W ((W.setCell ⟨kr, 0, none⟩ v0).setCell ⟨kr, 1, none⟩ v1) := by
  have x2 : Ext (One kr) W ((W.setCell ⟨kr, 0, none⟩ v0).setCell ⟨kr, 1, none⟩ v1) := ((Ext.refl _ _).set1 _).set1 _
  match us, hu with
  | [a0, a1], _ =>
    have B2 := (hB.set (j := 0) v0).set (j := 1) v1
    exact ⟨hx.own x2 (fun i e => by have e : i = kr := e; omega), B2.cell rfl, B2.cell rfl, x2⟩
set_option maxHeartbeats 2000000 in
set_option maxRecDepth 100000 in
theorem ref22_Conf (a : Option Addr) (cap : Nat) (xs : List Int) (hm : membersB xs = true) (la : Option Addr) (lc : Nat) (l : List Req) (hl : l.length ≤ 244) (hq : ∀ q ∈ l, AskOk q) (n : Int) (hn : I64 n) (w : World) (h : Ints w a cap xs) (hr : Reqs w la lc l) :
    Calls Tryz.prog 11 #[.agg #[.int .i64 0, .slice a xs.length cap], .slice la l.length lc, .int .i64 n] w fun e w' => ∃ a' cap' ys, e = .returned (.tuple #[.agg #[.int .i64 (cfE l.length n), .slice a' (ys : List Int).length cap'], .bool (cfB l.length n)]) ∧ Ints w' a' cap' ys ∧ Ext Non w w' ∧ (cfB l.length n = true → ys = memN xs l n.toNat) ∧ (cfB l.length n = false → ys = []) := by
  have HI := Go.Lib.hid h; have HL := Go.Lib.hid hr; have HM := Go.Lib.hid hm; have HQ := Go.Lib.hid hq
  have s1 := hr.small; have s2 := hr.le
  have B0 := Go.Lib.hid ((Bx.newAt w [.int .i64 0, .slice a xs.length cap] 24 _ rfl).alloc (.cells #[.int .i64 0, .slice none 0 0] 24))
  have B6 := Go.Lib.hid (Bx.newAt (w.alloc (.cells [Value.int .i64 0, .slice a xs.length cap].toArray 24)) [.int .i64 0, .slice none 0 0] 24 (w.heap.size + 1) (by simp))
  have X0 := Go.Lib.hid (((Ext.refl Non w).alloc (.cells [Value.int .i64 0, .slice a xs.length cap].toArray 24)).alloc (.cells #[.int .i64 0, .slice none 0 0] 24))
  clear h hr hm hq
  by_cases h0 : n = 0
  · subst h0
    have hc : cfB l.length 0 = true := cfB_iff.2 ⟨by omega, by omega, by omega⟩
    have HC : Hid (cfE l.length 0 = 0 ∧ cfB l.length 0 = true) := Go.Lib.hid ⟨by unfold cfE; rw [if_pos hc], hc⟩
    clear hc
    go_enter Tryz.func11, Tryz.ntmps11
    go_upto_region 1 with fail
    generalize (w.alloc (.cells #[Value.int .i64 0, .slice a xs.length cap] 24)).alloc (.cells #[.int .i64 0, .slice none 0 0] 24) = w2 at *
    have c0 : w2.cell? ⟨w.heap.size, 0, none⟩ = some (.int .i64 0) := B0.out.cell rfl
    have c1 : w2.cell? ⟨w.heap.size, 1, none⟩ = some (.slice a xs.length cap) := B0.out.cell rfl
    have u0 : w2.cell? ⟨w.heap.size + 1, 0, none⟩ = some (.int .i64 0) := B6.out.cell rfl
    have u1 : w2.cell? ⟨w.heap.size + 1, 1, none⟩ = some (.slice none 0 0) := B6.out.cell rfl
    have f0 : w2.frozen? ⟨w.heap.size + 1, 0, none⟩ = false := froz_of_heap B6.out.h
    have f1 : w2.frozen? ⟨w.heap.size + 1, 1, none⟩ = false := froz_of_heap B6.out.h
    go_wp2
    obtain ⟨E1, r0, r1, E2⟩ := two_end (v0 := .int .i64 0) (v1 := .slice a xs.length cap) B6.out (by omega : w.heap.size ≤ w.heap.size + 1) X0.out
    generalize (w2.setCell ⟨w.heap.size + 1, 0, none⟩ (.int .i64 0)).setCell ⟨w.heap.size + 1, 1, none⟩ (.slice a xs.length cap) = w9 at *
    refine bodyPost_ret (v := .tuple #[.agg #[.int .i64 0, .slice a xs.length cap], .bool true]) (by simp [results, Tryz.results11, go_sem, r0, r1]) rfl ?_
    exact ⟨a, cap, xs, by rw [HC.out.1, HC.out.2], HI.out.extN E1, E1, fun _ => rfl, fun h => absurd (h.symm.trans HC.out.2) (by decide)⟩
  · have hb0 : (n == 0) = false := by rw [beq_eq_false_iff_ne]; exact h0
    by_cases hc : cfB l.length n = true
    · obtain ⟨g1, g2, g3⟩ := cfB_iff.1 hc
      obtain ⟨k, rfl⟩ : ∃ k : Nat, n = k := ⟨n.toNat, by omega⟩
      have HC : Hid (cfE l.length (k : Int) = k ∧ cfB l.length (k : Int) = true) := Go.Lib.hid ⟨by unfold cfE; rw [if_pos hc], hc⟩
      have CA := Go.Lib.hid (conf_at xs l HM.out hl HQ.out (n := k) (by omega) (by omega) (by omega))
      obtain ⟨m, hm⟩ : ∃ m, m = 4 * k := ⟨_, rfl⟩
      have hw4 : IntKind.i64.wrap (4 * (k : Int)) = (m : Int) := (IntWalk.i64_in _ (by omega)).trans (by omega)
      have d1 : decide ((k : Int) < 0) = false := decide_eq_false (by omega)
      have d2 : decide ((60 : Int) < (k : Int)) = false := decide_eq_false (by omega)
      have d3 : decide ((l.length : Int) < (m : Int)) = false := decide_eq_false (by omega)
      have hml : m ≤ l.length := by omega
      have HMK := Go.Lib.hid hm
      have I : Hid (Inv (gAt xs l m)) := Go.Lib.hid (gAt_inv HM.out HQ.out m)
      have HX64 : Hid (∀ q ∈ l, q.op.real < 18446744073709551616) := Go.Lib.hid (fun q h => (HQ.out q h).2)
      have CA2 : Hid (turnE (gAt xs l m) = 0 ∧ (turnL (gAt xs l m)).epoch = k ∧ (turnL (gAt xs l m)).mem = memN xs l k) := Go.Lib.hid (by rw [hm]; exact ⟨CA.out.1, CA.out.2.1, CA.out.2.2.1⟩)
      clear hc hm CA g1 g2 g3
      go_enter Tryz.func11, Tryz.ntmps11
      go_upto_region 1 with fail
      generalize (w.alloc (.cells #[Value.int .i64 0, .slice a xs.length cap] 24)).alloc (.cells #[.int .i64 0, .slice none 0 0] 24) = w2 at *
      have c0 : w2.cell? ⟨w.heap.size, 0, none⟩ = some (.int .i64 0) := B0.out.cell rfl
      have c1 : w2.cell? ⟨w.heap.size, 1, none⟩ = some (.slice a xs.length cap) := B0.out.cell rfl
      have u0 : w2.cell? ⟨w.heap.size + 1, 0, none⟩ = some (.int .i64 0) := B6.out.cell rfl
      have u1 : w2.cell? ⟨w.heap.size + 1, 1, none⟩ = some (.slice none 0 0) := B6.out.cell rfl
      have f0 : w2.frozen? ⟨w.heap.size + 1, 0, none⟩ = false := froz_of_heap B6.out.h
      have f1 : w2.frozen? ⟨w.heap.size + 1, 1, none⟩ = false := froz_of_heap B6.out.h
      go_wp2_with fail
      refine (ref22_Ledger a cap xs HM.out la lc l HX64.out m hml _ (HI.out.extN X0.out) (HL.out.extN X0.out)).mono ?_
      rintro e _ ⟨b, sb, rb, rfl, hL, hx, hb1, hb2, hb3⟩
      obtain ⟨x1, rfl⟩ := hx.ew
      have HL1 := Go.Lib.hid hL
      have hb1' : w.heap.size + 1 < b := by have := B6.out.lt; omega
      have HB := Go.Lib.hid hb1'
      have HB2 := Go.Lib.hid hb1
      clear hL hx hb1 hb2 hb3 hb1'
      obtain ⟨g, hg⟩ : ∃ g, g = gAt xs l m := ⟨_, rfl⟩
      rw [← hg] at I HL1 CA2
      clear hg
      go_wp2_with fail
      refine (ref12_Turn b sb rb g I.out _ HL1.out).mono ?_
      rintro e w5 ⟨rfl, hT, hLT⟩
      have HLT := Go.Lib.hid hLT
      obtain ⟨x5, hx5⟩ := (x1.ext.own hT (fun j e => by have := HB2.out; have e : j = b := e; omega)).ew
      subst hx5
      clear hT hLT
      obtain ⟨te, hte⟩ : ∃ te, te = turnE g := ⟨_, rfl⟩
      rw [← hte]
      clear hte
      obtain ⟨a1, c1', a2, c2, v, hbx, i1, -⟩ := HLT.out.ex
      have e0 := CA2.out.2.1
      have e1 := CA2.out.2.2
      have m0 : x5.on.cell? ⟨b, 0, none⟩ = some (.int .i64 (k : Int)) := by rw [← e0]; exact hbx.cell rfl
      have m1 : x5.on.cell? ⟨b, 1, none⟩ = some (.slice a1 (memN xs l k).length c1') := by rw [← e1]; exact hbx.cell rfl
      have HIm : Hid (Ints x5.on a1 c1' (memN xs l k)) := Go.Lib.hid (by rw [← e1]; exact i1)
      have B65 := Go.Lib.hid (B6.out.extN x5.ext)
      have HNB : Hid (∀ o k', a1 = some ⟨k', o, none⟩ → k' ≠ w.heap.size + 1) := Go.Lib.hid (fun o k' e q => by
        obtain ⟨a1', c1'', a2', c2', v', hbx', i1', -, t1', -⟩ := HLT.out.ex
        have e2 : a1' = a1 := by
          have z1 : x5.on.cell? ⟨b, 1, none⟩ = some (.slice a1' (turnL g).mem.length c1'') := hbx'.cell rfl
          have z2 : x5.on.cell? ⟨b, 1, none⟩ = some (.slice a1 (turnL g).mem.length c1') := hbx.cell rfl
          rw [z1] at z2; injection z2 with z2; injection z2
        rw [e2] at t1'
        obtain ⟨-, us, fr, h5⟩ := t1' k' o e
        subst q
        rw [B65.out.h] at h5; injection h5 with h5; injection h5 with _ h5 _
        exact absurd h5 (by decide))
      have X5 := Go.Lib.hid (X0.out.trans x5.ext)
      clear hbx i1 e0 e1 c0 c1 u0 u1 f0 f1
      generalize x5.on = w5 at *
      have u0 : w5.cell? ⟨w.heap.size + 1, 0, none⟩ = some (.int .i64 0) := B65.out.cell rfl
      have u1 : w5.cell? ⟨w.heap.size + 1, 1, none⟩ = some (.slice none 0 0) := B65.out.cell rfl
      have f0 : w5.frozen? ⟨w.heap.size + 1, 0, none⟩ = false := froz_of_heap B65.out.h
      have f1 : w5.frozen? ⟨w.heap.size + 1, 1, none⟩ = false := froz_of_heap B65.out.h
      go_wp2
      obtain ⟨E1, r0, r1, E2⟩ := two_end (v0 := .int .i64 (k : Int)) (v1 := (.slice a1 (memN xs l k).length c1')) B65.out (by omega : w.heap.size ≤ w.heap.size + 1) X5.out
      generalize (w5.setCell ⟨w.heap.size + 1, 0, none⟩ (.int .i64 (k : Int))).setCell ⟨w.heap.size + 1, 1, none⟩ ((.slice a1 (memN xs l k).length c1')) = w9 at *
      refine bodyPost_ret (v := .tuple #[.agg #[.int .i64 (k : Int), (.slice a1 (memN xs l k).length c1')], .bool true]) (by simp [results, Tryz.results11, go_sem, r0, r1]) rfl ?_
      exact ⟨a1, c1', memN xs l k, by rw [HC.out.1, HC.out.2], HIm.out.ext E2 (fun k' o e q => HNB.out o k' e q), E1, fun _ => rfl, fun h => absurd (h.symm.trans HC.out.2) (by decide)⟩
    · have hf : cfB l.length n = false := by simpa using hc
      have HC : Hid (cfE l.length n = 0 ∧ cfB l.length n = false) := Go.Lib.hid ⟨by unfold cfE; rw [if_neg hc], hf⟩
      have hno : n < 0 ∨ 60 < n ∨ (l.length : Int) < 4 * n := by
        rcases Classical.em (n < 0 ∨ 60 < n ∨ (l.length : Int) < 4 * n) with h | h
        · exact h
        · exact absurd (cfB_iff.2 (by omega)) hc
      have HCN : Hid (cfB l.length n = true → ([] : List Int) = memN xs l n.toNat) := Go.Lib.hid (fun h => absurd h hc)
      clear hc hf
      by_cases h1 : n < 0
      · have d1 : decide (n < 0) = true := decide_eq_true h1
        go_enter Tryz.func11, Tryz.ntmps11
        go_upto_region 1 with fail
        generalize (w.alloc (.cells #[Value.int .i64 0, .slice a xs.length cap] 24)).alloc (.cells #[.int .i64 0, .slice none 0 0] 24) = w2 at *
        have c0 : w2.cell? ⟨w.heap.size, 0, none⟩ = some (.int .i64 0) := B0.out.cell rfl
        have c1 : w2.cell? ⟨w.heap.size, 1, none⟩ = some (.slice a xs.length cap) := B0.out.cell rfl
        have u0 : w2.cell? ⟨w.heap.size + 1, 0, none⟩ = some (.int .i64 0) := B6.out.cell rfl
        have u1 : w2.cell? ⟨w.heap.size + 1, 1, none⟩ = some (.slice none 0 0) := B6.out.cell rfl
        have f0 : w2.frozen? ⟨w.heap.size + 1, 0, none⟩ = false := froz_of_heap B6.out.h
        have f1 : w2.frozen? ⟨w.heap.size + 1, 1, none⟩ = false := froz_of_heap B6.out.h
        go_wp2
        obtain ⟨E1, r0, r1, E2⟩ := two_end (v0 := .int .i64 0) (v1 := .slice none 0 0) B6.out (by omega : w.heap.size ≤ w.heap.size + 1) X0.out
        generalize (w2.setCell ⟨w.heap.size + 1, 0, none⟩ (.int .i64 0)).setCell ⟨w.heap.size + 1, 1, none⟩ (.slice none 0 0) = w9 at *
        refine bodyPost_ret (v := .tuple #[.agg #[.int .i64 0, .slice none 0 0], .bool false]) (by simp [results, Tryz.results11, go_sem, r0, r1]) rfl ?_
        exact ⟨none, 0, [], by rw [HC.out.1, HC.out.2]; rfl, Ints.nil' _, E1, HCN.out, fun _ => rfl⟩
      · have d1 : decide (n < 0) = false := decide_eq_false h1
        by_cases h2 : 60 < n
        · have d2 : decide (60 < n) = true := decide_eq_true h2
          go_enter Tryz.func11, Tryz.ntmps11
          go_upto_region 1 with fail
          generalize (w.alloc (.cells #[Value.int .i64 0, .slice a xs.length cap] 24)).alloc (.cells #[.int .i64 0, .slice none 0 0] 24) = w2 at *
          have c0 : w2.cell? ⟨w.heap.size, 0, none⟩ = some (.int .i64 0) := B0.out.cell rfl
          have c1 : w2.cell? ⟨w.heap.size, 1, none⟩ = some (.slice a xs.length cap) := B0.out.cell rfl
          have u0 : w2.cell? ⟨w.heap.size + 1, 0, none⟩ = some (.int .i64 0) := B6.out.cell rfl
          have u1 : w2.cell? ⟨w.heap.size + 1, 1, none⟩ = some (.slice none 0 0) := B6.out.cell rfl
          have f0 : w2.frozen? ⟨w.heap.size + 1, 0, none⟩ = false := froz_of_heap B6.out.h
          have f1 : w2.frozen? ⟨w.heap.size + 1, 1, none⟩ = false := froz_of_heap B6.out.h
          go_wp2
          obtain ⟨E1, r0, r1, E2⟩ := two_end (v0 := .int .i64 0) (v1 := .slice none 0 0) B6.out (by omega : w.heap.size ≤ w.heap.size + 1) X0.out
          generalize (w2.setCell ⟨w.heap.size + 1, 0, none⟩ (.int .i64 0)).setCell ⟨w.heap.size + 1, 1, none⟩ (.slice none 0 0) = w9 at *
          refine bodyPost_ret (v := .tuple #[.agg #[.int .i64 0, .slice none 0 0], .bool false]) (by simp [results, Tryz.results11, go_sem, r0, r1]) rfl ?_
          exact ⟨none, 0, [], by rw [HC.out.1, HC.out.2]; rfl, Ints.nil' _, E1, HCN.out, fun _ => rfl⟩
        · have d2 : decide (60 < n) = false := decide_eq_false h2
          have hw4 : IntKind.i64.wrap (4 * n) = 4 * n := IntWalk.i64_in _ (by omega)
          have d3 : decide ((l.length : Int) < 4 * n) = true := decide_eq_true (by omega)
          go_enter Tryz.func11, Tryz.ntmps11
          go_upto_region 1 with fail
          generalize (w.alloc (.cells #[Value.int .i64 0, .slice a xs.length cap] 24)).alloc (.cells #[.int .i64 0, .slice none 0 0] 24) = w2 at *
          have c0 : w2.cell? ⟨w.heap.size, 0, none⟩ = some (.int .i64 0) := B0.out.cell rfl
          have c1 : w2.cell? ⟨w.heap.size, 1, none⟩ = some (.slice a xs.length cap) := B0.out.cell rfl
          have u0 : w2.cell? ⟨w.heap.size + 1, 0, none⟩ = some (.int .i64 0) := B6.out.cell rfl
          have u1 : w2.cell? ⟨w.heap.size + 1, 1, none⟩ = some (.slice none 0 0) := B6.out.cell rfl
          have f0 : w2.frozen? ⟨w.heap.size + 1, 0, none⟩ = false := froz_of_heap B6.out.h
          have f1 : w2.frozen? ⟨w.heap.size + 1, 1, none⟩ = false := froz_of_heap B6.out.h
          go_wp2
          obtain ⟨E1, r0, r1, E2⟩ := two_end (v0 := .int .i64 0) (v1 := .slice none 0 0) B6.out (by omega : w.heap.size ≤ w.heap.size + 1) X0.out
          generalize (w2.setCell ⟨w.heap.size + 1, 0, none⟩ (.int .i64 0)).setCell ⟨w.heap.size + 1, 1, none⟩ (.slice none 0 0) = w9 at *
          refine bodyPost_ret (v := .tuple #[.agg #[.int .i64 0, .slice none 0 0], .bool false]) (by simp [results, Tryz.results11, go_sem, r0, r1]) rfl ?_
          exact ⟨none, 0, [], by rw [HC.out.1, HC.out.2]; rfl, Ints.nil' _, E1, HCN.out, fun _ => rfl⟩
end Go.Proofs.YtekbonciafbjiaaGreat

/- The reference of layer 22: whether bad nodes are too many. -/
namespace Go.Proofs.YtekbonciafbjiaaGreat
open Go.RowKit Go.Lib F64
set_option linter.unusedSimpArgs false
set_option linter.unusedVariables false
attribute [local go_sem] run_store_float
attribute [local go_sem low] EW.cellN EW.frozN alloc_cell_or alloc_froz_or EW.cellF EW.frozF EW.cell1 EW.froz1
attribute [local go_sem] relAt relUpon
set_option maxHeartbeats 2000000 in
set_option maxRecDepth 100000 in
theorem ref22_Sound (a : Option Addr) (cap : Nat) (xs : List Int) (hm : membersB xs = true) (la : Option Addr) (lc : Nat) (l : List Req) (hl : l.length ≤ 244) (hq : ∀ q ∈ l, AskOk q) (ba : Option Addr) (bc : Nat) (bad : List Int) (w : World) (h : Ints w a cap xs) (hr : Reqs w la lc l) (hb : Ints w ba bc bad) :
    Calls Tryz.prog 19 #[.agg #[.int .i64 0, .slice a xs.length cap], .slice la l.length lc, .slice ba bad.length bc] w fun e w' => e = .returned (.bool (soundB xs l bad)) ∧ Ext Non w w' := by
  have HI := Go.Lib.hid h; have HL := Go.Lib.hid hr; have HM := Go.Lib.hid hm; have HQ := Go.Lib.hid hq; have HBD := Go.Lib.hid hb
  have s1 := hr.small; have s2 := hr.le
  have hN : epN l.length ≤ 61 := by unfold epN; omega
  have HNd : Hid (epN l.length = min 60 (l.length / 4) + 1) := Go.Lib.hid rfl
  have HSB : Hid (soundB xs l bad = soundTo xs l bad (epN l.length)) := Go.Lib.hid rfl
  have hN2 : epN l.length = min 60 (l.length / 4) + 1 := rfl
  obtain ⟨m4, hm4⟩ : ∃ m4, m4 = l.length / 4 := ⟨_, rfl⟩
  have hq4 : (l.length : Int).tdiv 4 = (m4 : Int) := by rw [Int.tdiv_eq_ediv_of_nonneg (by omega)]; omega
  have hwq : IntKind.i64.wrap (m4 : Int) = (m4 : Int) := IntWalk.i64_in _ (by omega)
  have hm61 : m4 ≤ 61 := by omega
  have hNm : epN l.length = min 60 m4 + 1 := by rw [hN2, hm4]
  have HM4 := Go.Lib.hid hm4
  clear h hr hm hq hb hN2 hm4
  generalize epN l.length = N at *
  have HNm := Go.Lib.hid hNm
  clear hNm
  have B0 := Go.Lib.hid (Bx.newAt w [.int .i64 0, .slice a xs.length cap] 24 _ rfl)
  have X0 := Go.Lib.hid ((Ext.refl Non w).alloc (.cells [Value.int .i64 0, .slice a xs.length cap].toArray 24))
  go_enter Tryz.func19, Tryz.ntmps19
  go_upto_region 1 with fail
  generalize w.alloc (.cells #[Value.int .i64 0, .slice a xs.length cap] 24) = w0 at *
  have c0 : w0.cell? ⟨w.heap.size, 0, none⟩ = some (.int .i64 0) := B0.out.cell rfl
  have c1 : w0.cell? ⟨w.heap.size, 1, none⟩ = some (.slice a xs.length cap) := B0.out.cell rfl
  have HI0 := Go.Lib.hid (HI.out.extN X0.out); have HL0 := Go.Lib.hid (HL.out.extN X0.out); have HB0 := Go.Lib.hid (HBD.out.extN X0.out)
  go_wp2_with fail
  go_loopg [7, 8, 9, 10, 11] N (fun g ev v8 v9 v10 v11 wr => ∃ (e : Nat) (z : EW Non w0), e ≤ N ∧ g = N - e ∧ ev = .int .i64 e ∧ wr = z.on ∧ Hid (soundTo xs l bad e = true))
  case atStart => exact ⟨0, ⟨_, by (repeat (first | with_reducible (first | exact Ext.refl _ _ | assumption | refine Ext.upN ?_ | refine Ext.alloc ?_ _ | refine Ext.drew ?_ | refine Ext.drewN ?_ _ | refine Ext.up1N (by first | omega | simp) ?_) | refine Ext.alloc ?_ _ | refine Ext.setCell ?_ (.inr (by first | omega | simp)) _))⟩, Nat.zero_le _, rfl, rfl, rfl, Go.Lib.hid rfl⟩
  case round =>
    obtain ⟨e, z, he, hg, rfl, rfl, HD⟩ := hrel
    have HG := Go.Lib.hid hg; clear hg
    by_cases hlt : e < N
    · have dle : decide ((e : Int) ≤ min (m4 : Int) 60) = true := decide_eq_true (by have := HNm.out; omega)
      have hc : cfB l.length (e : Int) = true := cfB_iff.2 (by have := HNm.out; have := HM4.out; omega)
      have HCB := Go.Lib.hid hc
      clear hc
      go_wp2_with fail
      refine (ref22_Conf a cap xs HM.out la lc l hl HQ.out e (by unfold I64; omega) _ (HI0.out.extN (by (repeat (first | with_reducible (first | exact Ext.refl _ _ | assumption | refine Ext.upN ?_ | refine Ext.alloc ?_ _ | refine Ext.drew ?_ | refine Ext.drewN ?_ _ | refine Ext.up1N (by first | omega | simp) ?_) | refine Ext.alloc ?_ _ | refine Ext.setCell ?_ (.inr (by first | omega | simp)) _)))) (HL0.out.extN (by (repeat (first | with_reducible (first | exact Ext.refl _ _ | assumption | refine Ext.upN ?_ | refine Ext.alloc ?_ _ | refine Ext.drew ?_ | refine Ext.drewN ?_ _ | refine Ext.up1N (by first | omega | simp) ?_) | refine Ext.alloc ?_ _ | refine Ext.setCell ?_ (.inr (by first | omega | simp)) _))))).mono ?_
      rintro r _ ⟨ca, cc, ys, rfl, hI, hx, hys, -⟩
      obtain ⟨x1, rfl⟩ := hx.ew
      have HIc := Go.Lib.hid hI
      have hyy := hys HCB.out
      rw [Int.toNat_natCast] at hyy
      have HYY := Go.Lib.hid hyy
      have hyl : ys.length ≤ 10 := by
        rw [hyy]; exact (members_facts (gAt_inv HM.out HQ.out (4 * e) : Inv (gAt xs l (4 * e))).mn).2.2.2
      have hys1 := hI.small; have hys2 := hI.le
      have HSC := Go.Lib.hid (soundTo_succ xs l bad e)
      have HNO := Go.Lib.hid (@soundTo_no xs l bad e N hlt)
      rw [HCB.out]
      clear hx hI hys hyy
      generalize cfE l.length (e : Int) = ce at *
      go_upto_region 5 with (refine wpList_store_box rfl 24 _ _ rfl x1.on.heap.size _ [.int .i64 ce, .slice ca ys.length cc] _ rfl rfl (Bx.newAt _ _ _ _ rfl) rfl info_confS (by simp [Value.oneCell']) (fun W hB => ?_); have BK := Go.Lib.hid hB; clear hB)
      have XW : Ext Non x1.on W.on := by (repeat (first | with_reducible (first | exact Ext.refl _ _ | assumption | refine Ext.upN ?_ | refine Ext.alloc ?_ _ | refine Ext.drew ?_ | refine Ext.drewN ?_ _ | refine Ext.up1N (by first | omega | simp) ?_) | refine Ext.alloc ?_ _ | refine Ext.setCell ?_ (.inr (by first | omega | simp)) _))
      have HI2 := Go.Lib.hid (HIc.out.extN XW)
      obtain ⟨x2, hx2⟩ := ((z.ext.trans x1.ext).trans XW).ew
      rw [hx2] at HI2 BK ⊢
      clear hx2 XW W HIc
      try simp only [Act.put]
      generalize x1.on.heap.size = kc at *
      have y1 : x2.on.cell? ⟨kc, 1, none⟩ = some (.slice ca ys.length cc) := BK.out.cell rfl
      go_wp2_with fail
      go_loopg [10, 11] ys.length (fun g nv iv wr => ∃ (i : Nat) (u : EW Non x2.on), i ≤ ys.length ∧ g = ys.length - i ∧ iv = .int .i64 i ∧ nv = .int .i64 (badN bad (ys.take i)) ∧ wr = u.on)
      case atStart => exact ⟨0, ⟨_, by (repeat (first | with_reducible (first | exact Ext.refl _ _ | assumption | refine Ext.upN ?_ | refine Ext.alloc ?_ _ | refine Ext.drew ?_ | refine Ext.drewN ?_ _ | refine Ext.up1N (by first | omega | simp) ?_) | refine Ext.alloc ?_ _ | refine Ext.setCell ?_ (.inr (by first | omega | simp)) _))⟩, Nat.zero_le _, rfl, rfl, rfl, rfl⟩
      case round =>
        obtain ⟨i, u, hi, hg2, rfl, rfl, rfl⟩ := hrel
        have HG2 := Go.Lib.hid hg2; clear hg2
        have hbn : badN bad (ys.take i) ≤ 10 := by
          unfold badN; exact Nat.le_trans (List.length_filter_le _ _) (by rw [List.length_take]; omega)
        by_cases hlt2 : i < ys.length
        · obtain ⟨ab, ao, rfl, hcell, hx64⟩ := HI2.out.at_ i hlt2
          have HT := Go.Lib.hid (badN_take bad ys i hlt2)
          generalize ys[i] = x at *
          go_wp2_with fail
          refine Calls.ewD (ref_Has ba bc bad x _ (HB0.out.extN (by (repeat (first | with_reducible (first | exact Ext.refl _ _ | assumption | refine Ext.upN ?_ | refine Ext.alloc ?_ _ | refine Ext.drew ?_ | refine Ext.drewN ?_ _ | refine Ext.up1N (by first | omega | simp) ?_) | refine Ext.alloc ?_ _ | refine Ext.setCell ?_ (.inr (by first | omega | simp)) _))))) ?_
          rintro r x3 rfl
          cases hh : hasB bad x
          · have HF : Hid (badN bad (ys.take (i + 1)) = badN bad (ys.take i)) := Go.Lib.hid (by rw [HT.out, hh]; simp)
            clear hh
            go_wp2_with fail
            go_roundg (ys.length - (i + 1))
            case measure => have := HG2.out; omega
            case rel => exact ⟨i + 1, ⟨_, by (repeat (first | with_reducible (first | exact Ext.refl _ _ | assumption | refine Ext.upN ?_ | refine Ext.alloc ?_ _ | refine Ext.drew ?_ | refine Ext.drewN ?_ _ | refine Ext.up1N (by first | omega | simp) ?_) | refine Ext.alloc ?_ _ | refine Ext.setCell ?_ (.inr (by first | omega | simp)) _))⟩, hlt2, rfl, by go_num, by rw [HF.out], rfl⟩
          · have HF : Hid (badN bad (ys.take (i + 1)) = badN bad (ys.take i) + 1) := Go.Lib.hid (by rw [HT.out, hh]; simp)
            clear hh
            generalize badN bad (ys.take i) = bn at *
            have hw1 : IntKind.i64.wrap ((bn : Int) + 1) = (bn : Int) + 1 := IntWalk.i64_in _ (by omega)
            go_wp2_with fail
            go_roundg (ys.length - (i + 1))
            case measure => have := HG2.out; omega
            case rel => exact ⟨i + 1, ⟨_, by (repeat (first | with_reducible (first | exact Ext.refl _ _ | assumption | refine Ext.upN ?_ | refine Ext.alloc ?_ _ | refine Ext.drew ?_ | refine Ext.drewN ?_ _ | refine Ext.up1N (by first | omega | simp) ?_) | refine Ext.alloc ?_ _ | refine Ext.setCell ?_ (.inr (by first | omega | simp)) _))⟩, hlt2, rfl, by go_num, by rw [HF.out]; rfl, rfl⟩
        · obtain rfl : i = ys.length := by omega
          rw [List.take_length] at hbn ⊢
          have HFW : Hid (fewS bad ys = decide ((badN bad ys : Int) ≤ faultsI (ys.length : Int))) := Go.Lib.hid rfl
          generalize badN bad ys = bn at *
          go_wp2_with fail
          refine (ref_Faults (ys.length : Int) (by omega) (by omega) _).mono ?_
          rintro r _ ⟨rfl, rfl⟩
          generalize faultsI (ys.length : Int) = fa at *
          by_cases hle : (bn : Int) ≤ fa
          · have HF : Hid (soundTo xs l bad (e + 1) = true) := Go.Lib.hid (by rw [HSC.out, HD.out, ← HYY.out, HFW.out, decide_eq_true hle]; rfl)
            have dd : decide (fa < (bn : Int)) = false := decide_eq_false (by omega)
            go_wp2_with fail
            go_roundg (N - (e + 1))
            case measure => have := HG.out; omega
            case rel => exact ⟨e + 1, ⟨_, by (repeat (first | with_reducible (first | exact Ext.refl _ _ | assumption | refine Ext.upN ?_ | refine Ext.alloc ?_ _ | refine Ext.drew ?_ | refine Ext.drewN ?_ _ | refine Ext.up1N (by first | omega | simp) ?_) | refine Ext.alloc ?_ _ | refine Ext.setCell ?_ (.inr (by first | omega | simp)) _))⟩, hlt, rfl, by go_num, rfl, HF⟩
          · have HF : Hid (soundB xs l bad = false) := Go.Lib.hid (by rw [HSB.out]; exact HNO.out (by rw [← HYY.out, HFW.out, decide_eq_false hle]))
            have dd : decide (fa < (bn : Int)) = true := decide_eq_true (by omega)
            go_wp2
            go_ret
            exact ⟨by rw [HF.out]; rfl, X0.out.trans (by (repeat (first | with_reducible (first | exact Ext.refl _ _ | assumption | refine Ext.upN ?_ | refine Ext.alloc ?_ _ | refine Ext.drew ?_ | refine Ext.drewN ?_ _ | refine Ext.up1N (by first | omega | simp) ?_) | refine Ext.alloc ?_ _ | refine Ext.setCell ?_ (.inr (by first | omega | simp)) _)))⟩
    · obtain rfl : e = N := by omega
      have dle : decide ((e : Int) ≤ min (m4 : Int) 60) = false := decide_eq_false (by have := HNm.out; omega)
      have HF : Hid (soundB xs l bad = true) := Go.Lib.hid (by rw [HSB.out]; exact HD.out)
      go_wp2
      go_ret
      exact ⟨by rw [HF.out]; rfl, X0.out.trans (by (repeat (first | with_reducible (first | exact Ext.refl _ _ | assumption | refine Ext.upN ?_ | refine Ext.alloc ?_ _ | refine Ext.drew ?_ | refine Ext.drewN ?_ _ | refine Ext.up1N (by first | omega | simp) ?_) | refine Ext.alloc ?_ _ | refine Ext.setCell ?_ (.inr (by first | omega | simp)) _)))⟩
end Go.Proofs.YtekbonciafbjiaaGreat
