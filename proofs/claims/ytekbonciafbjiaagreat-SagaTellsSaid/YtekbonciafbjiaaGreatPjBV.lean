/- Joined texts: SagaTells22. What each proves stands at its head; no conditions beside those in its theorems. -/
import Derived.Test.YtekbonciafbjiaaGreatPjAA
import Derived.Test.YtekbonciafbjiaaGreatPjAC
import Derived.Test.YtekbonciafbjiaaGreatPjAD
import Derived.Test.YtekbonciafbjiaaGreatPjAG
import Derived.Test.YtekbonciafbjiaaGreatPjAH
import Derived.Test.YtekbonciafbjiaaGreatPjAI
import Derived.Test.YtekbonciafbjiaaGreatPjAN
import Derived.Test.YtekbonciafbjiaaGreatPjAJ
import Derived.Test.YtekbonciafbjiaaGreatPjAS
import Derived.Test.YtekbonciafbjiaaGreatPjAT
import Derived.Test.YtekbonciafbjiaaGreatPjAU
import Derived.Test.YtekbonciafbjiaaGreatPjAV
import Derived.Test.YtekbonciafbjiaaGreatPjAY
import Derived.Test.YtekbonciafbjiaaGreatPjAL
import Derived.Test.YtekbonciafbjiaaGreatPjAM
import Derived.Test.YtekbonciafbjiaaGreatPjAO
import Derived.Test.YtekbonciafbjiaaGreatPjAR
import Derived.Test.YtekbonciafbjiaaGreatPjAW
import Derived.Test.YtekbonciafbjiaaGreatPjBC
import Derived.Test.YtekbonciafbjiaaGreatPjAE
import Derived.Test.YtekbonciafbjiaaGreatPjAP
import Derived.Test.YtekbonciafbjiaaGreatPjBA
import Derived.Test.YtekbonciafbjiaaGreatPjBI
import Derived.Test.YtekbonciafbjiaaGreatPjBJ
import Derived.Test.YtekbonciafbjiaaGreatPjBK
import Derived.Test.YtekbonciafbjiaaGreatPjAX
import Derived.Test.YtekbonciafbjiaaGreatPjBM
import Derived.Test.YtekbonciafbjiaaGreatPjAB
import Derived.Test.YtekbonciafbjiaaGreatPjBN
import Derived.Test.YtekbonciafbjiaaGreatPjBP
import Derived.Test.YtekbonciafbjiaaGreatPjAQ
import Derived.Test.YtekbonciafbjiaaGreatPjBL
import Derived.Test.YtekbonciafbjiaaGreatPjBR
import Derived.Test.YtekbonciafbjiaaGreatPjAK
import Derived.Test.YtekbonciafbjiaaGreatPjBB
import Derived.Test.YtekbonciafbjiaaGreatPjBD
import Derived.Test.YtekbonciafbjiaaGreatPjBE
import Derived.Test.YtekbonciafbjiaaGreatPjBF
import Derived.Test.YtekbonciafbjiaaGreatPjAZ
import Derived.Test.YtekbonciafbjiaaGreatPjBG
import Derived.Test.YtekbonciafbjiaaGreatPjBH
import Derived.Test.YtekbonciafbjiaaGreatPjBO
import Derived.Test.YtekbonciafbjiaaGreatPjBQ
import Derived.Test.YtekbonciafbjiaaGreatPjBS
import Derived.Test.YtekbonciafbjiaaGreatPjBT
import Derived.Test.YtekbonciafbjiaaGreatPjBU
import Derived.Test.YtekbonciafbjiaaGreatPjAF
/- The law SagaTells: the walk. -/
namespace Go.Proofs.YtekbonciafbjiaaGreat
open Go.RowKit Go.Lib F64
set_option linter.unusedSimpArgs false
set_option linter.unusedVariables false
attribute [local go_sem] run_store_float
attribute [local go_sem low] EW.cellN EW.frozN alloc_cell_or alloc_froz_or EW.cellF EW.frozF EW.cell1 EW.froz1
attribute [local go_sem] relAt relUpon
def stAS (xs : List Int) (l : List Req) (n : Int) (t : Bool) : ByteArray := if 0 ≤ n ∧ n ≤ (l.length : Int) then stS (gAt xs l n.toNat) t else ByteArray.empty
def stAB (xs : List Int) (l : List Req) (n : Int) (t : Bool) : Bool := if 0 ≤ n ∧ n ≤ (l.length : Int) then stB (gAt xs l n.toNat) t else false
def cfM (xs : List Int) (l : List Req) (n : Int) : List Int := if cfB l.length n = true then memN xs l n.toNat else []
theorem saga_StateA (base s : Nat) (v1 v2 : Value) (xs : List Int) (l : List Req) (bs : List (Nat × Nat)) (hm : membersB xs = true) (hl : l.length ≤ 1000) (hq : ∀ q ∈ l, q.op.real < 18446744073709551616) (n : Int) (t : Bool) (w : World) (h : Sag base w s v1 v2 xs l bs) :
    Calls Tryz.prog 8 #[.pointer (some ⟨s, 0, none⟩), .int .i64 n, .bool t] w fun e w' => e = .returned (.tuple #[.string (stAS xs l n t), .bool (stAB xs l n t)]) ∧ Ext Non w w' := by
  unfold stAS stAB
  by_cases hn : 0 ≤ n ∧ n ≤ (l.length : Int)
  · rw [if_pos hn, if_pos hn]
    obtain ⟨k, rfl⟩ : ∃ k : Nat, n = k := ⟨n.toNat, by omega⟩
    exact saga_State base s v1 v2 xs l bs hm hl hq k (by omega) t w h
  · rw [if_neg hn, if_neg hn]
    exact saga_State_no base s v1 v2 xs l bs n (by omega) t w h
theorem ref22_StateA (a : Option Addr) (cap : Nat) (xs : List Int) (hm : membersB xs = true) (la : Option Addr) (lc : Nat) (l : List Req) (hx64 : ∀ q ∈ l, q.op.real < 18446744073709551616) (n : Int) (t : Bool) (w : World) (h : Ints w a cap xs) (hr : Reqs w la lc l) :
    Calls Tryz.prog 9 #[.agg #[.int .i64 0, .slice a xs.length cap], .slice la l.length lc, .int .i64 n, .bool t] w fun e w' => e = .returned (.tuple #[.string (stAS xs l n t), .bool (stAB xs l n t)]) ∧ Ext Non w w' := by
  unfold stAS stAB
  by_cases hn : 0 ≤ n ∧ n ≤ (l.length : Int)
  · rw [if_pos hn, if_pos hn]
    obtain ⟨k, rfl⟩ : ∃ k : Nat, n = k := ⟨n.toNat, by omega⟩
    exact ref22_State a cap xs hm la lc l hx64 k (by omega) t w h hr
  · rw [if_neg hn, if_neg hn]
    exact ref22_State_no 0 a cap xs la lc l.length n (by omega) t w
theorem saga_ConfB (base s : Nat) (v1 v2 : Value) (xs : List Int) (l : List Req) (bs : List (Nat × Nat)) (hm : membersB xs = true) (hl : l.length ≤ 244) (hq : ∀ q ∈ l, AskOk q) (n : Int) (hn : I64 n) (w : World) (h : Sag base w s v1 v2 xs l bs) :
    Calls Tryz.prog 10 #[.pointer (some ⟨s, 0, none⟩), .int .i64 n] w fun e w' => ∃ a cap, e = .returned (.tuple #[.agg #[.int .i64 (cfE l.length n), .slice a (cfM xs l n).length cap], .bool (cfB l.length n)]) ∧ Ints w' a cap (cfM xs l n) ∧ Ext Non w w' := by
  unfold cfM
  by_cases hc : cfB l.length n = true
  · obtain ⟨h0, h1, h2⟩ := cfB_iff.1 hc
    obtain ⟨k, rfl⟩ : ∃ k : Nat, n = k := ⟨n.toNat, by omega⟩
    rw [if_pos hc]
    refine (saga_Conf_yes base s v1 v2 xs l bs hm hl hq k (by omega) (by omega) w h).mono fun e w' ⟨a, cap, he, hI, hx⟩ => ⟨a, cap, ?_, hI, hx⟩
    rw [he, hc]; unfold cfE; rw [if_pos hc]; rfl
  · have hf : cfB l.length n = false := by simpa using hc
    have hno : n < 0 ∨ 60 < n ∨ (l.length : Int) < 4 * n := by
      rcases Classical.em (n < 0 ∨ 60 < n ∨ (l.length : Int) < 4 * n) with h | h
      · exact h
      · exact absurd (cfB_iff.2 (by omega)) hc
    rw [if_neg hc]
    refine (saga_Conf_no base s v1 v2 xs l bs n hn hno w h).mono fun e w' ⟨he, hx⟩ => ⟨none, 0, ?_, Ints.nil' w', hx⟩
    rw [he, hf]; unfold cfE; rw [if_neg hc]; rfl
theorem ref22_ConfB (a : Option Addr) (cap : Nat) (xs : List Int) (hm : membersB xs = true) (la : Option Addr) (lc : Nat) (l : List Req) (hl : l.length ≤ 244) (hq : ∀ q ∈ l, AskOk q) (n : Int) (hn : I64 n) (w : World) (h : Ints w a cap xs) (hr : Reqs w la lc l) :
    Calls Tryz.prog 11 #[.agg #[.int .i64 0, .slice a xs.length cap], .slice la l.length lc, .int .i64 n] w fun e w' => ∃ a cap, e = .returned (.tuple #[.agg #[.int .i64 (cfE l.length n), .slice a (cfM xs l n).length cap], .bool (cfB l.length n)]) ∧ Ints w' a cap (cfM xs l n) ∧ Ext Non w w' := by
  refine (ref22_Conf a cap xs hm la lc l hl hq n hn w h hr).mono fun e w' ⟨a', cap', ys, he, hI, hx, h1, h2⟩ => ?_
  have e : ys = cfM xs l n := by
    unfold cfM
    by_cases hc : cfB l.length n = true
    · rw [if_pos hc]; exact h1 hc
    · rw [if_neg hc]; exact h2 (by simpa using hc)
  subst e
  exact ⟨a', cap', he, hI, hx⟩
def moCfT (ce : Int) (ys : List Int) (cb : Bool) : Mo := ⟨fun v w => ∃ a cap, v = .tuple #[.agg #[.int .i64 ce, .slice a ys.length cap], .bool cb] ∧ Ints w a cap ys, fun _ _ _ x ⟨a, c, e, h⟩ => ⟨a, c, e, h.extN x⟩⟩
def moCfA (ce : Int) (ys : List Int) : Mo := ⟨fun v w => ∃ a cap, v = .agg #[.int .i64 ce, .slice a ys.length cap] ∧ Ints w a cap ys, fun _ _ _ x ⟨a, c, e, h⟩ => ⟨a, c, e, h.extN x⟩⟩
def moBx (n : Nat) (vs : List Value) (t : TypeId) : Mo := ⟨fun v w => ∃ g, v = .pointer (some ⟨g, 0, none⟩) ∧ n ≤ g ∧ Bx w g vs t, fun _ _ _ x ⟨g, e, hn, h⟩ => ⟨g, e, hn, h.extN x⟩⟩
theorem ints_box {w w' : World} {a : Option Addr} {cap : Nat} {ys : List Int} {g : Nat} {t : TypeId} (h : Ints w a cap ys) (hb : Bx w g [.int .i64 0, .slice none 0 0] t) (x : Ext (One g) w w') (h2 : ys.length ≠ 1) : Ints w' a cap ys := by
  by_cases h0 : ys.length = 0
  · exact ⟨h.le, h.small, h.nil, fun j hj => by omega⟩
  · refine h.ext x (fun b o e q => ?_)
    have q : b = g := q
    subst q
    obtain ⟨b0, o0, e0, c0, -⟩ := h.at_ 0 (by omega)
    obtain ⟨b1, o1, e1, c1, -⟩ := h.at_ 1 (by omega)
    rw [e] at e0 e1
    injection e0 with e0; injection e0 with e0 e0'; injection e1 with e1; injection e1 with e1 e1'
    subst e0; subst e0'; subst e1; subst e1'
    have z : ∀ j v, w.cell? ⟨b, j, none⟩ = some v → j = 0 ∨ v = .slice none 0 0 := fun j v hv => by
      match j with
      | 0 => exact .inl rfl
      | 1 => have := hb.cell (j := 1) rfl; rw [hv] at this; exact .inr (Option.some.inj this)
      | j + 2 =>
        exfalso
        have hn : ([Value.int .i64 0, .slice none 0 0] : List Value)[j + 2]? = none := List.getElem?_eq_none_iff.2 (by simp)
        simp [World.cell?, hb.h, hn] at hv
    rcases z _ _ c1 with q | q
    · omega
    · cases q
theorem self_SameResult (k : Int) (x : Nat) (w : World) : Calls Tryz.prog 17 #[.agg #[.int .i64 k, .float .f64 x], .agg #[.int .i64 k, .float .f64 x]] w fun e w' => e = .returned (.bool true) ∧ Ext Non w w' :=
  (ref_SameResult k k x x w).mono fun e w' ⟨he, hx⟩ => ⟨by rw [he]; simp, hx⟩
theorem self_Same (p : Int) (a1 : Option Addr) (c1 : Nat) (xs : List Int) (a2 : Option Addr) (c2 : Nat) (w : World) (h1 : Ints w a1 c1 xs) (h2 : Ints w a2 c2 xs) :
    Calls Tryz.prog 16 #[.agg #[.int .i64 p, .slice a1 xs.length c1], .agg #[.int .i64 p, .slice a2 xs.length c2]] w fun e w' => e = .returned (.bool true) ∧ Ext Non w w' :=
  (ref_Same p a1 c1 xs p a2 c2 xs w h1 h2).mono fun e w' ⟨he, hx⟩ => ⟨by rw [he]; simp, hx⟩
set_option maxHeartbeats 4000000 in
set_option maxRecDepth 100000 in
theorem walk_SagaTells (ep : Int) (a : Option Addr) (cap : Nat) (xs : List Int) (pa : Option Addr) (pcap : Nat) (l : List Ak) (hlim : l.length * 56 ≤ 140737488351232) (n eq : Int) (hq1 : I64 eq) (tu : Bool) (c s k : Int) (key : ByteArray) (b id : Int) (hro : ReqOk ⟨c, s, ⟨k, key, b.toNat, id⟩⟩) (ba : Option Addr) (bc : Nat) (bad : List Int) (w : World) (hi : Ints w a cap xs) (hs : Aks w pa pcap l) (hb : Ints w ba bc bad) :
    Calls Tryz.prog 3 #[.agg #[.int .i64 ep, .slice a xs.length cap], .slice pa l.length pcap, .agg #[.int .i64 n, .int .i64 eq, .bool tu, .int .i64 c, .int .i64 s, .int .i64 k, .string key, .int .u64 b, .int .i64 id, .slice ba bad.length bc]] w fun e w' => e = .returned (.bool true) ∧ Ext Non w w' := by
  have HI := Go.Lib.hid hi; have HA := Go.Lib.hid hs; have HBD := Go.Lib.hid hb; have HRO := Go.Lib.hid hro
  obtain ⟨lr, hlr⟩ : ∃ lr, lr = l.map Ak.req := ⟨_, rfl⟩
  have hll : lr.length = l.length := by rw [hlr, List.length_map]
  have HOK := Go.Lib.hid (aks_ok hs hlr)
  have HLG := Go.Lib.hid (fun w' (x : Ext Non w w') => log_reqs l hlim lr hlr pa pcap w' (hs.extN x))
  have HLL := Go.Lib.hid hll
  have HLR := Go.Lib.hid hlr
  have hsm := hs.small; have hsl := hs.le
  clear hi hs hlr hll hb hro
  by_cases hne : newE ep xs lr = 0
  · have HNE := Go.Lib.hid hne
    obtain ⟨hm, rfl, hask, hlen⟩ := newE_zero hne
    have HM := Go.Lib.hid hm; have HQ := Go.Lib.hid hask
    have HAO := Go.Lib.hid (askOk_of hask HOK.out)
    have HYL : Hid ((cfM xs lr eq).length ≠ 1) := Go.Lib.hid (by
      unfold cfM
      split
      · have h : 4 ≤ (memN xs lr eq.toNat).length := (members_facts (gAt_inv hm (askOk_of hask HOK.out) (4 * eq.toNat) : Inv (gAt xs lr (4 * eq.toNat))).mn).2.2.1
        omega
      · simp)
    clear hne hm hask
    go_enter Tryz.func3, Tryz.ntmps3
    go_wp2_with fail
    have B0 := Go.Lib.hid ((Bx.newAt w [.int .i64 0, .slice a xs.length cap] 24 _ rfl).alloc (.cells #[.int .i64 n, .int .i64 eq, .bool tu, .int .i64 c, .int .i64 s, .int .i64 k, .string key, .int .u64 b, .int .i64 id, .slice ba bad.length bc] 30))
    have BQ := Go.Lib.hid (Bx.newAt (w.alloc (.cells [Value.int .i64 0, .slice a xs.length cap].toArray 24)) [.int .i64 n, .int .i64 eq, .bool tu, .int .i64 c, .int .i64 s, .int .i64 k, .string key, .int .u64 b, .int .i64 id, .slice ba bad.length bc] 30 (w.heap.size + 1) (by simp))
    refine Calls.ew (law22_lives _) ?_
    rintro e x1 rfl
    have X1 : Ext Non w x1.on := by (repeat (first | with_reducible (first | exact Ext.refl _ _ | assumption | refine Ext.upN ?_ | refine Ext.alloc ?_ _ | refine Ext.drew ?_ | refine Ext.drewN ?_ _ | refine Ext.up1N (by first | omega | simp) ?_) | refine Ext.alloc ?_ _ | refine Ext.setCell ?_ (.inr (by first | omega | simp)) _))
    have B1 := Go.Lib.hid (B0.out.extN x1.ext)
    have BQ1 := Go.Lib.hid (BQ.out.extN x1.ext)
    have hb1 : w.heap.size < x1.on.heap.size := B1.out.lt
    go_upto_region 3 with fail
    apply wp_region_rel (relR [Mo.is _, Mo.is _, moLog lr, moNew w.heap.size xs lr, moNew w.heap.size xs lr, moSag w.heap.size xs lr, Mo.is _, moSag w.heap.size xs lr, Mo.is _]) (by kernel_rfl) (by kernel_rfl) (by kernel_rfl) (relR_mono _) (StepD.all ?st1) ?q1
    case st1 =>
      refine ⟨?_, ?_, ?_, ?_, ?_, ?_, ?_, ?_, ?_, trivial⟩
      · intro a' w' hx hs hd
        obtain ⟨y, rfl⟩ := hx.ew
        have e3 : a'.tmps[3]?.getD undef = _ := hs 3 rfl
        simp only [List.getElem?_toArray, List.getElem?_cons_succ, List.getElem?_cons_zero, Option.getD_some, Array.getElem?_eq_some_iff] at e3
        refine .inl ⟨rfl, ?_⟩
        clear hs hd hx
        go_simp
        exact ⟨Ext.refl _ _, rfl⟩
      · intro a' w' hx hs hd
        obtain ⟨y, rfl⟩ := hx.ew
        have e1 : a'.tmps[1]?.getD undef = _ := hs 1 rfl
        simp only [List.getElem?_toArray, List.getElem?_cons_succ, List.getElem?_cons_zero, Option.getD_some, Array.getElem?_eq_some_iff] at e1
        refine .inl ⟨rfl, ?_⟩
        clear hs hd hx
        go_simp
        exact ⟨Ext.refl _ _, rfl⟩
      · intro a' w' hx hs hd
        obtain ⟨y, rfl⟩ := hx.ew
        have e27 : a'.tmps[27]?.getD undef = _ := hd 1 27 rfl rfl
        refine .inl ⟨rfl, ?_⟩
        clear hs hd hx
        go_simp
        exact (HLG.out _ (by (repeat (first | with_reducible (first | exact Ext.refl _ _ | assumption | refine Ext.upN ?_ | refine Ext.alloc ?_ _ | refine Ext.drew ?_ | refine Ext.drewN ?_ _ | refine Ext.up1N (by first | omega | simp) ?_) | refine Ext.alloc ?_ _ | refine Ext.setCell ?_ (.inr (by first | omega | simp)) _)))).mono (fun e w'' ⟨ra, rc, he, hR, hx⟩ => ⟨_, he, hx, ra, rc, rfl, hR⟩)
      · intro a' w' hx hs hd
        obtain ⟨y, rfl⟩ := hx.ew
        have e26 : a'.tmps[26]?.getD undef = _ := hd 0 26 rfl rfl
        obtain ⟨ra, rc, e28, hR⟩ : ∃ ra rc, a'.tmps[28]?.getD undef = .slice ra lr.length rc ∧ Reqs y.on ra rc lr := hd 2 28 rfl rfl
        refine .inl ⟨rfl, ?_⟩
        clear hs hd hx
        go_simp
        exact (saga_New a cap xs HM.out ra rc lr HOK.out HQ.out hlen _ (HI.out.extN (by (repeat (first | with_reducible (first | exact Ext.refl _ _ | assumption | refine Ext.upN ?_ | refine Ext.alloc ?_ _ | refine Ext.drew ?_ | refine Ext.drewN ?_ _ | refine Ext.up1N (by first | omega | simp) ?_) | refine Ext.alloc ?_ _ | refine Ext.setCell ?_ (.inr (by first | omega | simp)) _)))) hR).mono (fun e w'' ⟨s, v1, v2, bs, he, hS, hx⟩ => ⟨_, he, hx, s, v1, v2, bs, rfl, hS.low (by have h1 := y.ext.size; omega)⟩)
      · intro a' w' hx hs hd
        obtain ⟨y, rfl⟩ := hx.ew
        obtain ⟨s3, v13, v23, bs3, e29, hS3⟩ : ∃ s v1 v2 bs, a'.tmps[29]?.getD undef = .tuple #[.pointer (some ⟨s, 0, none⟩), .int .i64 0] ∧ Sag w.heap.size y.on s v1 v2 xs lr bs := hd 3 29 rfl rfl
        refine .inl ⟨rfl, ?_⟩
        clear hs hd hx
        go_simp
        exact ⟨Ext.refl _ _, s3, v13, v23, bs3, rfl, hS3⟩
      · intro a' w' hx hs hd
        obtain ⟨y, rfl⟩ := hx.ew
        obtain ⟨s4, v14, v24, bs4, e25, hS4⟩ : ∃ s v1 v2 bs, a'.tmps[25]?.getD undef = .tuple #[.pointer (some ⟨s, 0, none⟩), .int .i64 0] ∧ Sag w.heap.size y.on s v1 v2 xs lr bs := hd 4 25 rfl rfl
        refine .inl ⟨rfl, ?_⟩
        clear hs hd hx
        go_simp
        exact ⟨Ext.refl _ _, s4, v14, v24, bs4, rfl, hS4⟩
      · intro a' w' hx hs hd
        obtain ⟨y, rfl⟩ := hx.ew
        obtain ⟨s4, v14, v24, bs4, e25, hS4⟩ : ∃ s v1 v2 bs, a'.tmps[25]?.getD undef = .tuple #[.pointer (some ⟨s, 0, none⟩), .int .i64 0] ∧ Sag w.heap.size y.on s v1 v2 xs lr bs := hd 4 25 rfl rfl
        refine .inl ⟨rfl, ?_⟩
        clear hs hd hx
        go_simp
        exact ⟨Ext.refl _ _, rfl⟩
      · intro a' w' hx hs hd
        obtain ⟨y, rfl⟩ := hx.ew
        obtain ⟨s5, v15, v25, bs5, e30, hS5⟩ : ∃ s v1 v2 bs, a'.tmps[30]?.getD undef = .pointer (some ⟨s, 0, none⟩) ∧ Sag w.heap.size y.on s v1 v2 xs lr bs := hd 5 30 rfl rfl
        refine .inl ⟨rfl, ?_⟩
        clear hs hd hx
        go_simp
        exact ⟨Ext.refl _ _, s5, v15, v25, bs5, rfl, hS5⟩
      · intro a' w' hx hs hd
        obtain ⟨y, rfl⟩ := hx.ew
        have e31 : a'.tmps[31]?.getD undef = _ := hd 6 31 rfl rfl
        refine .inl ⟨rfl, ?_⟩
        clear hs hd hx
        go_simp
        exact ⟨Ext.refl _ _, rfl⟩
    case' q1 =>
      intro vs w' hx hRR
      obtain ⟨x2, rfl⟩ := hx.ew
      have q0 : vs 0 = _ := hRR 0 (by decide)
      have q1 : vs 1 = _ := hRR 1 (by decide)
      obtain ⟨ra, rc, q2, hR⟩ : ∃ ra rc, vs 2 = .slice ra lr.length rc ∧ Reqs x2.on ra rc lr := hRR 2 (by decide)
      obtain ⟨s3, v13, v23, bs3, q3, hS3⟩ : ∃ s v1 v2 bs, vs 3 = .tuple #[.pointer (some ⟨s, 0, none⟩), .int .i64 0] ∧ Sag w.heap.size x2.on s v1 v2 xs lr bs := hRR 3 (by decide)
      obtain ⟨s4, v14, v24, bs4, q4, hS4⟩ : ∃ s v1 v2 bs, vs 4 = .tuple #[.pointer (some ⟨s, 0, none⟩), .int .i64 0] ∧ Sag w.heap.size x2.on s v1 v2 xs lr bs := hRR 4 (by decide)
      obtain ⟨s5, v15, v25, bs5, q5, hS5⟩ : ∃ s v1 v2 bs, vs 5 = .pointer (some ⟨s, 0, none⟩) ∧ Sag w.heap.size x2.on s v1 v2 xs lr bs := hRR 5 (by decide)
      have q6 : vs 6 = _ := hRR 6 (by decide)
      obtain ⟨s7, v17, v27, bs7, q7, hS7⟩ : ∃ s v1 v2 bs, vs 7 = .pointer (some ⟨s, 0, none⟩) ∧ Sag w.heap.size x2.on s v1 v2 xs lr bs := hRR 7 (by decide)
      have q8 : vs 8 = _ := hRR 8 (by decide)
      clear hRR hx
      simp only [putAll, List.take_succ_cons, List.take_zero, List.drop_succ_cons, List.drop_zero, Act.put, List.setIfInBounds_toArray, List.set_cons_zero, List.set_cons_succ, Nat.reduceAdd, Nat.zero_add]
      simp only [q0, q1, q2, q3, q4, q5, q6, q7, q8]
      clear q0 q1 q2 q3 q4 q5 q6 q7 q8 vs
    have HS := Go.Lib.hid hS7
    have XX := Go.Lib.hid (by (repeat (first | with_reducible (first | exact Ext.refl _ _ | assumption | refine Ext.upN ?_ | refine Ext.alloc ?_ _ | refine Ext.drew ?_ | refine Ext.drewN ?_ _ | refine Ext.up1N (by first | omega | simp) ?_) | refine Ext.alloc ?_ _ | refine Ext.setCell ?_ (.inr (by first | omega | simp)) _)) : Ext Non w x2.on)
    have BC := Go.Lib.hid (B1.out.extN x2.ext)
    have BQ2 := Go.Lib.hid (BQ1.out.extN x2.ext)
    have HA1 := Go.Lib.hid (HA.out.extN XX.out)
    have HI1 := Go.Lib.hid (HI.out.extN XX.out)
    have HB1 := Go.Lib.hid (HBD.out.extN XX.out)
    have HLG1 : Hid (∀ w', Ext Non x2.on w' → Calls Tryz.prog 6 #[.slice pa l.length pcap] w' fun e w'' => ∃ ra rc, e = .returned (.slice ra lr.length rc) ∧ Reqs w'' ra rc lr ∧ Ext Non w' w'') := Go.Lib.hid (fun w' x => HLG.out w' (XX.out.trans x))
    have hbw : w.heap.size + 1 < x2.on.heap.size := BQ2.out.lt
    clear hR hS3 hS4 hS5 hS7 B1 X1 hb1 B0 HA HI HBD BQ BQ1 HLG
    generalize x2.on = w1 at *
    generalize w.heap.size + 1 = kq at *
    generalize w.heap.size = kb at *
    have b0 : w1.cell? ⟨kb, 0, none⟩ = some (.int .i64 0) := BC.out.cell rfl
    have b1 : w1.cell? ⟨kb, 1, none⟩ = some (.slice a xs.length cap) := BC.out.cell rfl
    have q0 : w1.cell? ⟨kq, 0, none⟩ = some (.int .i64 n) := BQ2.out.cell rfl
    have q1 : w1.cell? ⟨kq, 1, none⟩ = some (.int .i64 eq) := BQ2.out.cell rfl
    have q2 : w1.cell? ⟨kq, 2, none⟩ = some (.bool tu) := BQ2.out.cell rfl
    have q3 : w1.cell? ⟨kq, 3, none⟩ = some (.int .i64 c) := BQ2.out.cell rfl
    have q4 : w1.cell? ⟨kq, 4, none⟩ = some (.int .i64 s) := BQ2.out.cell rfl
    have q5 : w1.cell? ⟨kq, 5, none⟩ = some (.int .i64 k) := BQ2.out.cell rfl
    have q6 : w1.cell? ⟨kq, 6, none⟩ = some (.string key) := BQ2.out.cell rfl
    have q7 : w1.cell? ⟨kq, 7, none⟩ = some (.int .u64 b) := BQ2.out.cell rfl
    have q8 : w1.cell? ⟨kq, 8, none⟩ = some (.int .i64 id) := BQ2.out.cell rfl
    have q9 : w1.cell? ⟨kq, 9, none⟩ = some (.slice ba bad.length bc) := BQ2.out.cell rfl
    have CST : Hid (∀ w', Ext Non w1 w' → Calls Tryz.prog 8 #[.pointer (some ⟨s7, 0, none⟩), .int .i64 n, .bool tu] w' fun e w'' => e = .returned (.tuple #[.string (stAS xs lr n tu), .bool (stAB xs lr n tu)]) ∧ Ext Non w' w'') := Go.Lib.hid (fun w' x => saga_StateA kb s7 v17 v27 xs lr bs7 HM.out (by omega) (fun q hq => (HAO.out q hq).2) n tu w' (HS.out.extN x))
    have CST2 : Hid (∀ w' la lc, Ext Non w1 w' → Reqs w' la lc lr → Calls Tryz.prog 9 #[.agg #[.int .i64 0, .slice a xs.length cap], .slice la lr.length lc, .int .i64 n, .bool tu] w' fun e w'' => e = .returned (.tuple #[.string (stAS xs lr n tu), .bool (stAB xs lr n tu)]) ∧ Ext Non w' w'') := Go.Lib.hid (fun w' la lc x hr => ref22_StateA a cap xs HM.out la lc lr (fun q hq => (HAO.out q hq).2) n tu w' (HI1.out.extN x) hr)
    have CCF : Hid (∀ w', Ext Non w1 w' → Calls Tryz.prog 10 #[.pointer (some ⟨s7, 0, none⟩), .int .i64 eq] w' fun e w'' => ∃ a cap, e = .returned (.tuple #[.agg #[.int .i64 (cfE lr.length eq), .slice a (cfM xs lr eq).length cap], .bool (cfB lr.length eq)]) ∧ Ints w'' a cap (cfM xs lr eq) ∧ Ext Non w' w'') := Go.Lib.hid (fun w' x => saga_ConfB kb s7 v17 v27 xs lr bs7 HM.out hlen HAO.out eq hq1 w' (HS.out.extN x))
    have CCF2 : Hid (∀ w' la lc, Ext Non w1 w' → Reqs w' la lc lr → Calls Tryz.prog 11 #[.agg #[.int .i64 0, .slice a xs.length cap], .slice la lr.length lc, .int .i64 eq] w' fun e w'' => ∃ a cap, e = .returned (.tuple #[.agg #[.int .i64 (cfE lr.length eq), .slice a (cfM xs lr eq).length cap], .bool (cfB lr.length eq)]) ∧ Ints w'' a cap (cfM xs lr eq) ∧ Ext Non w' w'') := Go.Lib.hid (fun w' la lc x hr => ref22_ConfB a cap xs HM.out la lc lr hlen HAO.out eq hq1 w' (HI1.out.extN x) hr)
    have CSD : Hid (∀ w', Ext Non w1 w' → Calls Tryz.prog 18 #[.pointer (some ⟨s7, 0, none⟩), .slice ba bad.length bc] w' fun e w'' => e = .returned (.bool (soundB xs lr bad)) ∧ Ext Non w' w'') := Go.Lib.hid (fun w' x => saga_Sound kb s7 v17 v27 xs lr bs7 HM.out hlen HAO.out ba bc bad w' (HS.out.extN x) (HB1.out.extN x))
    have CSD2 : Hid (∀ w' la lc, Ext Non w1 w' → Reqs w' la lc lr → Calls Tryz.prog 19 #[.agg #[.int .i64 0, .slice a xs.length cap], .slice la lr.length lc, .slice ba bad.length bc] w' fun e w'' => e = .returned (.bool (soundB xs lr bad)) ∧ Ext Non w' w'') := Go.Lib.hid (fun w' la lc x hr => ref22_Sound a cap xs HM.out la lc lr hlen HAO.out ba bc bad w' (HI1.out.extN x) hr (HB1.out.extN x))
    have CLN : Hid (∀ w', Ext Non w1 w' → Calls Tryz.prog 15 #[.pointer (some ⟨s7, 0, none⟩)] w' fun e w'' => e = .returned (.int .i64 (l.length : Int)) ∧ Ext Non w' w'') := Go.Lib.hid (fun w' x => by rw [← HLL.out]; exact saga_Len kb s7 v17 v27 xs lr bs7 w' (HS.out.extN x))
    have CRT : Hid (∀ w' la lc, Ext Non w1 w' → Reqs w' la lc lr → Calls Tryz.prog 7 #[.agg #[.int .i64 0, .slice a xs.length cap], .slice la lr.length lc] w' fun e w'' => e = .returned (.int .i64 0) ∧ Ext Non w' w'') := Go.Lib.hid (fun w' la lc x hr => by have h := ref22_Right 0 a cap xs la lc lr w' (HI1.out.extN x) hr; rwa [HNE.out] at h)
    have CRQ : Hid (∀ w' : World, Calls Tryz.prog 13 #[.agg #[.int .i64 c, .int .i64 s, .int .i64 k, .string key, .int .u64 b, .int .i64 id]] w' fun e w'' => e = .returned (.agg #[.int .i64 c, .int .i64 s, .int .i64 k, .string key, .float .f64 b.toNat, .int .i64 id]) ∧ Ext Non w' w'') := Go.Lib.hid (fun w' => law11_Request c s k key b id w')
    have COC : Hid (∀ w', Ext Non w1 w' → Calls Tryz.prog 12 #[.pointer (some ⟨s7, 0, none⟩), .agg #[.int .i64 c, .int .i64 s, .int .i64 k, .string key, .float .f64 b.toNat, .int .i64 id]] w' fun e w'' => e = .returned (outV (stepsL (newL xs) lr) (outI ⟨c, s, ⟨k, key, b.toNat, id⟩⟩ (stepsL (newL xs) lr))) ∧ Ext Non w' w'') := Go.Lib.hid (fun w' x => saga_Outcome kb s7 v17 v27 xs lr bs7 (by omega) HOK.out c s k key b.toNat id HRO.out w' (HS.out.extN x))
    have COC2 : Hid (∀ w' la lc, Ext Non w1 w' → Reqs w' la lc lr → Calls Tryz.prog 14 #[.agg #[.int .i64 0, .slice a xs.length cap], .slice la lr.length lc, .agg #[.int .i64 c, .int .i64 s, .int .i64 k, .string key, .float .f64 b.toNat, .int .i64 id]] w' fun e w'' => e = .returned (outV (stepsL (newL xs) lr) (outI ⟨c, s, ⟨k, key, b.toNat, id⟩⟩ (stepsL (newL xs) lr))) ∧ Ext Non w' w'') := Go.Lib.hid (fun w' la lc x hr => ref22_Outcome a cap xs HM.out la lc lr hlen HOK.out HAO.out c s k key b.toNat id HRO.out w' (HI1.out.extN x) hr)
    obtain ⟨om, ocd, orl, ob, ho⟩ := outV_any (stepsL (newL xs) lr) (outI ⟨c, s, ⟨k, key, b.toNat, id⟩⟩ (stepsL (newL xs) lr))
    rw [ho] at COC COC2
    clear ho
    generalize b.toNat = bt at *
    generalize stAS xs lr n tu = sa at *
    generalize stAB xs lr n tu = sk at *
    generalize cfE lr.length eq = ce at *
    generalize cfM xs lr eq = ym at *
    generalize cfB lr.length eq = cb at *
    generalize soundB xs lr bad = sv at *
    -- region 4
    go_upto_region 4 with fail
    apply wp_region_rel (relR [Mo.is _, Mo.is _, Mo.is _, moLog lr, Mo.is _, Mo.is _, Mo.is _, Mo.is _, Mo.is _, Mo.is _, Mo.is _, Mo.is _, Mo.is _]) (by kernel_rfl) (by kernel_rfl) (by kernel_rfl) (relR_mono _) (StepD.all ?st2) ?q2
    case st2 =>
      refine ⟨?_, ?_, ?_, ?_, ?_, ?_, ?_, ?_, ?_, ?_, ?_, ?_, ?_, trivial⟩
      · intro a' w' hx hs hd
        obtain ⟨y, rfl⟩ := hx.ew
        have e8 : a'.tmps[8]?.getD undef = _ := hs 8 rfl
        simp only [List.getElem?_toArray, List.getElem?_cons_succ, List.getElem?_cons_zero, Option.getD_some, Array.getElem?_eq_some_iff] at e8
        refine .inl ⟨rfl, ?_⟩
        clear hs hd hx
        go_simp
        exact ⟨Ext.refl _ _, rfl⟩
      · intro a' w' hx hs hd
        obtain ⟨y, rfl⟩ := hx.ew
        have e3 : a'.tmps[3]?.getD undef = _ := hs 3 rfl
        simp only [List.getElem?_toArray, List.getElem?_cons_succ, List.getElem?_cons_zero, Option.getD_some, Array.getElem?_eq_some_iff] at e3
        refine .inl ⟨rfl, ?_⟩
        clear hs hd hx
        go_simp
        exact ⟨Ext.refl _ _, rfl⟩
      · intro a' w' hx hs hd
        obtain ⟨y, rfl⟩ := hx.ew
        have e1 : a'.tmps[1]?.getD undef = _ := hs 1 rfl
        simp only [List.getElem?_toArray, List.getElem?_cons_succ, List.getElem?_cons_zero, Option.getD_some, Array.getElem?_eq_some_iff] at e1
        refine .inl ⟨rfl, ?_⟩
        clear hs hd hx
        go_simp
        exact ⟨Ext.refl _ _, rfl⟩
      · intro a' w' hx hs hd
        obtain ⟨y, rfl⟩ := hx.ew
        have e34 : a'.tmps[34]?.getD undef = _ := hd 2 34 rfl rfl
        refine .inl ⟨rfl, ?_⟩
        clear hs hd hx
        go_simp
        exact (HLG1.out _ (by (repeat (first | with_reducible (first | exact Ext.refl _ _ | assumption | refine Ext.upN ?_ | refine Ext.alloc ?_ _ | refine Ext.drew ?_ | refine Ext.drewN ?_ _ | refine Ext.up1N (by first | omega | simp) ?_) | refine Ext.alloc ?_ _ | refine Ext.setCell ?_ (.inr (by first | omega | simp)) _)))).mono (fun e w'' ⟨ra, rc, he, hR, hx⟩ => ⟨_, he, hx, ra, rc, rfl, hR⟩)
      · intro a' w' hx hs hd
        obtain ⟨y, rfl⟩ := hx.ew
        have e33 : a'.tmps[33]?.getD undef = _ := hd 1 33 rfl rfl
        obtain ⟨ra, rc, e35, hR⟩ : ∃ ra rc, a'.tmps[35]?.getD undef = .slice ra lr.length rc ∧ Reqs y.on ra rc lr := hd 3 35 rfl rfl
        refine .inl ⟨rfl, ?_⟩
        clear hs hd hx
        go_simp
        exact (CRT.out _ _ _ (by (repeat (first | with_reducible (first | exact Ext.refl _ _ | assumption | refine Ext.upN ?_ | refine Ext.alloc ?_ _ | refine Ext.drew ?_ | refine Ext.drewN ?_ _ | refine Ext.up1N (by first | omega | simp) ?_) | refine Ext.alloc ?_ _ | refine Ext.setCell ?_ (.inr (by first | omega | simp)) _))) hR).mono (fun e w'' ⟨he, hx⟩ => ⟨_, he, hx, rfl⟩)
      · intro a' w' hx hs hd
        obtain ⟨y, rfl⟩ := hx.ew
        have e32 : a'.tmps[32]?.getD undef = _ := hd 0 32 rfl rfl
        have e36 : a'.tmps[36]?.getD undef = _ := hd 4 36 rfl rfl
        refine .inl ⟨rfl, ?_⟩
        clear hs hd hx
        go_simp
        exact ⟨Ext.refl _ _, rfl⟩
      · intro a' w' hx hs hd
        obtain ⟨y, rfl⟩ := hx.ew
        have e37 : a'.tmps[37]?.getD undef = _ := hd 5 37 rfl rfl
        refine .inl ⟨rfl, ?_⟩
        clear hs hd hx
        go_simp
        exact ⟨Ext.refl _ _, rfl⟩
      · intro a' w' hx hs hd
        obtain ⟨y, rfl⟩ := hx.ew
        have eg : a'.tmps[38]?.getD undef = _ := hd 6 38 rfl rfl
        first
        | (refine .inr ⟨unwanted_of (j := 6) (d := 38) rfl rfl eg (by rfl), ?_⟩; exact (rfl : (Mo.is undef).p undef y.on))
        | (refine .inr ⟨unwanted_und (j := 6) (d := 38) rfl rfl eg, ?_⟩; exact (rfl : (Mo.is undef).p undef y.on))
        | (have e7 : a'.tmps[7]?.getD undef = _ := hs 7 rfl; simp only [List.getElem?_toArray, List.getElem?_cons_succ, List.getElem?_cons_zero, Option.getD_some, Array.getElem?_eq_some_iff] at e7; refine .inl ⟨wanted_of (j := 6) (d := 38) rfl rfl eg, ?_⟩; clear hs hd hx eg; go_simp; exact ⟨Ext.refl _ _, rfl⟩)
      · intro a' w' hx hs hd
        obtain ⟨y, rfl⟩ := hx.ew
        have eg : a'.tmps[38]?.getD undef = _ := hd 6 38 rfl rfl
        first
        | (refine .inr ⟨unwanted_of (j := 6) (d := 38) rfl rfl eg (by rfl), ?_⟩; exact (rfl : (Mo.is undef).p undef y.on))
        | (refine .inr ⟨unwanted_und (j := 6) (d := 38) rfl rfl eg, ?_⟩; exact (rfl : (Mo.is undef).p undef y.on))
        | (have e39 : a'.tmps[39]?.getD undef = _ := hd 7 39 rfl rfl; refine .inl ⟨wanted_of (j := 6) (d := 38) rfl rfl eg, ?_⟩; clear hs hd hx eg; go_simp; exact ⟨Ext.refl _ _, rfl⟩)
      · intro a' w' hx hs hd
        obtain ⟨y, rfl⟩ := hx.ew
        have eg : a'.tmps[38]?.getD undef = _ := hd 6 38 rfl rfl
        first
        | (refine .inr ⟨unwanted_of (j := 6) (d := 38) rfl rfl eg (by rfl), ?_⟩; exact (rfl : (Mo.is undef).p undef y.on))
        | (refine .inr ⟨unwanted_und (j := 6) (d := 38) rfl rfl eg, ?_⟩; exact (rfl : (Mo.is undef).p undef y.on))
        | (have e8 : a'.tmps[8]?.getD undef = _ := hs 8 rfl; simp only [List.getElem?_toArray, List.getElem?_cons_succ, List.getElem?_cons_zero, Option.getD_some, Array.getElem?_eq_some_iff] at e8; refine .inl ⟨wanted_of (j := 6) (d := 38) rfl rfl eg, ?_⟩; clear hs hd hx eg; go_simp; exact ⟨Ext.refl _ _, rfl⟩)
      · intro a' w' hx hs hd
        obtain ⟨y, rfl⟩ := hx.ew
        have eg : a'.tmps[38]?.getD undef = _ := hd 6 38 rfl rfl
        first
        | (refine .inr ⟨unwanted_of (j := 6) (d := 38) rfl rfl eg (by rfl), ?_⟩; exact (rfl : (Mo.is undef).p undef y.on))
        | (refine .inr ⟨unwanted_und (j := 6) (d := 38) rfl rfl eg, ?_⟩; exact (rfl : (Mo.is undef).p undef y.on))
        | (have e41 : a'.tmps[41]?.getD undef = _ := hd 9 41 rfl rfl; refine .inl ⟨wanted_of (j := 6) (d := 38) rfl rfl eg, ?_⟩; clear hs hd hx eg; go_simp; exact ⟨Ext.refl _ _, rfl⟩)
      · intro a' w' hx hs hd
        obtain ⟨y, rfl⟩ := hx.ew
        have eg : a'.tmps[38]?.getD undef = _ := hd 6 38 rfl rfl
        first
        | (refine .inr ⟨unwanted_of (j := 6) (d := 38) rfl rfl eg (by rfl), ?_⟩; exact (rfl : (Mo.is undef).p undef y.on))
        | (refine .inr ⟨unwanted_und (j := 6) (d := 38) rfl rfl eg, ?_⟩; exact (rfl : (Mo.is undef).p undef y.on))
        | (have e40 : a'.tmps[40]?.getD undef = _ := hd 8 40 rfl rfl; have e42 : a'.tmps[42]?.getD undef = _ := hd 10 42 rfl rfl; refine .inl ⟨wanted_of (j := 6) (d := 38) rfl rfl eg, ?_⟩; clear hs hd hx eg; go_simp; exact ⟨Ext.refl _ _, rfl⟩)
      · intro a' w' hx hs hd
        obtain ⟨y, rfl⟩ := hx.ew
        have e38 : a'.tmps[38]?.getD undef = _ := hd 6 38 rfl rfl
        have e43 : a'.tmps[43]?.getD undef = _ := hd 11 43 rfl rfl
        refine .inl ⟨rfl, ?_⟩
        clear hs hd hx
        go_simp
        exact ⟨Ext.refl _ _, rfl⟩
    case' q2 =>
      intro vs w' hx hRR
      obtain ⟨x3, rfl⟩ := hx.ew
      have q0 : vs 0 = _ := hRR 0 (by decide)
      have q1 : vs 1 = _ := hRR 1 (by decide)
      have q2 : vs 2 = _ := hRR 2 (by decide)
      obtain ⟨ra, rc, q3, hR⟩ : ∃ ra rc, vs 3 = .slice ra lr.length rc ∧ Reqs x3.on ra rc lr := hRR 3 (by decide)
      have q4 : vs 4 = _ := hRR 4 (by decide)
      have q5 : vs 5 = _ := hRR 5 (by decide)
      have q6 : vs 6 = _ := hRR 6 (by decide)
      have q7 : vs 7 = _ := hRR 7 (by decide)
      have q8 : vs 8 = _ := hRR 8 (by decide)
      have q9 : vs 9 = _ := hRR 9 (by decide)
      have q10 : vs 10 = _ := hRR 10 (by decide)
      have q11 : vs 11 = _ := hRR 11 (by decide)
      have q12 : vs 12 = _ := hRR 12 (by decide)
      clear hRR hx
      simp only [putAll, List.take_succ_cons, List.take_zero, List.drop_succ_cons, List.drop_zero, Act.put, List.setIfInBounds_toArray, List.set_cons_zero, List.set_cons_succ, Nat.reduceAdd, Nat.zero_add]
      simp only [q0, q1, q2, q3, q4, q5, q6, q7, q8, q9, q10, q11, q12]
      clear q0 q1 q2 q3 q4 q5 q6 q7 q8 q9 q10 q11 q12 vs
    clear hR
    go_upto_region 8 with fail
    go_wp2_with fail
    refine Calls.ew (CST.out _ (by (repeat (first | with_reducible (first | exact Ext.refl _ _ | assumption | refine Ext.upN ?_ | refine Ext.alloc ?_ _ | refine Ext.drew ?_ | refine Ext.drewN ?_ _ | refine Ext.up1N (by first | omega | simp) ?_) | refine Ext.alloc ?_ _ | refine Ext.setCell ?_ (.inr (by first | omega | simp)) _)))) ?_
    rintro e x4 rfl
    go_upto_region 9 with fail
    apply wp_region_rel (relR [Mo.is _, Mo.is _, moLog lr, Mo.is _, Mo.is _, Mo.is _, Mo.is _, Mo.is _, Mo.is _, Mo.is _, Mo.is _, Mo.is _, Mo.is _]) (by kernel_rfl) (by kernel_rfl) (by kernel_rfl) (relR_mono _) (StepD.all ?st3) ?q3
    case st3 =>
      refine ⟨?_, ?_, ?_, ?_, ?_, ?_, ?_, ?_, ?_, ?_, ?_, ?_, ?_, trivial⟩
      · intro a' w' hx hs hd
        obtain ⟨y, rfl⟩ := hx.ew
        have e3 : a'.tmps[3]?.getD undef = _ := hs 3 rfl
        simp only [List.getElem?_toArray, List.getElem?_cons_succ, List.getElem?_cons_zero, Option.getD_some, Array.getElem?_eq_some_iff] at e3
        refine .inl ⟨rfl, ?_⟩
        clear hs hd hx
        go_simp
        exact ⟨Ext.refl _ _, rfl⟩
      · intro a' w' hx hs hd
        obtain ⟨y, rfl⟩ := hx.ew
        have e1 : a'.tmps[1]?.getD undef = _ := hs 1 rfl
        simp only [List.getElem?_toArray, List.getElem?_cons_succ, List.getElem?_cons_zero, Option.getD_some, Array.getElem?_eq_some_iff] at e1
        refine .inl ⟨rfl, ?_⟩
        clear hs hd hx
        go_simp
        exact ⟨Ext.refl _ _, rfl⟩
      · intro a' w' hx hs hd
        obtain ⟨y, rfl⟩ := hx.ew
        have e58 : a'.tmps[58]?.getD undef = _ := hd 1 58 rfl rfl
        refine .inl ⟨rfl, ?_⟩
        clear hs hd hx
        go_simp
        exact (HLG1.out _ (by (repeat (first | with_reducible (first | exact Ext.refl _ _ | assumption | refine Ext.upN ?_ | refine Ext.alloc ?_ _ | refine Ext.drew ?_ | refine Ext.drewN ?_ _ | refine Ext.up1N (by first | omega | simp) ?_) | refine Ext.alloc ?_ _ | refine Ext.setCell ?_ (.inr (by first | omega | simp)) _)))).mono (fun e w'' ⟨ra, rc, he, hR, hx⟩ => ⟨_, he, hx, ra, rc, rfl, hR⟩)
      · intro a' w' hx hs hd
        obtain ⟨y, rfl⟩ := hx.ew
        have e5 : a'.tmps[5]?.getD undef = _ := hs 5 rfl
        simp only [List.getElem?_toArray, List.getElem?_cons_succ, List.getElem?_cons_zero, Option.getD_some, Array.getElem?_eq_some_iff] at e5
        refine .inl ⟨rfl, ?_⟩
        clear hs hd hx
        go_simp
        exact ⟨Ext.refl _ _, rfl⟩
      · intro a' w' hx hs hd
        obtain ⟨y, rfl⟩ := hx.ew
        have e60 : a'.tmps[60]?.getD undef = _ := hd 3 60 rfl rfl
        refine .inl ⟨rfl, ?_⟩
        clear hs hd hx
        go_simp
        exact ⟨Ext.refl _ _, rfl⟩
      · intro a' w' hx hs hd
        obtain ⟨y, rfl⟩ := hx.ew
        have e5 : a'.tmps[5]?.getD undef = _ := hs 5 rfl
        simp only [List.getElem?_toArray, List.getElem?_cons_succ, List.getElem?_cons_zero, Option.getD_some, Array.getElem?_eq_some_iff] at e5
        refine .inl ⟨rfl, ?_⟩
        clear hs hd hx
        go_simp
        exact ⟨Ext.refl _ _, rfl⟩
      · intro a' w' hx hs hd
        obtain ⟨y, rfl⟩ := hx.ew
        have e62 : a'.tmps[62]?.getD undef = _ := hd 5 62 rfl rfl
        refine .inl ⟨rfl, ?_⟩
        clear hs hd hx
        go_simp
        exact ⟨Ext.refl _ _, rfl⟩
      · intro a' w' hx hs hd
        obtain ⟨y, rfl⟩ := hx.ew
        have e57 : a'.tmps[57]?.getD undef = _ := hd 0 57 rfl rfl
        obtain ⟨ra, rc, e59, hR⟩ : ∃ ra rc, a'.tmps[59]?.getD undef = .slice ra lr.length rc ∧ Reqs y.on ra rc lr := hd 2 59 rfl rfl
        have e61 : a'.tmps[61]?.getD undef = _ := hd 4 61 rfl rfl
        have e63 : a'.tmps[63]?.getD undef = _ := hd 6 63 rfl rfl
        refine .inl ⟨rfl, ?_⟩
        clear hs hd hx
        go_simp
        exact (CST2.out _ _ _ (by (repeat (first | with_reducible (first | exact Ext.refl _ _ | assumption | refine Ext.upN ?_ | refine Ext.alloc ?_ _ | refine Ext.drew ?_ | refine Ext.drewN ?_ _ | refine Ext.up1N (by first | omega | simp) ?_) | refine Ext.alloc ?_ _ | refine Ext.setCell ?_ (.inr (by first | omega | simp)) _))) hR).mono (fun e w'' ⟨he, hx⟩ => ⟨_, he, hx, rfl⟩)
      · intro a' w' hx hs hd
        obtain ⟨y, rfl⟩ := hx.ew
        have e64 : a'.tmps[64]?.getD undef = _ := hd 7 64 rfl rfl
        refine .inl ⟨rfl, ?_⟩
        clear hs hd hx
        go_simp
        exact ⟨Ext.refl _ _, rfl⟩
      · intro a' w' hx hs hd
        obtain ⟨y, rfl⟩ := hx.ew
        have e56 : a'.tmps[56]?.getD undef = _ := hd 8 56 rfl rfl
        refine .inl ⟨rfl, ?_⟩
        clear hs hd hx
        go_simp
        exact ⟨Ext.refl _ _, rfl⟩
      · intro a' w' hx hs hd
        obtain ⟨y, rfl⟩ := hx.ew
        have e56 : a'.tmps[56]?.getD undef = _ := hd 8 56 rfl rfl
        refine .inl ⟨rfl, ?_⟩
        clear hs hd hx
        go_simp
        exact ⟨Ext.refl _ _, rfl⟩
      · intro a' w' hx hs hd
        obtain ⟨y, rfl⟩ := hx.ew
        have e65 : a'.tmps[65]?.getD undef = _ := hd 9 65 rfl rfl
        refine .inl ⟨rfl, ?_⟩
        clear hs hd hx
        go_simp
        exact ⟨Ext.refl _ _, rfl⟩
      · intro a' w' hx hs hd
        obtain ⟨y, rfl⟩ := hx.ew
        have e66 : a'.tmps[66]?.getD undef = _ := hd 10 66 rfl rfl
        refine .inl ⟨rfl, ?_⟩
        clear hs hd hx
        go_simp
        exact ⟨Ext.refl _ _, rfl⟩
    case' q3 =>
      intro vs w' hx hRR
      obtain ⟨x5, rfl⟩ := hx.ew
      have q0 : vs 0 = _ := hRR 0 (by decide)
      have q1 : vs 1 = _ := hRR 1 (by decide)
      obtain ⟨ra, rc, q2, hR⟩ : ∃ ra rc, vs 2 = .slice ra lr.length rc ∧ Reqs x5.on ra rc lr := hRR 2 (by decide)
      have q3 : vs 3 = _ := hRR 3 (by decide)
      have q4 : vs 4 = _ := hRR 4 (by decide)
      have q5 : vs 5 = _ := hRR 5 (by decide)
      have q6 : vs 6 = _ := hRR 6 (by decide)
      have q7 : vs 7 = _ := hRR 7 (by decide)
      have q8 : vs 8 = _ := hRR 8 (by decide)
      have q9 : vs 9 = _ := hRR 9 (by decide)
      have q10 : vs 10 = _ := hRR 10 (by decide)
      have q11 : vs 11 = _ := hRR 11 (by decide)
      have q12 : vs 12 = _ := hRR 12 (by decide)
      clear hRR hx
      simp only [putAll, List.take_succ_cons, List.take_zero, List.drop_succ_cons, List.drop_zero, Act.put, List.setIfInBounds_toArray, List.set_cons_zero, List.set_cons_succ, Nat.reduceAdd, Nat.zero_add]
      simp only [q0, q1, q2, q3, q4, q5, q6, q7, q8, q9, q10, q11, q12]
      clear q0 q1 q2 q3 q4 q5 q6 q7 q8 q9 q10 q11 q12 vs
    clear hR
    go_wp2_with fail
    refine (CCF.out _ (by (repeat (first | with_reducible (first | exact Ext.refl _ _ | assumption | refine Ext.upN ?_ | refine Ext.alloc ?_ _ | refine Ext.drew ?_ | refine Ext.drewN ?_ _ | refine Ext.up1N (by first | omega | simp) ?_) | refine Ext.alloc ?_ _ | refine Ext.setCell ?_ (.inr (by first | omega | simp)) _)))).mono ?_
    rintro e _ ⟨ca1, cc1, rfl, hI, hx⟩
    obtain ⟨x7, rfl⟩ := hx.ew
    have HI1c := Go.Lib.hid hI
    clear hI hx
    go_upto_region 11 with (refine wpList_store_box rfl 24 _ _ rfl x7.on.heap.size _ [.int .i64 ce, .slice ca1 ym.length cc1] _ rfl rfl (Bx.newAt _ _ _ _ rfl) rfl info_confS (by simp [Value.oneCell']) (fun W hB => ?_); have BK1 := Go.Lib.hid hB; clear hB)
    have XW : Ext Non x7.on W.on := by (repeat (first | with_reducible (first | exact Ext.refl _ _ | assumption | refine Ext.upN ?_ | refine Ext.alloc ?_ _ | refine Ext.drew ?_ | refine Ext.drewN ?_ _ | refine Ext.up1N (by first | omega | simp) ?_) | refine Ext.alloc ?_ _ | refine Ext.setCell ?_ (.inr (by first | omega | simp)) _))
    have HI1d := Go.Lib.hid (HI1c.out.extN XW)
    have XW1 : Ext Non w1 W.on := (by (repeat (first | with_reducible (first | exact Ext.refl _ _ | assumption | refine Ext.upN ?_ | refine Ext.alloc ?_ _ | refine Ext.drew ?_ | refine Ext.drewN ?_ _ | refine Ext.up1N (by first | omega | simp) ?_) | refine Ext.alloc ?_ _ | refine Ext.setCell ?_ (.inr (by first | omega | simp)) _)) : Ext Non w1 x7.on).trans XW
    obtain ⟨y1, hy1⟩ := XW1.ew
    rw [hy1] at HI1d BK1 ⊢
    clear HI1c hy1 XW1 XW W
    try simp only [Act.put]
    generalize x7.on.heap.size = kc1 at *
    clear x7 x5 x4 x3
    go_upto_region 11 with fail
    go_cut [15, 16] (fun v15 v16 wx => ∃ (g : Nat) (a7 : Option Addr) (c7 : Nat) (z : EW Non y1.on), v15 = .pointer (some ⟨g, 0, none⟩) ∧ v16 = .bool cb ∧ wx = z.on ∧ Hid (Bx wx g [.int .i64 ce, .slice a7 ym.length c7] 24) ∧ Hid (Ints wx a7 c7 ym))
    case first =>
      apply wp_region_rel_late 10 8 (relR [Mo.is _, Mo.is _, moLog lr, Mo.is _, Mo.is _, moCfT ce ym cb, moCfT ce ym cb, moCfA ce ym, Mo.is _, moBx y1.on.heap.size [.int .i64 0, .slice none 0 0] 24]) (by kernel_rfl) (by kernel_rfl) (by kernel_rfl) (by kernel_rfl) (by kernel_rfl) (by decide) (by decide) (by kernel_rfl) (by kernel_rfl) (by kernel_rfl) (relR_mono _) (StepD.all ?st4) ?q4 ?l4
      case st4 =>
        refine ⟨?_, ?_, ?_, ?_, ?_, ?_, ?_, ?_, ?_, ?_, trivial⟩
        · intro a' w' hx hs hd
          obtain ⟨y, rfl⟩ := hx.ew
          have e3 : a'.tmps[3]?.getD undef = _ := hs 3 rfl
          simp only [List.getElem?_toArray, List.getElem?_cons_succ, List.getElem?_cons_zero, Option.getD_some, Array.getElem?_eq_some_iff] at e3
          refine .inl ⟨rfl, ?_⟩
          clear hs hd hx
          go_simp
          exact ⟨Ext.refl _ _, rfl⟩
        · intro a' w' hx hs hd
          obtain ⟨y, rfl⟩ := hx.ew
          have e1 : a'.tmps[1]?.getD undef = _ := hs 1 rfl
          simp only [List.getElem?_toArray, List.getElem?_cons_succ, List.getElem?_cons_zero, Option.getD_some, Array.getElem?_eq_some_iff] at e1
          refine .inl ⟨rfl, ?_⟩
          clear hs hd hx
          go_simp
          exact ⟨Ext.refl _ _, rfl⟩
        · intro a' w' hx hs hd
          obtain ⟨y, rfl⟩ := hx.ew
          have e76 : a'.tmps[76]?.getD undef = _ := hd 1 76 rfl rfl
          refine .inl ⟨rfl, ?_⟩
          clear hs hd hx
          go_simp
          exact (HLG1.out _ (by (repeat (first | with_reducible (first | exact Ext.refl _ _ | assumption | refine Ext.upN ?_ | refine Ext.alloc ?_ _ | refine Ext.drew ?_ | refine Ext.drewN ?_ _ | refine Ext.up1N (by first | omega | simp) ?_) | refine Ext.alloc ?_ _ | refine Ext.setCell ?_ (.inr (by first | omega | simp)) _)))).mono (fun e w'' ⟨ra, rc, he, hR, hx⟩ => ⟨_, he, hx, ra, rc, rfl, hR⟩)
        · intro a' w' hx hs hd
          obtain ⟨y, rfl⟩ := hx.ew
          have e5 : a'.tmps[5]?.getD undef = _ := hs 5 rfl
          simp only [List.getElem?_toArray, List.getElem?_cons_succ, List.getElem?_cons_zero, Option.getD_some, Array.getElem?_eq_some_iff] at e5
          refine .inl ⟨rfl, ?_⟩
          clear hs hd hx
          go_simp
          exact ⟨Ext.refl _ _, rfl⟩
        · intro a' w' hx hs hd
          obtain ⟨y, rfl⟩ := hx.ew
          have e78 : a'.tmps[78]?.getD undef = _ := hd 3 78 rfl rfl
          refine .inl ⟨rfl, ?_⟩
          clear hs hd hx
          go_simp
          exact ⟨Ext.refl _ _, rfl⟩
        · intro a' w' hx hs hd
          obtain ⟨y, rfl⟩ := hx.ew
          have e75 : a'.tmps[75]?.getD undef = _ := hd 0 75 rfl rfl
          obtain ⟨ra, rc, e77, hR⟩ : ∃ ra rc, a'.tmps[77]?.getD undef = .slice ra lr.length rc ∧ Reqs y.on ra rc lr := hd 2 77 rfl rfl
          have e79 : a'.tmps[79]?.getD undef = _ := hd 4 79 rfl rfl
          refine .inl ⟨rfl, ?_⟩
          clear hs hd hx
          go_simp
          exact (CCF2.out _ _ _ (by (repeat (first | with_reducible (first | exact Ext.refl _ _ | assumption | refine Ext.upN ?_ | refine Ext.alloc ?_ _ | refine Ext.drew ?_ | refine Ext.drewN ?_ _ | refine Ext.up1N (by first | omega | simp) ?_) | refine Ext.alloc ?_ _ | refine Ext.setCell ?_ (.inr (by first | omega | simp)) _))) hR).mono (fun e w'' ⟨a', c', he, hI, hx⟩ => ⟨_, he, hx, a', c', rfl, hI⟩)
        · intro a' w' hx hs hd
          obtain ⟨y, rfl⟩ := hx.ew
          obtain ⟨a5, c5, e80, hI5⟩ : ∃ a cap, a'.tmps[80]?.getD undef = .tuple #[.agg #[.int .i64 ce, .slice a ym.length cap], .bool cb] ∧ Ints y.on a cap ym := hd 5 80 rfl rfl
          refine .inl ⟨rfl, ?_⟩
          clear hs hd hx
          go_simp
          exact ⟨Ext.refl _ _, a5, c5, rfl, hI5⟩
        · intro a' w' hx hs hd
          obtain ⟨y, rfl⟩ := hx.ew
          obtain ⟨a6, c6, e74, hI6⟩ : ∃ a cap, a'.tmps[74]?.getD undef = .tuple #[.agg #[.int .i64 ce, .slice a ym.length cap], .bool cb] ∧ Ints y.on a cap ym := hd 6 74 rfl rfl
          refine .inl ⟨rfl, ?_⟩
          clear hs hd hx
          go_simp
          exact ⟨Ext.refl _ _, a6, c6, rfl, hI6⟩
        · intro a' w' hx hs hd
          obtain ⟨y, rfl⟩ := hx.ew
          obtain ⟨a6, c6, e74, hI6⟩ : ∃ a cap, a'.tmps[74]?.getD undef = .tuple #[.agg #[.int .i64 ce, .slice a ym.length cap], .bool cb] ∧ Ints y.on a cap ym := hd 6 74 rfl rfl
          refine .inl ⟨rfl, ?_⟩
          clear hs hd hx
          go_simp
          exact ⟨Ext.refl _ _, rfl⟩
        · intro a' w' hx hs hd
          obtain ⟨y, rfl⟩ := hx.ew
          refine .inl ⟨rfl, ?_⟩
          clear hs hd hx
          go_simp
          exact ⟨(Ext.refl _ _).alloc _, _, rfl, y.ext.size, Bx.newAt _ _ _ _ rfl⟩
      case' q4 =>
        intro vs w' hx hRR
        obtain ⟨x8, rfl⟩ := hx.ew
        have q0 : vs 0 = _ := hRR 0 (by decide)
        have q1 : vs 1 = _ := hRR 1 (by decide)
        obtain ⟨ra, rc, q2, hR⟩ : ∃ ra rc, vs 2 = .slice ra lr.length rc ∧ Reqs x8.on ra rc lr := hRR 2 (by decide)
        have q3 : vs 3 = _ := hRR 3 (by decide)
        have q4 : vs 4 = _ := hRR 4 (by decide)
        obtain ⟨a5, c5, q5, hI5⟩ : ∃ a cap, vs 5 = .tuple #[.agg #[.int .i64 ce, .slice a ym.length cap], .bool cb] ∧ Ints x8.on a cap ym := hRR 5 (by decide)
        obtain ⟨a6, c6, q6, hI6⟩ : ∃ a cap, vs 6 = .tuple #[.agg #[.int .i64 ce, .slice a ym.length cap], .bool cb] ∧ Ints x8.on a cap ym := hRR 6 (by decide)
        obtain ⟨a7, c7, q7, hI7⟩ : ∃ a cap, vs 7 = .agg #[.int .i64 ce, .slice a ym.length cap] ∧ Ints x8.on a cap ym := hRR 7 (by decide)
        have q8 : vs 8 = _ := hRR 8 (by decide)
        obtain ⟨g9, q9, hg9, hB9⟩ : ∃ g, vs 9 = .pointer (some ⟨g, 0, none⟩) ∧ y1.on.heap.size ≤ g ∧ Bx x8.on g [.int .i64 0, .slice none 0 0] 24 := hRR 9 (by decide)
        clear hRR hx
        simp only [putAll, List.take_succ_cons, List.take_zero, List.drop_succ_cons, List.drop_zero, Act.put, List.setIfInBounds_toArray, List.set_cons_zero, List.set_cons_succ, Nat.reduceAdd, Nat.zero_add]
        simp only [q0, q1, q2, q3, q4, q5, q6, q7, q8, q9]
        clear q0 q1 q2 q3 q4 q5 q6 q7 q8 q9 vs
      case' l4 =>
        intro vs w' hx hRR hpp
        obtain ⟨x8, rfl⟩ := hx.ew
        have q0 : vs 0 = _ := hRR 0 (by decide) (by decide)
        have q1 : vs 1 = _ := hRR 1 (by decide) (by decide)
        obtain ⟨ra, rc, q2, hR⟩ : ∃ ra rc, vs 2 = .slice ra lr.length rc ∧ Reqs x8.on ra rc lr := hRR 2 (by decide) (by decide)
        have q3 : vs 3 = _ := hRR 3 (by decide) (by decide)
        have q4 : vs 4 = _ := hRR 4 (by decide) (by decide)
        obtain ⟨a5, c5, q5, hI5⟩ : ∃ a cap, vs 5 = .tuple #[.agg #[.int .i64 ce, .slice a ym.length cap], .bool cb] ∧ Ints x8.on a cap ym := hRR 5 (by decide) (by decide)
        obtain ⟨a6, c6, q6, hI6⟩ : ∃ a cap, vs 6 = .tuple #[.agg #[.int .i64 ce, .slice a ym.length cap], .bool cb] ∧ Ints x8.on a cap ym := hRR 6 (by decide) (by decide)
        obtain ⟨a7, c7, q7, hI7⟩ : ∃ a cap, vs 7 = .agg #[.int .i64 ce, .slice a ym.length cap] ∧ Ints x8.on a cap ym := hRR 7 (by decide) (by decide)
        have q8 : vs 8 = _ := hpp 82 rfl
        simp only [List.getElem?_toArray, List.getElem?_cons_succ, List.getElem?_cons_zero, Option.getD_some, Array.getElem?_eq_some_iff] at q8
        obtain ⟨g9, q9, hg9, hB9⟩ : ∃ g, vs 9 = .pointer (some ⟨g, 0, none⟩) ∧ y1.on.heap.size ≤ g ∧ Bx x8.on g [.int .i64 0, .slice none 0 0] 24 := hRR 9 (by decide) (by decide)
        clear hRR hx hpp
        simp only [List.cons_append, List.nil_append, putAll, List.take_succ_cons, List.take_zero, List.drop_succ_cons, List.drop_zero, Act.put, List.setIfInBounds_toArray, List.set_cons_zero, List.set_cons_succ, Nat.reduceAdd, Nat.zero_add]
        simp only [q0, q1, q2, q3, q4, q5, q6, q7, q8, q9]
        clear q0 q1 q2 q3 q4 q5 q6 q7 q8 q9 vs
      all_goals
        have HI2c := Go.Lib.hid hI7
        have HB9 := Go.Lib.hid hB9
        have hg9w : w1.heap.size ≤ g9 := Nat.le_trans y1.ext.size hg9
        clear hR hI5 hI6 hI7 hB9
        go_wp2_with (refine wpList_store_box rfl 24 _ _ rfl g9 _ [.int .i64 ce, .slice a7 ym.length c7] _ rfl rfl HB9.out rfl info_confS (by simp [Value.oneCell']) (fun W hB => ?_); have BK2 := Go.Lib.hid hB; clear hB)
        go_meet
        exact ⟨g9, a7, c7, ⟨_, by (repeat (first | with_reducible (first | exact Ext.refl _ _ | assumption | refine Ext.upN ?_ | refine Ext.alloc ?_ _ | refine Ext.drew ?_ | refine Ext.drewN ?_ _ | refine Ext.up1N (by first | omega | simp) ?_) | refine Ext.alloc ?_ _ | refine Ext.setCell ?_ (.inr (by first | omega | simp)) _))⟩, rfl, rfl, rfl, BK2, Go.Lib.hid (ints_box HI2c.out HB9.out W.ext HYL.out)⟩
    obtain ⟨kc2, a7, c7, z8, rfl, rfl, rfl, BK2', HI2d'⟩ := hcut
    have BK1b := Go.Lib.hid (BK1.out.extN z8.ext)
    have HI1e := Go.Lib.hid (HI1d.out.extN z8.ext)
    obtain ⟨y2, hy2⟩ := (y1.ext.trans z8.ext).ew
    have BK2 := Go.Lib.hid BK2'.out
    have HI2d := Go.Lib.hid HI2d'.out
    clear BK2' HI2d'
    rw [hy2] at BK1b HI1e HI2d BK2 ⊢
    clear hy2 HI1d BK1
    clear z8
    clear y1
    go_wp2_with fail
    refine Calls.ew (CRQ.out _) ?_
    rintro e x9 rfl
    go_wp2_with fail
    refine Calls.ew (COC.out _ (by (repeat (first | with_reducible (first | exact Ext.refl _ _ | assumption | refine Ext.upN ?_ | refine Ext.alloc ?_ _ | refine Ext.drew ?_ | refine Ext.drewN ?_ _ | refine Ext.up1N (by first | omega | simp) ?_) | refine Ext.alloc ?_ _ | refine Ext.setCell ?_ (.inr (by first | omega | simp)) _)))) ?_
    rintro e x10 rfl
    go_upto_region 13 with (refine wpList_store_box rfl 47 _ _ rfl x10.on.heap.size _ [.int .i64 ocd, .float .f64 orl] _ rfl rfl (Bx.newAt _ _ _ _ rfl) rfl info_res2 (by simp [Value.oneCell']) (fun W hB => ?_); have BR1 := Go.Lib.hid hB; clear hB)
    have XW : Ext Non x10.on W.on := by (repeat (first | with_reducible (first | exact Ext.refl _ _ | assumption | refine Ext.upN ?_ | refine Ext.alloc ?_ _ | refine Ext.drew ?_ | refine Ext.drewN ?_ _ | refine Ext.up1N (by first | omega | simp) ?_) | refine Ext.alloc ?_ _ | refine Ext.setCell ?_ (.inr (by first | omega | simp)) _))
    have BK1c := Go.Lib.hid (BK1b.out.extN ((by (repeat (first | with_reducible (first | exact Ext.refl _ _ | assumption | refine Ext.upN ?_ | refine Ext.alloc ?_ _ | refine Ext.drew ?_ | refine Ext.drewN ?_ _ | refine Ext.up1N (by first | omega | simp) ?_) | refine Ext.alloc ?_ _ | refine Ext.setCell ?_ (.inr (by first | omega | simp)) _)) : Ext Non y2.on x10.on).trans XW))
    have BK2c := Go.Lib.hid (BK2.out.extN ((by (repeat (first | with_reducible (first | exact Ext.refl _ _ | assumption | refine Ext.upN ?_ | refine Ext.alloc ?_ _ | refine Ext.drew ?_ | refine Ext.drewN ?_ _ | refine Ext.up1N (by first | omega | simp) ?_) | refine Ext.alloc ?_ _ | refine Ext.setCell ?_ (.inr (by first | omega | simp)) _)) : Ext Non y2.on x10.on).trans XW))
    have HI1f := Go.Lib.hid (HI1e.out.extN ((by (repeat (first | with_reducible (first | exact Ext.refl _ _ | assumption | refine Ext.upN ?_ | refine Ext.alloc ?_ _ | refine Ext.drew ?_ | refine Ext.drewN ?_ _ | refine Ext.up1N (by first | omega | simp) ?_) | refine Ext.alloc ?_ _ | refine Ext.setCell ?_ (.inr (by first | omega | simp)) _)) : Ext Non y2.on x10.on).trans XW))
    have HI2f := Go.Lib.hid (HI2d.out.extN ((by (repeat (first | with_reducible (first | exact Ext.refl _ _ | assumption | refine Ext.upN ?_ | refine Ext.alloc ?_ _ | refine Ext.drew ?_ | refine Ext.drewN ?_ _ | refine Ext.up1N (by first | omega | simp) ?_) | refine Ext.alloc ?_ _ | refine Ext.setCell ?_ (.inr (by first | omega | simp)) _)) : Ext Non y2.on x10.on).trans XW))
    have XW1 : Ext Non w1 W.on := (by (repeat (first | with_reducible (first | exact Ext.refl _ _ | assumption | refine Ext.upN ?_ | refine Ext.alloc ?_ _ | refine Ext.drew ?_ | refine Ext.drewN ?_ _ | refine Ext.up1N (by first | omega | simp) ?_) | refine Ext.alloc ?_ _ | refine Ext.setCell ?_ (.inr (by first | omega | simp)) _)) : Ext Non w1 x10.on).trans XW
    obtain ⟨y3, hy3⟩ := XW1.ew
    rw [hy3] at BK1c BK2c HI1f HI2f BR1 ⊢
    clear HI1e HI2d BK1b BK2 hy3 XW1 XW W
    try simp only [Act.put]
    generalize x10.on.heap.size = kr1 at *
    clear x10 x9 y2
    go_upto_region 13 with fail
    go_cut [20, 21, 22] (fun v20 v21 v22 wx => ∃ (g : Nat) (z : EW Non y3.on), v20 = .int .i64 om ∧ v21 = .pointer (some ⟨g, 0, none⟩) ∧ v22 = .bool ob ∧ wx = z.on ∧ Hid (Bx wx g [.int .i64 ocd, .float .f64 orl] 47))
    case first =>
      apply wp_region_rel_late 13 10 (relR [Mo.is _, Mo.is _, moLog lr, Mo.is _, Mo.is _, Mo.is _, Mo.is _, Mo.is _, Mo.is _, Mo.is _, Mo.is _, moBx y3.on.heap.size [.int .i64 0, .float .f64 0] 47, Mo.is _]) (by kernel_rfl) (by kernel_rfl) (by kernel_rfl) (by kernel_rfl) (by kernel_rfl) (by decide) (by decide) (by kernel_rfl) (by kernel_rfl) (by kernel_rfl) (relR_mono _) (StepD.all ?st5) ?q5 ?l5
      case st5 =>
        refine ⟨?_, ?_, ?_, ?_, ?_, ?_, ?_, ?_, ?_, ?_, ?_, ?_, ?_, trivial⟩
        · intro a' w' hx hs hd
          obtain ⟨y, rfl⟩ := hx.ew
          have e3 : a'.tmps[3]?.getD undef = _ := hs 3 rfl
          simp only [List.getElem?_toArray, List.getElem?_cons_succ, List.getElem?_cons_zero, Option.getD_some, Array.getElem?_eq_some_iff] at e3
          refine .inl ⟨rfl, ?_⟩
          clear hs hd hx
          go_simp
          exact ⟨Ext.refl _ _, rfl⟩
        · intro a' w' hx hs hd
          obtain ⟨y, rfl⟩ := hx.ew
          have e1 : a'.tmps[1]?.getD undef = _ := hs 1 rfl
          simp only [List.getElem?_toArray, List.getElem?_cons_succ, List.getElem?_cons_zero, Option.getD_some, Array.getElem?_eq_some_iff] at e1
          refine .inl ⟨rfl, ?_⟩
          clear hs hd hx
          go_simp
          exact ⟨Ext.refl _ _, rfl⟩
        · intro a' w' hx hs hd
          obtain ⟨y, rfl⟩ := hx.ew
          have e94 : a'.tmps[94]?.getD undef = _ := hd 1 94 rfl rfl
          refine .inl ⟨rfl, ?_⟩
          clear hs hd hx
          go_simp
          exact (HLG1.out _ (by (repeat (first | with_reducible (first | exact Ext.refl _ _ | assumption | refine Ext.upN ?_ | refine Ext.alloc ?_ _ | refine Ext.drew ?_ | refine Ext.drewN ?_ _ | refine Ext.up1N (by first | omega | simp) ?_) | refine Ext.alloc ?_ _ | refine Ext.setCell ?_ (.inr (by first | omega | simp)) _)))).mono (fun e w'' ⟨ra, rc, he, hR, hx⟩ => ⟨_, he, hx, ra, rc, rfl, hR⟩)
        · intro a' w' hx hs hd
          obtain ⟨y, rfl⟩ := hx.ew
          have e5 : a'.tmps[5]?.getD undef = _ := hs 5 rfl
          simp only [List.getElem?_toArray, List.getElem?_cons_succ, List.getElem?_cons_zero, Option.getD_some, Array.getElem?_eq_some_iff] at e5
          refine .inl ⟨rfl, ?_⟩
          clear hs hd hx
          go_simp
          exact ⟨Ext.refl _ _, rfl⟩
        · intro a' w' hx hs hd
          obtain ⟨y, rfl⟩ := hx.ew
          have e96 : a'.tmps[96]?.getD undef = _ := hd 3 96 rfl rfl
          refine .inl ⟨rfl, ?_⟩
          clear hs hd hx
          go_simp
          exact ⟨Ext.refl _ _, rfl⟩
        · intro a' w' hx hs hd
          obtain ⟨y, rfl⟩ := hx.ew
          have e97 : a'.tmps[97]?.getD undef = _ := hd 4 97 rfl rfl
          refine .inl ⟨rfl, ?_⟩
          clear hs hd hx
          go_simp
          exact (CRQ.out _).mono (fun e w'' ⟨he, hx⟩ => ⟨_, he, hx, rfl⟩)
        · intro a' w' hx hs hd
          obtain ⟨y, rfl⟩ := hx.ew
          have e93 : a'.tmps[93]?.getD undef = _ := hd 0 93 rfl rfl
          obtain ⟨ra, rc, e95, hR⟩ : ∃ ra rc, a'.tmps[95]?.getD undef = .slice ra lr.length rc ∧ Reqs y.on ra rc lr := hd 2 95 rfl rfl
          have e98 : a'.tmps[98]?.getD undef = _ := hd 5 98 rfl rfl
          refine .inl ⟨rfl, ?_⟩
          clear hs hd hx
          go_simp
          exact (COC2.out _ _ _ (by (repeat (first | with_reducible (first | exact Ext.refl _ _ | assumption | refine Ext.upN ?_ | refine Ext.alloc ?_ _ | refine Ext.drew ?_ | refine Ext.drewN ?_ _ | refine Ext.up1N (by first | omega | simp) ?_) | refine Ext.alloc ?_ _ | refine Ext.setCell ?_ (.inr (by first | omega | simp)) _))) hR).mono (fun e w'' ⟨he, hx⟩ => ⟨_, he, hx, rfl⟩)
        · intro a' w' hx hs hd
          obtain ⟨y, rfl⟩ := hx.ew
          have e99 : a'.tmps[99]?.getD undef = _ := hd 6 99 rfl rfl
          refine .inl ⟨rfl, ?_⟩
          clear hs hd hx
          go_simp
          exact ⟨Ext.refl _ _, rfl⟩
        · intro a' w' hx hs hd
          obtain ⟨y, rfl⟩ := hx.ew
          have e92 : a'.tmps[92]?.getD undef = _ := hd 7 92 rfl rfl
          refine .inl ⟨rfl, ?_⟩
          clear hs hd hx
          go_simp
          exact ⟨Ext.refl _ _, rfl⟩
        · intro a' w' hx hs hd
          obtain ⟨y, rfl⟩ := hx.ew
          have e92 : a'.tmps[92]?.getD undef = _ := hd 7 92 rfl rfl
          refine .inl ⟨rfl, ?_⟩
          clear hs hd hx
          go_simp
          exact ⟨Ext.refl _ _, rfl⟩
        · intro a' w' hx hs hd
          obtain ⟨y, rfl⟩ := hx.ew
          have e92 : a'.tmps[92]?.getD undef = _ := hd 7 92 rfl rfl
          refine .inl ⟨rfl, ?_⟩
          clear hs hd hx
          go_simp
          exact ⟨Ext.refl _ _, rfl⟩
        · intro a' w' hx hs hd
          obtain ⟨y, rfl⟩ := hx.ew
          refine .inl ⟨rfl, ?_⟩
          clear hs hd hx
          go_simp
          exact ⟨(Ext.refl _ _).alloc _, _, rfl, y.ext.size, Bx.newAt _ _ _ _ rfl⟩
        · intro a' w' hx hs hd
          obtain ⟨y, rfl⟩ := hx.ew
          have e100 : a'.tmps[100]?.getD undef = _ := hd 8 100 rfl rfl
          refine .inl ⟨rfl, ?_⟩
          clear hs hd hx
          go_simp
          exact ⟨Ext.refl _ _, rfl⟩
      case' q5 =>
        intro vs w' hx hRR
        obtain ⟨x12, rfl⟩ := hx.ew
        have q0 : vs 0 = _ := hRR 0 (by decide)
        have q1 : vs 1 = _ := hRR 1 (by decide)
        obtain ⟨ra, rc, q2, hR⟩ : ∃ ra rc, vs 2 = .slice ra lr.length rc ∧ Reqs x12.on ra rc lr := hRR 2 (by decide)
        have q3 : vs 3 = _ := hRR 3 (by decide)
        have q4 : vs 4 = _ := hRR 4 (by decide)
        have q5 : vs 5 = _ := hRR 5 (by decide)
        have q6 : vs 6 = _ := hRR 6 (by decide)
        have q7 : vs 7 = _ := hRR 7 (by decide)
        have q8 : vs 8 = _ := hRR 8 (by decide)
        have q9 : vs 9 = _ := hRR 9 (by decide)
        have q10 : vs 10 = _ := hRR 10 (by decide)
        obtain ⟨g11, q11, hg11, hB11⟩ : ∃ g, vs 11 = .pointer (some ⟨g, 0, none⟩) ∧ y3.on.heap.size ≤ g ∧ Bx x12.on g [.int .i64 0, .float .f64 0] 47 := hRR 11 (by decide)
        have q12 : vs 12 = _ := hRR 12 (by decide)
        clear hRR hx
        simp only [putAll, List.take_succ_cons, List.take_zero, List.drop_succ_cons, List.drop_zero, Act.put, List.setIfInBounds_toArray, List.set_cons_zero, List.set_cons_succ, Nat.reduceAdd, Nat.zero_add]
        simp only [q0, q1, q2, q3, q4, q5, q6, q7, q8, q9, q10, q11, q12]
        clear q0 q1 q2 q3 q4 q5 q6 q7 q8 q9 q10 q11 q12 vs
      case' l5 =>
        intro vs w' hx hRR hpp
        obtain ⟨x12, rfl⟩ := hx.ew
        have q0 : vs 0 = _ := hRR 0 (by decide) (by decide)
        have q1 : vs 1 = _ := hRR 1 (by decide) (by decide)
        obtain ⟨ra, rc, q2, hR⟩ : ∃ ra rc, vs 2 = .slice ra lr.length rc ∧ Reqs x12.on ra rc lr := hRR 2 (by decide) (by decide)
        have q3 : vs 3 = _ := hRR 3 (by decide) (by decide)
        have q4 : vs 4 = _ := hRR 4 (by decide) (by decide)
        have q5 : vs 5 = _ := hRR 5 (by decide) (by decide)
        have q6 : vs 6 = _ := hRR 6 (by decide) (by decide)
        have q7 : vs 7 = _ := hRR 7 (by decide) (by decide)
        have q8 : vs 8 = _ := hRR 8 (by decide) (by decide)
        have q9 : vs 9 = _ := hRR 9 (by decide) (by decide)
        have q10 : vs 10 = _ := hpp 102 rfl
        simp only [List.getElem?_toArray, List.getElem?_cons_succ, List.getElem?_cons_zero, Option.getD_some, Array.getElem?_eq_some_iff] at q10
        obtain ⟨g11, q11, hg11, hB11⟩ : ∃ g, vs 11 = .pointer (some ⟨g, 0, none⟩) ∧ y3.on.heap.size ≤ g ∧ Bx x12.on g [.int .i64 0, .float .f64 0] 47 := hRR 11 (by decide) (by decide)
        have q12 : vs 12 = _ := hRR 12 (by decide) (by decide)
        clear hRR hx hpp
        simp only [List.cons_append, List.nil_append, putAll, List.take_succ_cons, List.take_zero, List.drop_succ_cons, List.drop_zero, Act.put, List.setIfInBounds_toArray, List.set_cons_zero, List.set_cons_succ, Nat.reduceAdd, Nat.zero_add]
        simp only [q0, q1, q2, q3, q4, q5, q6, q7, q8, q9, q10, q11, q12]
        clear q0 q1 q2 q3 q4 q5 q6 q7 q8 q9 q10 q11 q12 vs
      all_goals
        have HB11 := Go.Lib.hid hB11
        have hg11w : w1.heap.size ≤ g11 := Nat.le_trans y3.ext.size hg11
        clear hR hB11
        go_wp2_with (refine wpList_store_box rfl 47 _ _ rfl g11 _ [.int .i64 ocd, .float .f64 orl] _ rfl rfl HB11.out rfl info_res2 (by simp [Value.oneCell']) (fun W hB => ?_); have BR2 := Go.Lib.hid hB; clear hB)
        go_meet
        exact ⟨g11, ⟨_, by (repeat (first | with_reducible (first | exact Ext.refl _ _ | assumption | refine Ext.upN ?_ | refine Ext.alloc ?_ _ | refine Ext.drew ?_ | refine Ext.drewN ?_ _ | refine Ext.up1N (by first | omega | simp) ?_) | refine Ext.alloc ?_ _ | refine Ext.setCell ?_ (.inr (by first | omega | simp)) _))⟩, rfl, rfl, rfl, rfl, BR2⟩
    obtain ⟨kr2, z12, rfl, rfl, rfl, rfl, BR2'⟩ := hcut
    have BK1d := Go.Lib.hid (BK1c.out.extN z12.ext)
    have BK2d := Go.Lib.hid (BK2c.out.extN z12.ext)
    have HI1g := Go.Lib.hid (HI1f.out.extN z12.ext)
    have HI2g := Go.Lib.hid (HI2f.out.extN z12.ext)
    have BR1b := Go.Lib.hid (BR1.out.extN z12.ext)
    obtain ⟨y4, hy4⟩ := (y3.ext.trans z12.ext).ew
    have BR2 := Go.Lib.hid BR2'.out
    clear BR2'
    rw [hy4] at BK1d BK2d HI1g HI2g BR1b BR2 ⊢
    clear hy4 HI1f HI2f BK1c BK2c BR1
    clear z12
    clear y3
    have c0 : y4.on.cell? ⟨kc1, 0, none⟩ = some (.int .i64 ce) := BK1d.out.cell rfl
    have c1 : y4.on.cell? ⟨kc1, 1, none⟩ = some (.slice ca1 ym.length cc1) := BK1d.out.cell rfl
    have d0 : y4.on.cell? ⟨kc2, 0, none⟩ = some (.int .i64 ce) := BK2d.out.cell rfl
    have d1 : y4.on.cell? ⟨kc2, 1, none⟩ = some (.slice a7 ym.length c7) := BK2d.out.cell rfl
    have r0 : y4.on.cell? ⟨kr1, 0, none⟩ = some (.int .i64 ocd) := BR1b.out.cell rfl
    have r1 : y4.on.cell? ⟨kr1, 1, none⟩ = some (.float .f64 orl) := BR1b.out.cell rfl
    have p0 : y4.on.cell? ⟨kr2, 0, none⟩ = some (.int .i64 ocd) := BR2.out.cell rfl
    have p1 : y4.on.cell? ⟨kr2, 1, none⟩ = some (.float .f64 orl) := BR2.out.cell rfl
    have g9 : y4.on.cell? ⟨kq, 9, none⟩ = some (.slice ba bad.length bc) := (y4.ext.cell (lt_of_cell q9) (fun f => f)).trans q9
    have m0 : y4.on.cell? ⟨kb, 0, none⟩ = some (.int .i64 0) := (y4.ext.cell (lt_of_cell b0) (fun f => f)).trans b0
    have m1 : y4.on.cell? ⟨kb, 1, none⟩ = some (.slice a xs.length cap) := (y4.ext.cell (lt_of_cell b1) (fun f => f)).trans b1
    have HX4 := Go.Lib.hid (XX.out.trans y4.ext)
    have CLN4 := Go.Lib.hid (fun w' (x : Ext Non y4.on w') => CLN.out w' (y4.ext.trans x))
    have CSD4 := Go.Lib.hid (fun w' (x : Ext Non y4.on w') => CSD.out w' (y4.ext.trans x))
    have CSE4 := Go.Lib.hid (fun w' la lc (x : Ext Non y4.on w') => CSD2.out w' la lc (y4.ext.trans x))
    have HLG4 := Go.Lib.hid (fun w' (x : Ext Non y4.on w') => HLG1.out w' (y4.ext.trans x))
    clear b0 b1 q0 q1 q2 q3 q4 q5 q6 q7 q8 q9 XX HS HB1 BC BQ2 CLN CSD CSD2 HLG1 CST CST2 CCF CCF2 CRT CRQ COC COC2
    generalize y4.on = w4 at *
    go_upto_region 14 with fail
    apply wp_region_rel (relR [Mo.is _, Mo.is _, Mo.is _, Mo.is _, Mo.is _, Mo.is _, Mo.is _, Mo.is _, Mo.is _, Mo.is _, Mo.is _, Mo.is _, Mo.is _, Mo.is _, Mo.is _, Mo.is _, Mo.is _, Mo.is _, Mo.is _, Mo.is _, Mo.is _, Mo.is _, Mo.is _, Mo.is _, Mo.is _, Mo.is _, Mo.is _, Mo.is _, Mo.is _, Mo.is _, Mo.is _, Mo.is _, Mo.is _, Mo.is _, Mo.is _, Mo.is _, Mo.is _, Mo.is _, Mo.is _, Mo.is _, Mo.is _, Mo.is _, Mo.is _, Mo.is _, Mo.is _, Mo.is _, Mo.is _, moLog lr, Mo.is _, Mo.is _, Mo.is _, Mo.is _, Mo.is _, Mo.is _]) (by kernel_rfl) (by kernel_rfl) (by kernel_rfl) (relR_mono _) (StepD.all ?st6) ?q6
    case st6 =>
      refine ⟨?_, ?_, ?_, ?_, ?_, ?_, ?_, ?_, ?_, ?_, ?_, ?_, ?_, ?_, ?_, ?_, ?_, ?_, ?_, ?_, ?_, ?_, ?_, ?_, ?_, ?_, ?_, ?_, ?_, ?_, ?_, ?_, ?_, ?_, ?_, ?_, ?_, ?_, ?_, ?_, ?_, ?_, ?_, ?_, ?_, ?_, ?_, ?_, ?_, ?_, ?_, ?_, ?_, ?_, trivial⟩
      · intro a' w' hx hs hd
        obtain ⟨y, rfl⟩ := hx.ew
        have e7 : a'.tmps[7]?.getD undef = _ := hs 7 rfl
        simp only [List.getElem?_toArray, List.getElem?_cons_succ, List.getElem?_cons_zero, Option.getD_some, Array.getElem?_eq_some_iff] at e7
        refine .inl ⟨rfl, ?_⟩
        clear hs hd hx
        go_simp
        exact ⟨Ext.refl _ _, rfl⟩
      · intro a' w' hx hs hd
        obtain ⟨y, rfl⟩ := hx.ew
        have e103 : a'.tmps[103]?.getD undef = _ := hd 0 103 rfl rfl
        refine .inl ⟨rfl, ?_⟩
        clear hs hd hx
        go_simp
        exact (CLN4.out _ (by (repeat (first | with_reducible (first | exact Ext.refl _ _ | assumption | refine Ext.upN ?_ | refine Ext.alloc ?_ _ | refine Ext.drew ?_ | refine Ext.drewN ?_ _ | refine Ext.up1N (by first | omega | simp) ?_) | refine Ext.alloc ?_ _ | refine Ext.setCell ?_ (.inr (by first | omega | simp)) _)))).mono (fun e w'' ⟨he, hx⟩ => ⟨_, he, hx, rfl⟩)
      · intro a' w' hx hs hd
        obtain ⟨y, rfl⟩ := hx.ew
        have e1 : a'.tmps[1]?.getD undef = _ := hs 1 rfl
        simp only [List.getElem?_toArray, List.getElem?_cons_succ, List.getElem?_cons_zero, Option.getD_some, Array.getElem?_eq_some_iff] at e1
        refine .inl ⟨rfl, ?_⟩
        clear hs hd hx
        go_simp
        exact ⟨Ext.refl _ _, rfl⟩
      · intro a' w' hx hs hd
        obtain ⟨y, rfl⟩ := hx.ew
        have e105 : a'.tmps[105]?.getD undef = _ := hd 2 105 rfl rfl
        refine .inl ⟨rfl, ?_⟩
        clear hs hd hx
        go_simp
        exact ⟨Ext.refl _ _, rfl⟩
      · intro a' w' hx hs hd
        obtain ⟨y, rfl⟩ := hx.ew
        have e104 : a'.tmps[104]?.getD undef = _ := hd 1 104 rfl rfl
        have e106 : a'.tmps[106]?.getD undef = _ := hd 3 106 rfl rfl
        refine .inl ⟨rfl, ?_⟩
        clear hs hd hx
        go_simp
        exact ⟨Ext.refl _ _, rfl⟩
      · intro a' w' hx hs hd
        obtain ⟨y, rfl⟩ := hx.ew
        have e107 : a'.tmps[107]?.getD undef = _ := hd 4 107 rfl rfl
        refine .inl ⟨rfl, ?_⟩
        clear hs hd hx
        go_simp
        exact ⟨Ext.refl _ _, rfl⟩
      · intro a' w' hx hs hd
        obtain ⟨y, rfl⟩ := hx.ew
        have eg : a'.tmps[108]?.getD undef = _ := hd 5 108 rfl rfl
        first
        | (refine .inr ⟨unwanted_of (j := 5) (d := 108) rfl rfl eg (by rfl), ?_⟩; exact (rfl : (Mo.is undef).p undef y.on))
        | (refine .inr ⟨unwanted_und (j := 5) (d := 108) rfl rfl eg, ?_⟩; exact (rfl : (Mo.is undef).p undef y.on))
        | (have e9 : a'.tmps[9]?.getD undef = _ := hs 9 rfl; simp only [List.getElem?_toArray, List.getElem?_cons_succ, List.getElem?_cons_zero, Option.getD_some, Array.getElem?_eq_some_iff] at e9; refine .inl ⟨wanted_of (j := 5) (d := 108) rfl rfl eg, ?_⟩; clear hs hd hx eg; go_simp; exact ⟨Ext.refl _ _, rfl⟩)
      · intro a' w' hx hs hd
        obtain ⟨y, rfl⟩ := hx.ew
        have eg : a'.tmps[108]?.getD undef = _ := hd 5 108 rfl rfl
        first
        | (refine .inr ⟨unwanted_of (j := 5) (d := 108) rfl rfl eg (by rfl), ?_⟩; exact (rfl : (Mo.is undef).p undef y.on))
        | (refine .inr ⟨unwanted_und (j := 5) (d := 108) rfl rfl eg, ?_⟩; exact (rfl : (Mo.is undef).p undef y.on))
        | (have e11 : a'.tmps[11]?.getD undef = _ := hs 11 rfl; simp only [List.getElem?_toArray, List.getElem?_cons_succ, List.getElem?_cons_zero, Option.getD_some, Array.getElem?_eq_some_iff] at e11; refine .inl ⟨wanted_of (j := 5) (d := 108) rfl rfl eg, ?_⟩; clear hs hd hx eg; go_simp; exact ⟨Ext.refl _ _, rfl⟩)
      · intro a' w' hx hs hd
        obtain ⟨y, rfl⟩ := hx.ew
        have eg : a'.tmps[108]?.getD undef = _ := hd 5 108 rfl rfl
        first
        | (refine .inr ⟨unwanted_of (j := 5) (d := 108) rfl rfl eg (by rfl), ?_⟩; exact (rfl : (Mo.is undef).p undef y.on))
        | (refine .inr ⟨unwanted_und (j := 5) (d := 108) rfl rfl eg, ?_⟩; exact (rfl : (Mo.is undef).p undef y.on))
        | (have e109 : a'.tmps[109]?.getD undef = _ := hd 6 109 rfl rfl; have e110 : a'.tmps[110]?.getD undef = _ := hd 7 110 rfl rfl; refine .inl ⟨wanted_of (j := 5) (d := 108) rfl rfl eg, ?_⟩; clear hs hd hx eg; go_simp; exact ⟨Ext.refl _ _, rfl⟩)
      · intro a' w' hx hs hd
        obtain ⟨y, rfl⟩ := hx.ew
        have e108 : a'.tmps[108]?.getD undef = _ := hd 5 108 rfl rfl
        have e111 : a'.tmps[111]?.getD undef = _ := hd 8 111 rfl rfl
        refine .inl ⟨rfl, ?_⟩
        clear hs hd hx
        go_simp
        exact ⟨Ext.refl _ _, rfl⟩
      · intro a' w' hx hs hd
        obtain ⟨y, rfl⟩ := hx.ew
        have e112 : a'.tmps[112]?.getD undef = _ := hd 9 112 rfl rfl
        refine .inl ⟨rfl, ?_⟩
        clear hs hd hx
        go_simp
        exact ⟨Ext.refl _ _, rfl⟩
      · intro a' w' hx hs hd
        obtain ⟨y, rfl⟩ := hx.ew
        have eg : a'.tmps[113]?.getD undef = _ := hd 10 113 rfl rfl
        first
        | (refine .inr ⟨unwanted_of (j := 10) (d := 113) rfl rfl eg (by rfl), ?_⟩; exact (rfl : (Mo.is undef).p undef y.on))
        | (refine .inr ⟨unwanted_und (j := 10) (d := 113) rfl rfl eg, ?_⟩; exact (rfl : (Mo.is undef).p undef y.on))
        | (have e10 : a'.tmps[10]?.getD undef = _ := hs 10 rfl; simp only [List.getElem?_toArray, List.getElem?_cons_succ, List.getElem?_cons_zero, Option.getD_some, Array.getElem?_eq_some_iff] at e10; refine .inl ⟨wanted_of (j := 10) (d := 113) rfl rfl eg, ?_⟩; clear hs hd hx eg; go_simp; exact ⟨Ext.refl _ _, rfl⟩)
      · intro a' w' hx hs hd
        obtain ⟨y, rfl⟩ := hx.ew
        have eg : a'.tmps[113]?.getD undef = _ := hd 10 113 rfl rfl
        first
        | (refine .inr ⟨unwanted_of (j := 10) (d := 113) rfl rfl eg (by rfl), ?_⟩; exact (rfl : (Mo.is undef).p undef y.on))
        | (refine .inr ⟨unwanted_und (j := 10) (d := 113) rfl rfl eg, ?_⟩; exact (rfl : (Mo.is undef).p undef y.on))
        | (have e12 : a'.tmps[12]?.getD undef = _ := hs 12 rfl; simp only [List.getElem?_toArray, List.getElem?_cons_succ, List.getElem?_cons_zero, Option.getD_some, Array.getElem?_eq_some_iff] at e12; refine .inl ⟨wanted_of (j := 10) (d := 113) rfl rfl eg, ?_⟩; clear hs hd hx eg; go_simp; exact ⟨Ext.refl _ _, rfl⟩)
      · intro a' w' hx hs hd
        obtain ⟨y, rfl⟩ := hx.ew
        have eg : a'.tmps[113]?.getD undef = _ := hd 10 113 rfl rfl
        first
        | (refine .inr ⟨unwanted_of (j := 10) (d := 113) rfl rfl eg (by rfl), ?_⟩; exact (rfl : (Mo.is undef).p undef y.on))
        | (refine .inr ⟨unwanted_und (j := 10) (d := 113) rfl rfl eg, ?_⟩; exact (rfl : (Mo.is undef).p undef y.on))
        | (have e114 : a'.tmps[114]?.getD undef = _ := hd 11 114 rfl rfl; have e115 : a'.tmps[115]?.getD undef = _ := hd 12 115 rfl rfl; refine .inl ⟨wanted_of (j := 10) (d := 113) rfl rfl eg, ?_⟩; clear hs hd hx eg; go_simp; exact ⟨Ext.refl _ _, rfl⟩)
      · intro a' w' hx hs hd
        obtain ⟨y, rfl⟩ := hx.ew
        have e113 : a'.tmps[113]?.getD undef = _ := hd 10 113 rfl rfl
        have e116 : a'.tmps[116]?.getD undef = _ := hd 13 116 rfl rfl
        refine .inl ⟨rfl, ?_⟩
        clear hs hd hx
        go_simp
        exact ⟨Ext.refl _ _, rfl⟩
      · intro a' w' hx hs hd
        obtain ⟨y, rfl⟩ := hx.ew
        have e117 : a'.tmps[117]?.getD undef = _ := hd 14 117 rfl rfl
        refine .inl ⟨rfl, ?_⟩
        clear hs hd hx
        go_simp
        exact ⟨Ext.refl _ _, rfl⟩
      · intro a' w' hx hs hd
        obtain ⟨y, rfl⟩ := hx.ew
        have eg : a'.tmps[118]?.getD undef = _ := hd 15 118 rfl rfl
        first
        | (refine .inr ⟨unwanted_of (j := 15) (d := 118) rfl rfl eg (by rfl), ?_⟩; exact (rfl : (Mo.is undef).p undef y.on))
        | (refine .inr ⟨unwanted_und (j := 15) (d := 118) rfl rfl eg, ?_⟩; exact (rfl : (Mo.is undef).p undef y.on))
        | (have e13 : a'.tmps[13]?.getD undef = _ := hs 13 rfl; simp only [List.getElem?_toArray, List.getElem?_cons_succ, List.getElem?_cons_zero, Option.getD_some, Array.getElem?_eq_some_iff] at e13; refine .inl ⟨wanted_of (j := 15) (d := 118) rfl rfl eg, ?_⟩; clear hs hd hx eg; go_simp; exact ⟨Ext.refl _ _, rfl⟩)
      · intro a' w' hx hs hd
        obtain ⟨y, rfl⟩ := hx.ew
        have eg : a'.tmps[118]?.getD undef = _ := hd 15 118 rfl rfl
        first
        | (refine .inr ⟨unwanted_of (j := 15) (d := 118) rfl rfl eg (by rfl), ?_⟩; exact (rfl : (Mo.is undef).p undef y.on))
        | (refine .inr ⟨unwanted_und (j := 15) (d := 118) rfl rfl eg, ?_⟩; exact (rfl : (Mo.is undef).p undef y.on))
        | (have e15 : a'.tmps[15]?.getD undef = _ := hs 15 rfl; simp only [List.getElem?_toArray, List.getElem?_cons_succ, List.getElem?_cons_zero, Option.getD_some, Array.getElem?_eq_some_iff] at e15; refine .inl ⟨wanted_of (j := 15) (d := 118) rfl rfl eg, ?_⟩; clear hs hd hx eg; go_simp; exact ⟨Ext.refl _ _, rfl⟩)
      · intro a' w' hx hs hd
        obtain ⟨y, rfl⟩ := hx.ew
        have eg : a'.tmps[118]?.getD undef = _ := hd 15 118 rfl rfl
        first
        | (refine .inr ⟨unwanted_of (j := 15) (d := 118) rfl rfl eg (by rfl), ?_⟩; exact (rfl : (Mo.is undef).p undef y.on))
        | (refine .inr ⟨unwanted_und (j := 15) (d := 118) rfl rfl eg, ?_⟩; exact (rfl : (Mo.is undef).p undef y.on))
        | (have e119 : a'.tmps[119]?.getD undef = _ := hd 16 119 rfl rfl; have e120 : a'.tmps[120]?.getD undef = _ := hd 17 120 rfl rfl; refine .inl ⟨wanted_of (j := 15) (d := 118) rfl rfl eg, ?_⟩; clear hs hd hx eg; go_simp; exact (self_Same ce ca1 cc1 ym a7 c7 _ (HI1g.out.extN (by (repeat (first | with_reducible (first | exact Ext.refl _ _ | assumption | refine Ext.upN ?_ | refine Ext.alloc ?_ _ | refine Ext.drew ?_ | refine Ext.drewN ?_ _ | refine Ext.up1N (by first | omega | simp) ?_) | refine Ext.alloc ?_ _ | refine Ext.setCell ?_ (.inr (by first | omega | simp)) _)))) (HI2g.out.extN (by (repeat (first | with_reducible (first | exact Ext.refl _ _ | assumption | refine Ext.upN ?_ | refine Ext.alloc ?_ _ | refine Ext.drew ?_ | refine Ext.drewN ?_ _ | refine Ext.up1N (by first | omega | simp) ?_) | refine Ext.alloc ?_ _ | refine Ext.setCell ?_ (.inr (by first | omega | simp)) _))))).mono (fun e w'' ⟨he, hx⟩ => ⟨_, he, hx, rfl⟩))
      · intro a' w' hx hs hd
        obtain ⟨y, rfl⟩ := hx.ew
        have e118 : a'.tmps[118]?.getD undef = _ := hd 15 118 rfl rfl
        have e121 : a'.tmps[121]?.getD undef = _ := hd 18 121 rfl rfl
        refine .inl ⟨rfl, ?_⟩
        clear hs hd hx
        go_simp
        exact ⟨Ext.refl _ _, rfl⟩
      · intro a' w' hx hs hd
        obtain ⟨y, rfl⟩ := hx.ew
        have e122 : a'.tmps[122]?.getD undef = _ := hd 19 122 rfl rfl
        refine .inl ⟨rfl, ?_⟩
        clear hs hd hx
        go_simp
        exact ⟨Ext.refl _ _, rfl⟩
      · intro a' w' hx hs hd
        obtain ⟨y, rfl⟩ := hx.ew
        have eg : a'.tmps[123]?.getD undef = _ := hd 20 123 rfl rfl
        first
        | (refine .inr ⟨unwanted_of (j := 20) (d := 123) rfl rfl eg (by rfl), ?_⟩; exact (rfl : (Mo.is undef).p undef y.on))
        | (refine .inr ⟨unwanted_und (j := 20) (d := 123) rfl rfl eg, ?_⟩; exact (rfl : (Mo.is undef).p undef y.on))
        | (have e14 : a'.tmps[14]?.getD undef = _ := hs 14 rfl; simp only [List.getElem?_toArray, List.getElem?_cons_succ, List.getElem?_cons_zero, Option.getD_some, Array.getElem?_eq_some_iff] at e14; refine .inl ⟨wanted_of (j := 20) (d := 123) rfl rfl eg, ?_⟩; clear hs hd hx eg; go_simp; exact ⟨Ext.refl _ _, rfl⟩)
      · intro a' w' hx hs hd
        obtain ⟨y, rfl⟩ := hx.ew
        have eg : a'.tmps[123]?.getD undef = _ := hd 20 123 rfl rfl
        first
        | (refine .inr ⟨unwanted_of (j := 20) (d := 123) rfl rfl eg (by rfl), ?_⟩; exact (rfl : (Mo.is undef).p undef y.on))
        | (refine .inr ⟨unwanted_und (j := 20) (d := 123) rfl rfl eg, ?_⟩; exact (rfl : (Mo.is undef).p undef y.on))
        | (have e16 : a'.tmps[16]?.getD undef = _ := hs 16 rfl; simp only [List.getElem?_toArray, List.getElem?_cons_succ, List.getElem?_cons_zero, Option.getD_some, Array.getElem?_eq_some_iff] at e16; refine .inl ⟨wanted_of (j := 20) (d := 123) rfl rfl eg, ?_⟩; clear hs hd hx eg; go_simp; exact ⟨Ext.refl _ _, rfl⟩)
      · intro a' w' hx hs hd
        obtain ⟨y, rfl⟩ := hx.ew
        have eg : a'.tmps[123]?.getD undef = _ := hd 20 123 rfl rfl
        first
        | (refine .inr ⟨unwanted_of (j := 20) (d := 123) rfl rfl eg (by rfl), ?_⟩; exact (rfl : (Mo.is undef).p undef y.on))
        | (refine .inr ⟨unwanted_und (j := 20) (d := 123) rfl rfl eg, ?_⟩; exact (rfl : (Mo.is undef).p undef y.on))
        | (have e124 : a'.tmps[124]?.getD undef = _ := hd 21 124 rfl rfl; have e125 : a'.tmps[125]?.getD undef = _ := hd 22 125 rfl rfl; refine .inl ⟨wanted_of (j := 20) (d := 123) rfl rfl eg, ?_⟩; clear hs hd hx eg; go_simp; exact ⟨Ext.refl _ _, rfl⟩)
      · intro a' w' hx hs hd
        obtain ⟨y, rfl⟩ := hx.ew
        have e123 : a'.tmps[123]?.getD undef = _ := hd 20 123 rfl rfl
        have e126 : a'.tmps[126]?.getD undef = _ := hd 23 126 rfl rfl
        refine .inl ⟨rfl, ?_⟩
        clear hs hd hx
        go_simp
        exact ⟨Ext.refl _ _, rfl⟩
      · intro a' w' hx hs hd
        obtain ⟨y, rfl⟩ := hx.ew
        have e127 : a'.tmps[127]?.getD undef = _ := hd 24 127 rfl rfl
        refine .inl ⟨rfl, ?_⟩
        clear hs hd hx
        go_simp
        exact ⟨Ext.refl _ _, rfl⟩
      · intro a' w' hx hs hd
        obtain ⟨y, rfl⟩ := hx.ew
        have eg : a'.tmps[128]?.getD undef = _ := hd 25 128 rfl rfl
        first
        | (refine .inr ⟨unwanted_of (j := 25) (d := 128) rfl rfl eg (by rfl), ?_⟩; exact (rfl : (Mo.is undef).p undef y.on))
        | (refine .inr ⟨unwanted_und (j := 25) (d := 128) rfl rfl eg, ?_⟩; exact (rfl : (Mo.is undef).p undef y.on))
        | (have e17 : a'.tmps[17]?.getD undef = _ := hs 17 rfl; simp only [List.getElem?_toArray, List.getElem?_cons_succ, List.getElem?_cons_zero, Option.getD_some, Array.getElem?_eq_some_iff] at e17; refine .inl ⟨wanted_of (j := 25) (d := 128) rfl rfl eg, ?_⟩; clear hs hd hx eg; go_simp; exact ⟨Ext.refl _ _, rfl⟩)
      · intro a' w' hx hs hd
        obtain ⟨y, rfl⟩ := hx.ew
        have eg : a'.tmps[128]?.getD undef = _ := hd 25 128 rfl rfl
        first
        | (refine .inr ⟨unwanted_of (j := 25) (d := 128) rfl rfl eg (by rfl), ?_⟩; exact (rfl : (Mo.is undef).p undef y.on))
        | (refine .inr ⟨unwanted_und (j := 25) (d := 128) rfl rfl eg, ?_⟩; exact (rfl : (Mo.is undef).p undef y.on))
        | (have e20 : a'.tmps[20]?.getD undef = _ := hs 20 rfl; simp only [List.getElem?_toArray, List.getElem?_cons_succ, List.getElem?_cons_zero, Option.getD_some, Array.getElem?_eq_some_iff] at e20; refine .inl ⟨wanted_of (j := 25) (d := 128) rfl rfl eg, ?_⟩; clear hs hd hx eg; go_simp; exact ⟨Ext.refl _ _, rfl⟩)
      · intro a' w' hx hs hd
        obtain ⟨y, rfl⟩ := hx.ew
        have eg : a'.tmps[128]?.getD undef = _ := hd 25 128 rfl rfl
        first
        | (refine .inr ⟨unwanted_of (j := 25) (d := 128) rfl rfl eg (by rfl), ?_⟩; exact (rfl : (Mo.is undef).p undef y.on))
        | (refine .inr ⟨unwanted_und (j := 25) (d := 128) rfl rfl eg, ?_⟩; exact (rfl : (Mo.is undef).p undef y.on))
        | (have e129 : a'.tmps[129]?.getD undef = _ := hd 26 129 rfl rfl; have e130 : a'.tmps[130]?.getD undef = _ := hd 27 130 rfl rfl; refine .inl ⟨wanted_of (j := 25) (d := 128) rfl rfl eg, ?_⟩; clear hs hd hx eg; go_simp; exact ⟨Ext.refl _ _, rfl⟩)
      · intro a' w' hx hs hd
        obtain ⟨y, rfl⟩ := hx.ew
        have e128 : a'.tmps[128]?.getD undef = _ := hd 25 128 rfl rfl
        have e131 : a'.tmps[131]?.getD undef = _ := hd 28 131 rfl rfl
        refine .inl ⟨rfl, ?_⟩
        clear hs hd hx
        go_simp
        exact ⟨Ext.refl _ _, rfl⟩
      · intro a' w' hx hs hd
        obtain ⟨y, rfl⟩ := hx.ew
        have e132 : a'.tmps[132]?.getD undef = _ := hd 29 132 rfl rfl
        refine .inl ⟨rfl, ?_⟩
        clear hs hd hx
        go_simp
        exact ⟨Ext.refl _ _, rfl⟩
      · intro a' w' hx hs hd
        obtain ⟨y, rfl⟩ := hx.ew
        have eg : a'.tmps[133]?.getD undef = _ := hd 30 133 rfl rfl
        first
        | (refine .inr ⟨unwanted_of (j := 30) (d := 133) rfl rfl eg (by rfl), ?_⟩; exact (rfl : (Mo.is undef).p undef y.on))
        | (refine .inr ⟨unwanted_und (j := 30) (d := 133) rfl rfl eg, ?_⟩; exact (rfl : (Mo.is undef).p undef y.on))
        | (have e18 : a'.tmps[18]?.getD undef = _ := hs 18 rfl; simp only [List.getElem?_toArray, List.getElem?_cons_succ, List.getElem?_cons_zero, Option.getD_some, Array.getElem?_eq_some_iff] at e18; refine .inl ⟨wanted_of (j := 30) (d := 133) rfl rfl eg, ?_⟩; clear hs hd hx eg; go_simp; exact ⟨Ext.refl _ _, rfl⟩)
      · intro a' w' hx hs hd
        obtain ⟨y, rfl⟩ := hx.ew
        have eg : a'.tmps[133]?.getD undef = _ := hd 30 133 rfl rfl
        first
        | (refine .inr ⟨unwanted_of (j := 30) (d := 133) rfl rfl eg (by rfl), ?_⟩; exact (rfl : (Mo.is undef).p undef y.on))
        | (refine .inr ⟨unwanted_und (j := 30) (d := 133) rfl rfl eg, ?_⟩; exact (rfl : (Mo.is undef).p undef y.on))
        | (have e21 : a'.tmps[21]?.getD undef = _ := hs 21 rfl; simp only [List.getElem?_toArray, List.getElem?_cons_succ, List.getElem?_cons_zero, Option.getD_some, Array.getElem?_eq_some_iff] at e21; refine .inl ⟨wanted_of (j := 30) (d := 133) rfl rfl eg, ?_⟩; clear hs hd hx eg; go_simp; exact ⟨Ext.refl _ _, rfl⟩)
      · intro a' w' hx hs hd
        obtain ⟨y, rfl⟩ := hx.ew
        have eg : a'.tmps[133]?.getD undef = _ := hd 30 133 rfl rfl
        first
        | (refine .inr ⟨unwanted_of (j := 30) (d := 133) rfl rfl eg (by rfl), ?_⟩; exact (rfl : (Mo.is undef).p undef y.on))
        | (refine .inr ⟨unwanted_und (j := 30) (d := 133) rfl rfl eg, ?_⟩; exact (rfl : (Mo.is undef).p undef y.on))
        | (have e134 : a'.tmps[134]?.getD undef = _ := hd 31 134 rfl rfl; have e135 : a'.tmps[135]?.getD undef = _ := hd 32 135 rfl rfl; refine .inl ⟨wanted_of (j := 30) (d := 133) rfl rfl eg, ?_⟩; clear hs hd hx eg; go_simp; exact (self_SameResult ocd orl _).mono (fun e w'' ⟨he, hx⟩ => ⟨_, he, hx, rfl⟩))
      · intro a' w' hx hs hd
        obtain ⟨y, rfl⟩ := hx.ew
        have e133 : a'.tmps[133]?.getD undef = _ := hd 30 133 rfl rfl
        have e136 : a'.tmps[136]?.getD undef = _ := hd 33 136 rfl rfl
        refine .inl ⟨rfl, ?_⟩
        clear hs hd hx
        go_simp
        exact ⟨Ext.refl _ _, rfl⟩
      · intro a' w' hx hs hd
        obtain ⟨y, rfl⟩ := hx.ew
        have e137 : a'.tmps[137]?.getD undef = _ := hd 34 137 rfl rfl
        refine .inl ⟨rfl, ?_⟩
        clear hs hd hx
        go_simp
        exact ⟨Ext.refl _ _, rfl⟩
      · intro a' w' hx hs hd
        obtain ⟨y, rfl⟩ := hx.ew
        have eg : a'.tmps[138]?.getD undef = _ := hd 35 138 rfl rfl
        first
        | (refine .inr ⟨unwanted_of (j := 35) (d := 138) rfl rfl eg (by rfl), ?_⟩; exact (rfl : (Mo.is undef).p undef y.on))
        | (refine .inr ⟨unwanted_und (j := 35) (d := 138) rfl rfl eg, ?_⟩; exact (rfl : (Mo.is undef).p undef y.on))
        | (have e19 : a'.tmps[19]?.getD undef = _ := hs 19 rfl; simp only [List.getElem?_toArray, List.getElem?_cons_succ, List.getElem?_cons_zero, Option.getD_some, Array.getElem?_eq_some_iff] at e19; refine .inl ⟨wanted_of (j := 35) (d := 138) rfl rfl eg, ?_⟩; clear hs hd hx eg; go_simp; exact ⟨Ext.refl _ _, rfl⟩)
      · intro a' w' hx hs hd
        obtain ⟨y, rfl⟩ := hx.ew
        have eg : a'.tmps[138]?.getD undef = _ := hd 35 138 rfl rfl
        first
        | (refine .inr ⟨unwanted_of (j := 35) (d := 138) rfl rfl eg (by rfl), ?_⟩; exact (rfl : (Mo.is undef).p undef y.on))
        | (refine .inr ⟨unwanted_und (j := 35) (d := 138) rfl rfl eg, ?_⟩; exact (rfl : (Mo.is undef).p undef y.on))
        | (have e22 : a'.tmps[22]?.getD undef = _ := hs 22 rfl; simp only [List.getElem?_toArray, List.getElem?_cons_succ, List.getElem?_cons_zero, Option.getD_some, Array.getElem?_eq_some_iff] at e22; refine .inl ⟨wanted_of (j := 35) (d := 138) rfl rfl eg, ?_⟩; clear hs hd hx eg; go_simp; exact ⟨Ext.refl _ _, rfl⟩)
      · intro a' w' hx hs hd
        obtain ⟨y, rfl⟩ := hx.ew
        have eg : a'.tmps[138]?.getD undef = _ := hd 35 138 rfl rfl
        first
        | (refine .inr ⟨unwanted_of (j := 35) (d := 138) rfl rfl eg (by rfl), ?_⟩; exact (rfl : (Mo.is undef).p undef y.on))
        | (refine .inr ⟨unwanted_und (j := 35) (d := 138) rfl rfl eg, ?_⟩; exact (rfl : (Mo.is undef).p undef y.on))
        | (have e139 : a'.tmps[139]?.getD undef = _ := hd 36 139 rfl rfl; have e140 : a'.tmps[140]?.getD undef = _ := hd 37 140 rfl rfl; refine .inl ⟨wanted_of (j := 35) (d := 138) rfl rfl eg, ?_⟩; clear hs hd hx eg; go_simp; exact ⟨Ext.refl _ _, rfl⟩)
      · intro a' w' hx hs hd
        obtain ⟨y, rfl⟩ := hx.ew
        have e138 : a'.tmps[138]?.getD undef = _ := hd 35 138 rfl rfl
        have e141 : a'.tmps[141]?.getD undef = _ := hd 38 141 rfl rfl
        refine .inl ⟨rfl, ?_⟩
        clear hs hd hx
        go_simp
        exact ⟨Ext.refl _ _, rfl⟩
      · intro a' w' hx hs hd
        obtain ⟨y, rfl⟩ := hx.ew
        have e142 : a'.tmps[142]?.getD undef = _ := hd 39 142 rfl rfl
        refine .inl ⟨rfl, ?_⟩
        clear hs hd hx
        go_simp
        exact ⟨Ext.refl _ _, rfl⟩
      · intro a' w' hx hs hd
        obtain ⟨y, rfl⟩ := hx.ew
        have eg : a'.tmps[143]?.getD undef = _ := hd 40 143 rfl rfl
        first
        | (refine .inr ⟨unwanted_of (j := 40) (d := 143) rfl rfl eg (by rfl), ?_⟩; exact (rfl : (Mo.is undef).p undef y.on))
        | (refine .inr ⟨unwanted_und (j := 40) (d := 143) rfl rfl eg, ?_⟩; exact (rfl : (Mo.is undef).p undef y.on))
        | (have e7 : a'.tmps[7]?.getD undef = _ := hs 7 rfl; simp only [List.getElem?_toArray, List.getElem?_cons_succ, List.getElem?_cons_zero, Option.getD_some, Array.getElem?_eq_some_iff] at e7; refine .inl ⟨wanted_of (j := 40) (d := 143) rfl rfl eg, ?_⟩; clear hs hd hx eg; go_simp; exact ⟨Ext.refl _ _, rfl⟩)
      · intro a' w' hx hs hd
        obtain ⟨y, rfl⟩ := hx.ew
        have eg : a'.tmps[143]?.getD undef = _ := hd 40 143 rfl rfl
        first
        | (refine .inr ⟨unwanted_of (j := 40) (d := 143) rfl rfl eg (by rfl), ?_⟩; exact (rfl : (Mo.is undef).p undef y.on))
        | (refine .inr ⟨unwanted_und (j := 40) (d := 143) rfl rfl eg, ?_⟩; exact (rfl : (Mo.is undef).p undef y.on))
        | (have e5 : a'.tmps[5]?.getD undef = _ := hs 5 rfl; simp only [List.getElem?_toArray, List.getElem?_cons_succ, List.getElem?_cons_zero, Option.getD_some, Array.getElem?_eq_some_iff] at e5; refine .inl ⟨wanted_of (j := 40) (d := 143) rfl rfl eg, ?_⟩; clear hs hd hx eg; go_simp; exact ⟨Ext.refl _ _, rfl⟩)
      · intro a' w' hx hs hd
        obtain ⟨y, rfl⟩ := hx.ew
        have eg : a'.tmps[143]?.getD undef = _ := hd 40 143 rfl rfl
        first
        | (refine .inr ⟨unwanted_of (j := 40) (d := 143) rfl rfl eg (by rfl), ?_⟩; exact (rfl : (Mo.is undef).p undef y.on))
        | (refine .inr ⟨unwanted_und (j := 40) (d := 143) rfl rfl eg, ?_⟩; exact (rfl : (Mo.is undef).p undef y.on))
        | (have e145 : a'.tmps[145]?.getD undef = _ := hd 42 145 rfl rfl; refine .inl ⟨wanted_of (j := 40) (d := 143) rfl rfl eg, ?_⟩; clear hs hd hx eg; go_simp; exact ⟨Ext.refl _ _, rfl⟩)
      · intro a' w' hx hs hd
        obtain ⟨y, rfl⟩ := hx.ew
        have eg : a'.tmps[143]?.getD undef = _ := hd 40 143 rfl rfl
        first
        | (refine .inr ⟨unwanted_of (j := 40) (d := 143) rfl rfl eg (by rfl), ?_⟩; exact (rfl : (Mo.is undef).p undef y.on))
        | (refine .inr ⟨unwanted_und (j := 40) (d := 143) rfl rfl eg, ?_⟩; exact (rfl : (Mo.is undef).p undef y.on))
        | (have e144 : a'.tmps[144]?.getD undef = _ := hd 41 144 rfl rfl; have e146 : a'.tmps[146]?.getD undef = _ := hd 43 146 rfl rfl; refine .inl ⟨wanted_of (j := 40) (d := 143) rfl rfl eg, ?_⟩; clear hs hd hx eg; go_simp; exact (CSD4.out _ (by (repeat (first | with_reducible (first | exact Ext.refl _ _ | assumption | refine Ext.upN ?_ | refine Ext.alloc ?_ _ | refine Ext.drew ?_ | refine Ext.drewN ?_ _ | refine Ext.up1N (by first | omega | simp) ?_) | refine Ext.alloc ?_ _ | refine Ext.setCell ?_ (.inr (by first | omega | simp)) _)))).mono (fun e w'' ⟨he, hx⟩ => ⟨_, he, hx, rfl⟩))
      · intro a' w' hx hs hd
        obtain ⟨y, rfl⟩ := hx.ew
        have eg : a'.tmps[143]?.getD undef = _ := hd 40 143 rfl rfl
        first
        | (refine .inr ⟨unwanted_of (j := 40) (d := 143) rfl rfl eg (by rfl), ?_⟩; exact (rfl : (Mo.is undef).p undef y.on))
        | (refine .inr ⟨unwanted_und (j := 40) (d := 143) rfl rfl eg, ?_⟩; exact (rfl : (Mo.is undef).p undef y.on))
        | (have e3 : a'.tmps[3]?.getD undef = _ := hs 3 rfl; simp only [List.getElem?_toArray, List.getElem?_cons_succ, List.getElem?_cons_zero, Option.getD_some, Array.getElem?_eq_some_iff] at e3; refine .inl ⟨wanted_of (j := 40) (d := 143) rfl rfl eg, ?_⟩; clear hs hd hx eg; go_simp; exact ⟨Ext.refl _ _, rfl⟩)
      · intro a' w' hx hs hd
        obtain ⟨y, rfl⟩ := hx.ew
        have eg : a'.tmps[143]?.getD undef = _ := hd 40 143 rfl rfl
        first
        | (refine .inr ⟨unwanted_of (j := 40) (d := 143) rfl rfl eg (by rfl), ?_⟩; exact (rfl : (Mo.is undef).p undef y.on))
        | (refine .inr ⟨unwanted_und (j := 40) (d := 143) rfl rfl eg, ?_⟩; exact (rfl : (Mo.is undef).p undef y.on))
        | (have e1 : a'.tmps[1]?.getD undef = _ := hs 1 rfl; simp only [List.getElem?_toArray, List.getElem?_cons_succ, List.getElem?_cons_zero, Option.getD_some, Array.getElem?_eq_some_iff] at e1; refine .inl ⟨wanted_of (j := 40) (d := 143) rfl rfl eg, ?_⟩; clear hs hd hx eg; go_simp; exact ⟨Ext.refl _ _, rfl⟩)
      · intro a' w' hx hs hd
        obtain ⟨y, rfl⟩ := hx.ew
        have eg : a'.tmps[143]?.getD undef = _ := hd 40 143 rfl rfl
        first
        | (refine .inr ⟨unwanted_of (j := 40) (d := 143) rfl rfl eg (by rfl), ?_⟩; exact (rfl : (Mo.is undef).p undef y.on))
        | (refine .inr ⟨unwanted_und (j := 40) (d := 143) rfl rfl eg, ?_⟩; exact (rfl : (Mo.is undef).p undef y.on))
        | (have e149 : a'.tmps[149]?.getD undef = _ := hd 46 149 rfl rfl; refine .inl ⟨wanted_of (j := 40) (d := 143) rfl rfl eg, ?_⟩; clear hs hd hx eg; go_simp; exact (HLG4.out _ (by (repeat (first | with_reducible (first | exact Ext.refl _ _ | assumption | refine Ext.upN ?_ | refine Ext.alloc ?_ _ | refine Ext.drew ?_ | refine Ext.drewN ?_ _ | refine Ext.up1N (by first | omega | simp) ?_) | refine Ext.alloc ?_ _ | refine Ext.setCell ?_ (.inr (by first | omega | simp)) _)))).mono (fun e w'' ⟨ra, rc, he, hR, hx⟩ => ⟨_, he, hx, ra, rc, rfl, hR⟩))
      · intro a' w' hx hs hd
        obtain ⟨y, rfl⟩ := hx.ew
        have eg : a'.tmps[143]?.getD undef = _ := hd 40 143 rfl rfl
        first
        | (refine .inr ⟨unwanted_of (j := 40) (d := 143) rfl rfl eg (by rfl), ?_⟩; exact (rfl : (Mo.is undef).p undef y.on))
        | (refine .inr ⟨unwanted_und (j := 40) (d := 143) rfl rfl eg, ?_⟩; exact (rfl : (Mo.is undef).p undef y.on))
        | (have e5 : a'.tmps[5]?.getD undef = _ := hs 5 rfl; simp only [List.getElem?_toArray, List.getElem?_cons_succ, List.getElem?_cons_zero, Option.getD_some, Array.getElem?_eq_some_iff] at e5; refine .inl ⟨wanted_of (j := 40) (d := 143) rfl rfl eg, ?_⟩; clear hs hd hx eg; go_simp; exact ⟨Ext.refl _ _, rfl⟩)
      · intro a' w' hx hs hd
        obtain ⟨y, rfl⟩ := hx.ew
        have eg : a'.tmps[143]?.getD undef = _ := hd 40 143 rfl rfl
        first
        | (refine .inr ⟨unwanted_of (j := 40) (d := 143) rfl rfl eg (by rfl), ?_⟩; exact (rfl : (Mo.is undef).p undef y.on))
        | (refine .inr ⟨unwanted_und (j := 40) (d := 143) rfl rfl eg, ?_⟩; exact (rfl : (Mo.is undef).p undef y.on))
        | (have e151 : a'.tmps[151]?.getD undef = _ := hd 48 151 rfl rfl; refine .inl ⟨wanted_of (j := 40) (d := 143) rfl rfl eg, ?_⟩; clear hs hd hx eg; go_simp; exact ⟨Ext.refl _ _, rfl⟩)
      · intro a' w' hx hs hd
        obtain ⟨y, rfl⟩ := hx.ew
        have eg : a'.tmps[143]?.getD undef = _ := hd 40 143 rfl rfl
        first
        | (refine .inr ⟨unwanted_of (j := 40) (d := 143) rfl rfl eg (by rfl), ?_⟩; exact (rfl : (Mo.is undef).p undef y.on))
        | (refine .inr ⟨unwanted_und (j := 40) (d := 143) rfl rfl eg, ?_⟩; exact (rfl : (Mo.is undef).p undef y.on))
        | (have e148 : a'.tmps[148]?.getD undef = _ := hd 45 148 rfl rfl; obtain ⟨ra, rc, e150, hR⟩ : ∃ ra rc, a'.tmps[150]?.getD undef = .slice ra lr.length rc ∧ Reqs y.on ra rc lr := hd 47 150 rfl rfl; have e152 : a'.tmps[152]?.getD undef = _ := hd 49 152 rfl rfl; refine .inl ⟨wanted_of (j := 40) (d := 143) rfl rfl eg, ?_⟩; clear hs hd hx eg; go_simp; exact (CSE4.out _ _ _ (by (repeat (first | with_reducible (first | exact Ext.refl _ _ | assumption | refine Ext.upN ?_ | refine Ext.alloc ?_ _ | refine Ext.drew ?_ | refine Ext.drewN ?_ _ | refine Ext.up1N (by first | omega | simp) ?_) | refine Ext.alloc ?_ _ | refine Ext.setCell ?_ (.inr (by first | omega | simp)) _))) hR).mono (fun e w'' ⟨he, hx⟩ => ⟨_, he, hx, rfl⟩))
      · intro a' w' hx hs hd
        obtain ⟨y, rfl⟩ := hx.ew
        have eg : a'.tmps[143]?.getD undef = _ := hd 40 143 rfl rfl
        first
        | (refine .inr ⟨unwanted_of (j := 40) (d := 143) rfl rfl eg (by rfl), ?_⟩; exact (rfl : (Mo.is undef).p undef y.on))
        | (refine .inr ⟨unwanted_und (j := 40) (d := 143) rfl rfl eg, ?_⟩; exact (rfl : (Mo.is undef).p undef y.on))
        | (have e147 : a'.tmps[147]?.getD undef = _ := hd 44 147 rfl rfl; have e153 : a'.tmps[153]?.getD undef = _ := hd 50 153 rfl rfl; refine .inl ⟨wanted_of (j := 40) (d := 143) rfl rfl eg, ?_⟩; clear hs hd hx eg; go_simp; exact ⟨Ext.refl _ _, rfl⟩)
      · intro a' w' hx hs hd
        obtain ⟨y, rfl⟩ := hx.ew
        have e143 : a'.tmps[143]?.getD undef = _ := hd 40 143 rfl rfl
        have e154 : a'.tmps[154]?.getD undef = _ := hd 51 154 rfl rfl
        refine .inl ⟨rfl, ?_⟩
        clear hs hd hx
        go_simp
        exact ⟨Ext.refl _ _, rfl⟩
      · intro a' w' hx hs hd
        obtain ⟨y, rfl⟩ := hx.ew
        have e155 : a'.tmps[155]?.getD undef = _ := hd 52 155 rfl rfl
        refine .inl ⟨rfl, ?_⟩
        clear hs hd hx
        go_simp
        exact ⟨Ext.refl _ _, rfl⟩
    case' q6 =>
      intro vs w' hx hRR
      obtain ⟨x14, rfl⟩ := hx.ew
      have q0 : vs 0 = _ := hRR 0 (by decide)
      have q1 : vs 1 = _ := hRR 1 (by decide)
      have q2 : vs 2 = _ := hRR 2 (by decide)
      have q3 : vs 3 = _ := hRR 3 (by decide)
      have q4 : vs 4 = _ := hRR 4 (by decide)
      have q5 : vs 5 = _ := hRR 5 (by decide)
      have q6 : vs 6 = _ := hRR 6 (by decide)
      have q7 : vs 7 = _ := hRR 7 (by decide)
      have q8 : vs 8 = _ := hRR 8 (by decide)
      have q9 : vs 9 = _ := hRR 9 (by decide)
      have q10 : vs 10 = _ := hRR 10 (by decide)
      have q11 : vs 11 = _ := hRR 11 (by decide)
      have q12 : vs 12 = _ := hRR 12 (by decide)
      have q13 : vs 13 = _ := hRR 13 (by decide)
      have q14 : vs 14 = _ := hRR 14 (by decide)
      have q15 : vs 15 = _ := hRR 15 (by decide)
      have q16 : vs 16 = _ := hRR 16 (by decide)
      have q17 : vs 17 = _ := hRR 17 (by decide)
      have q18 : vs 18 = _ := hRR 18 (by decide)
      have q19 : vs 19 = _ := hRR 19 (by decide)
      have q20 : vs 20 = _ := hRR 20 (by decide)
      have q21 : vs 21 = _ := hRR 21 (by decide)
      have q22 : vs 22 = _ := hRR 22 (by decide)
      have q23 : vs 23 = _ := hRR 23 (by decide)
      have q24 : vs 24 = _ := hRR 24 (by decide)
      have q25 : vs 25 = _ := hRR 25 (by decide)
      have q26 : vs 26 = _ := hRR 26 (by decide)
      have q27 : vs 27 = _ := hRR 27 (by decide)
      have q28 : vs 28 = _ := hRR 28 (by decide)
      have q29 : vs 29 = _ := hRR 29 (by decide)
      have q30 : vs 30 = _ := hRR 30 (by decide)
      have q31 : vs 31 = _ := hRR 31 (by decide)
      have q32 : vs 32 = _ := hRR 32 (by decide)
      have q33 : vs 33 = _ := hRR 33 (by decide)
      have q34 : vs 34 = _ := hRR 34 (by decide)
      have q35 : vs 35 = _ := hRR 35 (by decide)
      have q36 : vs 36 = _ := hRR 36 (by decide)
      have q37 : vs 37 = _ := hRR 37 (by decide)
      have q38 : vs 38 = _ := hRR 38 (by decide)
      have q39 : vs 39 = _ := hRR 39 (by decide)
      have q40 : vs 40 = _ := hRR 40 (by decide)
      have q41 : vs 41 = _ := hRR 41 (by decide)
      have q42 : vs 42 = _ := hRR 42 (by decide)
      have q43 : vs 43 = _ := hRR 43 (by decide)
      have q44 : vs 44 = _ := hRR 44 (by decide)
      have q45 : vs 45 = _ := hRR 45 (by decide)
      have q46 : vs 46 = _ := hRR 46 (by decide)
      obtain ⟨ra, rc, q47, hR⟩ : ∃ ra rc, vs 47 = .slice ra lr.length rc ∧ Reqs x14.on ra rc lr := hRR 47 (by decide)
      have q48 : vs 48 = _ := hRR 48 (by decide)
      have q49 : vs 49 = _ := hRR 49 (by decide)
      have q50 : vs 50 = _ := hRR 50 (by decide)
      have q51 : vs 51 = _ := hRR 51 (by decide)
      have q52 : vs 52 = _ := hRR 52 (by decide)
      have q53 : vs 53 = _ := hRR 53 (by decide)
      clear hRR hx
      simp only [putAll, List.take_succ_cons, List.take_zero, List.drop_succ_cons, List.drop_zero, Act.put, List.setIfInBounds_toArray, List.set_cons_zero, List.set_cons_succ, Nat.reduceAdd, Nat.zero_add]
      simp only [q0, q1, q2, q3, q4, q5, q6, q7, q8, q9, q10, q11, q12, q13, q14, q15, q16, q17, q18, q19, q20, q21, q22, q23, q24, q25, q26, q27, q28, q29, q30, q31, q32, q33, q34, q35, q36, q37, q38, q39, q40, q41, q42, q43, q44, q45, q46, q47, q48, q49, q50, q51, q52, q53]
      clear q0 q1 q2 q3 q4 q5 q6 q7 q8 q9 q10 q11 q12 q13 q14 q15 q16 q17 q18 q19 q20 q21 q22 q23 q24 q25 q26 q27 q28 q29 q30 q31 q32 q33 q34 q35 q36 q37 q38 q39 q40 q41 q42 q43 q44 q45 q46 q47 q48 q49 q50 q51 q52 q53 vs
    go_wp2
    go_returns
    exact ⟨rfl, HX4.out.trans (by (repeat (first | with_reducible (first | exact Ext.refl _ _ | assumption | refine Ext.upN ?_ | refine Ext.alloc ?_ _ | refine Ext.drew ?_ | refine Ext.drewN ?_ _ | refine Ext.up1N (by first | omega | simp) ?_) | refine Ext.alloc ?_ _ | refine Ext.setCell ?_ (.inr (by first | omega | simp)) _)))⟩
  · obtain ⟨er, her⟩ : ∃ er, er = newE ep xs lr := ⟨_, rfl⟩
    have HNE := Go.Lib.hid hne
    have HER := Go.Lib.hid her
    have hbn : (er != 0) = true := by rw [her]; simpa using hne
    have hbq : (er == 0) = false := by rw [her]; simpa using hne
    clear hne her
    go_enter Tryz.func3, Tryz.ntmps3
    go_wp2_with fail
    have B0 := Go.Lib.hid ((Bx.newAt w [.int .i64 ep, .slice a xs.length cap] 24 _ rfl).alloc (.cells #[.int .i64 n, .int .i64 eq, .bool tu, .int .i64 c, .int .i64 s, .int .i64 k, .string key, .int .u64 b, .int .i64 id, .slice ba bad.length bc] 30))
    refine Calls.ew (law22_lives _) ?_
    rintro e x1 rfl
    go_upto_region 3 with fail
    apply wp_region_rel (relR [Mo.is _, Mo.is _, moLog lr, Mo.is _, Mo.is _, Mo.is _, Mo.is _, Mo.is _, Mo.is _]) (by kernel_rfl) (by kernel_rfl) (by kernel_rfl) (relR_mono _) (StepD.all ?st7) ?q7
    case st7 =>
      refine ⟨?_, ?_, ?_, ?_, ?_, ?_, ?_, ?_, ?_, trivial⟩
      · intro a' w' hx hs hd
        obtain ⟨y, rfl⟩ := hx.ew
        have e3 : a'.tmps[3]?.getD undef = _ := hs 3 rfl
        simp only [List.getElem?_toArray, List.getElem?_cons_succ, List.getElem?_cons_zero, Option.getD_some, Array.getElem?_eq_some_iff] at e3
        refine .inl ⟨rfl, ?_⟩
        clear hs hd hx
        go_simp
        exact ⟨Ext.refl _ _, rfl⟩
      · intro a' w' hx hs hd
        obtain ⟨y, rfl⟩ := hx.ew
        have e1 : a'.tmps[1]?.getD undef = _ := hs 1 rfl
        simp only [List.getElem?_toArray, List.getElem?_cons_succ, List.getElem?_cons_zero, Option.getD_some, Array.getElem?_eq_some_iff] at e1
        refine .inl ⟨rfl, ?_⟩
        clear hs hd hx
        go_simp
        exact ⟨Ext.refl _ _, rfl⟩
      · intro a' w' hx hs hd
        obtain ⟨y, rfl⟩ := hx.ew
        have e27 : a'.tmps[27]?.getD undef = _ := hd 1 27 rfl rfl
        refine .inl ⟨rfl, ?_⟩
        clear hs hd hx
        go_simp
        exact (HLG.out _ (by (repeat (first | with_reducible (first | exact Ext.refl _ _ | assumption | refine Ext.upN ?_ | refine Ext.alloc ?_ _ | refine Ext.drew ?_ | refine Ext.drewN ?_ _ | refine Ext.up1N (by first | omega | simp) ?_) | refine Ext.alloc ?_ _ | refine Ext.setCell ?_ (.inr (by first | omega | simp)) _)))).mono (fun e w'' ⟨ra, rc, he, hR, hx⟩ => ⟨_, he, hx, ra, rc, rfl, hR⟩)
      · intro a' w' hx hs hd
        obtain ⟨y, rfl⟩ := hx.ew
        have e26 : a'.tmps[26]?.getD undef = _ := hd 0 26 rfl rfl
        obtain ⟨ra, rc, e28, hR⟩ : ∃ ra rc, a'.tmps[28]?.getD undef = .slice ra lr.length rc ∧ Reqs y.on ra rc lr := hd 2 28 rfl rfl
        refine .inl ⟨rfl, ?_⟩
        clear hs hd hx
        go_simp
        exact (saga_New_no ep a cap xs ra rc lr HOK.out HNE.out _ (HI.out.extN (by (repeat (first | with_reducible (first | exact Ext.refl _ _ | assumption | refine Ext.upN ?_ | refine Ext.alloc ?_ _ | refine Ext.drew ?_ | refine Ext.drewN ?_ _ | refine Ext.up1N (by first | omega | simp) ?_) | refine Ext.alloc ?_ _ | refine Ext.setCell ?_ (.inr (by first | omega | simp)) _)))) hR).mono (fun e w'' ⟨he, hx⟩ => ⟨_, he, hx, by rw [← HER.out]; rfl⟩)
      · intro a' w' hx hs hd
        obtain ⟨y, rfl⟩ := hx.ew
        have e29 : a'.tmps[29]?.getD undef = _ := hd 3 29 rfl rfl
        refine .inl ⟨rfl, ?_⟩
        clear hs hd hx
        go_simp
        exact ⟨Ext.refl _ _, rfl⟩
      · intro a' w' hx hs hd
        obtain ⟨y, rfl⟩ := hx.ew
        have e25 : a'.tmps[25]?.getD undef = _ := hd 4 25 rfl rfl
        refine .inl ⟨rfl, ?_⟩
        clear hs hd hx
        go_simp
        exact ⟨Ext.refl _ _, rfl⟩
      · intro a' w' hx hs hd
        obtain ⟨y, rfl⟩ := hx.ew
        have e25 : a'.tmps[25]?.getD undef = _ := hd 4 25 rfl rfl
        refine .inl ⟨rfl, ?_⟩
        clear hs hd hx
        go_simp
        exact ⟨Ext.refl _ _, rfl⟩
      · intro a' w' hx hs hd
        obtain ⟨y, rfl⟩ := hx.ew
        have e30 : a'.tmps[30]?.getD undef = _ := hd 5 30 rfl rfl
        refine .inl ⟨rfl, ?_⟩
        clear hs hd hx
        go_simp
        exact ⟨Ext.refl _ _, rfl⟩
      · intro a' w' hx hs hd
        obtain ⟨y, rfl⟩ := hx.ew
        have e31 : a'.tmps[31]?.getD undef = _ := hd 6 31 rfl rfl
        refine .inl ⟨rfl, ?_⟩
        clear hs hd hx
        go_simp
        exact ⟨Ext.refl _ _, rfl⟩
    case' q7 =>
      intro vs w' hx hRR
      obtain ⟨x2, rfl⟩ := hx.ew
      have q0 : vs 0 = _ := hRR 0 (by decide)
      have q1 : vs 1 = _ := hRR 1 (by decide)
      obtain ⟨ra, rc, q2, hR⟩ : ∃ ra rc, vs 2 = .slice ra lr.length rc ∧ Reqs x2.on ra rc lr := hRR 2 (by decide)
      have q3 : vs 3 = _ := hRR 3 (by decide)
      have q4 : vs 4 = _ := hRR 4 (by decide)
      have q5 : vs 5 = _ := hRR 5 (by decide)
      have q6 : vs 6 = _ := hRR 6 (by decide)
      have q7 : vs 7 = _ := hRR 7 (by decide)
      have q8 : vs 8 = _ := hRR 8 (by decide)
      clear hRR hx
      simp only [putAll, List.take_succ_cons, List.take_zero, List.drop_succ_cons, List.drop_zero, Act.put, List.setIfInBounds_toArray, List.set_cons_zero, List.set_cons_succ, Nat.reduceAdd, Nat.zero_add]
      simp only [q0, q1, q2, q3, q4, q5, q6, q7, q8]
      clear q0 q1 q2 q3 q4 q5 q6 q7 q8 vs
    clear hR
    go_upto_region 4 with fail
    apply wp_region_rel (relR [Mo.is _, Mo.is _, Mo.is _, moLog lr, Mo.is _, Mo.is _, Mo.is _, Mo.is _, Mo.is _, Mo.is _, Mo.is _, Mo.is _, Mo.is _]) (by kernel_rfl) (by kernel_rfl) (by kernel_rfl) (relR_mono _) (StepD.all ?st8) ?q8
    case st8 =>
      refine ⟨?_, ?_, ?_, ?_, ?_, ?_, ?_, ?_, ?_, ?_, ?_, ?_, ?_, trivial⟩
      · intro a' w' hx hs hd
        obtain ⟨y, rfl⟩ := hx.ew
        have e8 : a'.tmps[8]?.getD undef = _ := hs 8 rfl
        simp only [List.getElem?_toArray, List.getElem?_cons_succ, List.getElem?_cons_zero, Option.getD_some, Array.getElem?_eq_some_iff] at e8
        refine .inl ⟨rfl, ?_⟩
        clear hs hd hx
        go_simp
        exact ⟨Ext.refl _ _, rfl⟩
      · intro a' w' hx hs hd
        obtain ⟨y, rfl⟩ := hx.ew
        have e3 : a'.tmps[3]?.getD undef = _ := hs 3 rfl
        simp only [List.getElem?_toArray, List.getElem?_cons_succ, List.getElem?_cons_zero, Option.getD_some, Array.getElem?_eq_some_iff] at e3
        refine .inl ⟨rfl, ?_⟩
        clear hs hd hx
        go_simp
        exact ⟨Ext.refl _ _, rfl⟩
      · intro a' w' hx hs hd
        obtain ⟨y, rfl⟩ := hx.ew
        have e1 : a'.tmps[1]?.getD undef = _ := hs 1 rfl
        simp only [List.getElem?_toArray, List.getElem?_cons_succ, List.getElem?_cons_zero, Option.getD_some, Array.getElem?_eq_some_iff] at e1
        refine .inl ⟨rfl, ?_⟩
        clear hs hd hx
        go_simp
        exact ⟨Ext.refl _ _, rfl⟩
      · intro a' w' hx hs hd
        obtain ⟨y, rfl⟩ := hx.ew
        have e34 : a'.tmps[34]?.getD undef = _ := hd 2 34 rfl rfl
        refine .inl ⟨rfl, ?_⟩
        clear hs hd hx
        go_simp
        exact (HLG.out _ (by (repeat (first | with_reducible (first | exact Ext.refl _ _ | assumption | refine Ext.upN ?_ | refine Ext.alloc ?_ _ | refine Ext.drew ?_ | refine Ext.drewN ?_ _ | refine Ext.up1N (by first | omega | simp) ?_) | refine Ext.alloc ?_ _ | refine Ext.setCell ?_ (.inr (by first | omega | simp)) _)))).mono (fun e w'' ⟨ra, rc, he, hR, hx⟩ => ⟨_, he, hx, ra, rc, rfl, hR⟩)
      · intro a' w' hx hs hd
        obtain ⟨y, rfl⟩ := hx.ew
        have e33 : a'.tmps[33]?.getD undef = _ := hd 1 33 rfl rfl
        obtain ⟨ra, rc, e35, hR⟩ : ∃ ra rc, a'.tmps[35]?.getD undef = .slice ra lr.length rc ∧ Reqs y.on ra rc lr := hd 3 35 rfl rfl
        refine .inl ⟨rfl, ?_⟩
        clear hs hd hx
        go_simp
        exact (ref22_Right ep a cap xs ra rc lr _ (HI.out.extN (by (repeat (first | with_reducible (first | exact Ext.refl _ _ | assumption | refine Ext.upN ?_ | refine Ext.alloc ?_ _ | refine Ext.drew ?_ | refine Ext.drewN ?_ _ | refine Ext.up1N (by first | omega | simp) ?_) | refine Ext.alloc ?_ _ | refine Ext.setCell ?_ (.inr (by first | omega | simp)) _)))) hR).mono (fun e w'' ⟨he, hx⟩ => ⟨_, he, hx, by rw [← HER.out]; rfl⟩)
      · intro a' w' hx hs hd
        obtain ⟨y, rfl⟩ := hx.ew
        have e32 : a'.tmps[32]?.getD undef = _ := hd 0 32 rfl rfl
        have e36 : a'.tmps[36]?.getD undef = _ := hd 4 36 rfl rfl
        refine .inl ⟨rfl, ?_⟩
        clear hs hd hx
        go_simp
        exact ⟨Ext.refl _ _, rfl⟩
      · intro a' w' hx hs hd
        obtain ⟨y, rfl⟩ := hx.ew
        have e37 : a'.tmps[37]?.getD undef = _ := hd 5 37 rfl rfl
        refine .inl ⟨rfl, ?_⟩
        clear hs hd hx
        go_simp
        exact ⟨Ext.refl _ _, rfl⟩
      · intro a' w' hx hs hd
        obtain ⟨y, rfl⟩ := hx.ew
        have eg : a'.tmps[38]?.getD undef = _ := hd 6 38 rfl rfl
        first
        | (refine .inr ⟨unwanted_of (j := 6) (d := 38) rfl rfl eg (by rfl), ?_⟩; exact (rfl : (Mo.is undef).p undef y.on))
        | (refine .inr ⟨unwanted_und (j := 6) (d := 38) rfl rfl eg, ?_⟩; exact (rfl : (Mo.is undef).p undef y.on))
        | (have e7 : a'.tmps[7]?.getD undef = _ := hs 7 rfl; simp only [List.getElem?_toArray, List.getElem?_cons_succ, List.getElem?_cons_zero, Option.getD_some, Array.getElem?_eq_some_iff] at e7; refine .inl ⟨wanted_of (j := 6) (d := 38) rfl rfl eg, ?_⟩; clear hs hd hx eg; go_simp; exact ⟨Ext.refl _ _, rfl⟩)
      · intro a' w' hx hs hd
        obtain ⟨y, rfl⟩ := hx.ew
        have eg : a'.tmps[38]?.getD undef = _ := hd 6 38 rfl rfl
        first
        | (refine .inr ⟨unwanted_of (j := 6) (d := 38) rfl rfl eg (by rfl), ?_⟩; exact (rfl : (Mo.is undef).p undef y.on))
        | (refine .inr ⟨unwanted_und (j := 6) (d := 38) rfl rfl eg, ?_⟩; exact (rfl : (Mo.is undef).p undef y.on))
        | (have e39 : a'.tmps[39]?.getD undef = _ := hd 7 39 rfl rfl; refine .inl ⟨wanted_of (j := 6) (d := 38) rfl rfl eg, ?_⟩; clear hs hd hx eg; go_simp; exact ⟨Ext.refl _ _, rfl⟩)
      · intro a' w' hx hs hd
        obtain ⟨y, rfl⟩ := hx.ew
        have eg : a'.tmps[38]?.getD undef = _ := hd 6 38 rfl rfl
        first
        | (refine .inr ⟨unwanted_of (j := 6) (d := 38) rfl rfl eg (by rfl), ?_⟩; exact (rfl : (Mo.is undef).p undef y.on))
        | (refine .inr ⟨unwanted_und (j := 6) (d := 38) rfl rfl eg, ?_⟩; exact (rfl : (Mo.is undef).p undef y.on))
        | (have e8 : a'.tmps[8]?.getD undef = _ := hs 8 rfl; simp only [List.getElem?_toArray, List.getElem?_cons_succ, List.getElem?_cons_zero, Option.getD_some, Array.getElem?_eq_some_iff] at e8; refine .inl ⟨wanted_of (j := 6) (d := 38) rfl rfl eg, ?_⟩; clear hs hd hx eg; go_simp; exact ⟨Ext.refl _ _, rfl⟩)
      · intro a' w' hx hs hd
        obtain ⟨y, rfl⟩ := hx.ew
        have eg : a'.tmps[38]?.getD undef = _ := hd 6 38 rfl rfl
        first
        | (refine .inr ⟨unwanted_of (j := 6) (d := 38) rfl rfl eg (by rfl), ?_⟩; exact (rfl : (Mo.is undef).p undef y.on))
        | (refine .inr ⟨unwanted_und (j := 6) (d := 38) rfl rfl eg, ?_⟩; exact (rfl : (Mo.is undef).p undef y.on))
        | (have e41 : a'.tmps[41]?.getD undef = _ := hd 9 41 rfl rfl; refine .inl ⟨wanted_of (j := 6) (d := 38) rfl rfl eg, ?_⟩; clear hs hd hx eg; go_simp; exact ⟨Ext.refl _ _, rfl⟩)
      · intro a' w' hx hs hd
        obtain ⟨y, rfl⟩ := hx.ew
        have eg : a'.tmps[38]?.getD undef = _ := hd 6 38 rfl rfl
        first
        | (refine .inr ⟨unwanted_of (j := 6) (d := 38) rfl rfl eg (by rfl), ?_⟩; exact (rfl : (Mo.is undef).p undef y.on))
        | (refine .inr ⟨unwanted_und (j := 6) (d := 38) rfl rfl eg, ?_⟩; exact (rfl : (Mo.is undef).p undef y.on))
        | (have e40 : a'.tmps[40]?.getD undef = _ := hd 8 40 rfl rfl; have e42 : a'.tmps[42]?.getD undef = _ := hd 10 42 rfl rfl; refine .inl ⟨wanted_of (j := 6) (d := 38) rfl rfl eg, ?_⟩; clear hs hd hx eg; go_simp; exact ⟨Ext.refl _ _, rfl⟩)
      · intro a' w' hx hs hd
        obtain ⟨y, rfl⟩ := hx.ew
        have e38 : a'.tmps[38]?.getD undef = _ := hd 6 38 rfl rfl
        have e43 : a'.tmps[43]?.getD undef = _ := hd 11 43 rfl rfl
        refine .inl ⟨rfl, ?_⟩
        clear hs hd hx
        go_simp
        exact ⟨Ext.refl _ _, rfl⟩
    case' q8 =>
      intro vs w' hx hRR
      obtain ⟨x3, rfl⟩ := hx.ew
      have q0 : vs 0 = _ := hRR 0 (by decide)
      have q1 : vs 1 = _ := hRR 1 (by decide)
      have q2 : vs 2 = _ := hRR 2 (by decide)
      obtain ⟨ra, rc, q3, hR⟩ : ∃ ra rc, vs 3 = .slice ra lr.length rc ∧ Reqs x3.on ra rc lr := hRR 3 (by decide)
      have q4 : vs 4 = _ := hRR 4 (by decide)
      have q5 : vs 5 = _ := hRR 5 (by decide)
      have q6 : vs 6 = _ := hRR 6 (by decide)
      have q7 : vs 7 = _ := hRR 7 (by decide)
      have q8 : vs 8 = _ := hRR 8 (by decide)
      have q9 : vs 9 = _ := hRR 9 (by decide)
      have q10 : vs 10 = _ := hRR 10 (by decide)
      have q11 : vs 11 = _ := hRR 11 (by decide)
      have q12 : vs 12 = _ := hRR 12 (by decide)
      clear hRR hx
      simp only [putAll, List.take_succ_cons, List.take_zero, List.drop_succ_cons, List.drop_zero, Act.put, List.setIfInBounds_toArray, List.set_cons_zero, List.set_cons_succ, Nat.reduceAdd, Nat.zero_add]
      simp only [q0, q1, q2, q3, q4, q5, q6, q7, q8, q9, q10, q11, q12]
      clear q0 q1 q2 q3 q4 q5 q6 q7 q8 q9 q10 q11 q12 vs
    clear hR
    go_wp2
    go_returns
    exact ⟨rfl, by (repeat (first | with_reducible (first | exact Ext.refl _ _ | assumption | refine Ext.upN ?_ | refine Ext.alloc ?_ _ | refine Ext.drew ?_ | refine Ext.drewN ?_ _ | refine Ext.up1N (by first | omega | simp) ?_) | refine Ext.alloc ?_ _ | refine Ext.setCell ?_ (.inr (by first | omega | simp)) _))⟩
set_option maxRecDepth 100000 in
open Go.ChangeShapes Go.WideShapes in
theorem law_SagaTells {H : Type} {enc : TypeId × Value → H} (W : World) {base : Nat} (v0 : Value) (d0 : DataW H) (p0 : List MemPlace) (v1 : Value) (d1 : DataW H) (p1 : List MemPlace) (v2 : Value) (d2 : DataW H) (p2 : List MemPlace)
    (h0 : DataW.Trod enc Tryz.prog W 0 (fun _ => true) true 24 v0 d0 p0) (ok0 : Value.okWide Tryz.prog W .any base 24 v0)
    (h1 : DataW.Trod enc Tryz.prog W 0 (fun _ => true) true 25 v1 d1 p1) (ok1 : Value.okWide Tryz.prog W .any base 25 v1)
    (h2 : DataW.Trod enc Tryz.prog W 0 (fun _ => true) true 30 v2 d2 p2) (ok2 : Value.okWide Tryz.prog W .any base 30 v2)
    {ts : List TypeId} (hts : ts[1]? = some 25) (hz : (DataW.weightsEach Tryz.prog ts [d0, d1, d2]).all (· ≤ reachBytes) = true) :
    Calls Tryz.prog 3 #[v0, v1, v2] W fun e w' => e = .returned (.bool true) ∧ Below W.heap.size W w' := by
  obtain ⟨ep, a, cap, xs, rfl, hep, hi, _⟩ := arg_conf ok0 h0
  obtain ⟨pa, pcap, l, rfl, hs, hd⟩ := arg_asks ok1 h1
  obtain ⟨cs, rfl, n, x, hx⟩ := arg_struct Tryz.underlying30 ok2 h2
  obtain ⟨q0, q1, q2, c, s, k, key, b, id, ba, bc, bad, rfl, h0, h1, hro, hb⟩ := read_q22 hx
  exact (walk_SagaTells ep a cap xs pa pcap l (asks_lim hz hts rfl hd) q0 q1 h1 q2 c s k key b id hro ba bc bad W hi hs hb).mono fun _ _ ⟨a, b⟩ => ⟨a, b.toBelow⟩
end Go.Proofs.YtekbonciafbjiaaGreat
