/- Joined texts: May12, Open12a. What each proves stands at its head; no conditions beside those in its theorems. -/
import Derived.Deep.MidRow
import Derived.Deep.WholeRow
import Derived.Shelf.SlMaps.Clone
import Derived.Test.YtfefeepljbfcdaaGreatPjBD
import Derived.Test.YtfefeepljbfcdaaGreatPjBK
/- The reference of layer 12: may there be such a ledger (of one that may be). -/
namespace Go.Proofs.YtfefeepljbfcdaaGreat
open Go.RowKit Go.Lib F64
set_option linter.unusedSimpArgs false
set_option linter.unusedVariables false
attribute [local go_sem] run_store_float
attribute [local go_sem low] EW.cellN EW.frozN alloc_cell_or alloc_froz_or EW.cellF EW.frozF EW.cell1 EW.froz1
attribute [local go_sem] relAt relUpon
structure RLo (w : World) (b sb rb : Nat) (g : Lg) : Prop where
 ex : ∃ a1 c1 a2 c2 v, Bx w b (lrow g a1 c1 a2 c2 v sb rb) 68 ∧ Ints w a1 c1 g.mem ∧ Ints w a2 c2 g.next ∧ avT sb w a1 ∧ avT sb w a2 ∧ w.ownsRow 0 78 2 v g.keys.length (g.keys.flatMap itC)
 st : Bx w sb (stRow g.cl) 3
 rs : Bx w rb (rsRow g.cl) 48
theorem RLo.extN {w w' : World} {b sb rb : Nat} {g : Lg} (h : RLo w b sb rb g) (x : Ext Non w w') : RLo w' b sb rb g := by
 obtain ⟨a1, c1, a2, c2, v, h1, h2, h3, h4, h5, h6⟩ := h.ex
 exact ⟨⟨a1, c1, a2, c2, v, h1.extN x, h2.extN x, h3.extN x, h4.extN x, h5.extN x, ownR_extN h6 x⟩, h.st.extN x, h.rs.extN x⟩
theorem RLo.rl {w : World} {b sb rb : Nat} {g : Lg} (h : RLo w b sb rb g) (hr : RiseK g.keys) : RL w b sb rb g := by
 obtain ⟨a1, c1, a2, c2, v, h1, h2, h3, h4, h5, h6⟩ := h.ex
 exact ⟨⟨a1, c1, a2, c2, v, h1, h2, h3, h4, h5, by rw [sortK_of hr (List.Perm.refl _)]; exact h6⟩, h.st, h.rs, hr.nd⟩
theorem RLo.row {w : World} {b sb rb : Nat} {g : Lg} (h : RLo w b sb rb g) : ∃ ia ic, w.cell? ⟨b, 4, none⟩ = some (.slice ia g.keys.length ic) ∧ g.keys.length ≤ ic ∧ ic ≤ 9223372036854775807 ∧ ∀ j (hj : j < g.keys.length), ∃ gi, ia = some ⟨gi, 0, none⟩ ∧ gi < w.heap.size ∧ w.cell? ⟨gi, j * 2, none⟩ = some (.string (g.keys)[j].1) ∧ w.cell? ⟨gi, j * 2 + 1, none⟩ = some (.int .u64 (g.keys)[j].2) := by
 obtain ⟨a1, c1, a2, c2, v, hb, -, -, -, -, hv⟩ := h.ex
 obtain ⟨ia, ic, rfl, h1, h2, hc⟩ := ownA_rows g.keys itC (fun _ => rfl) hv
 refine ⟨ia, ic, hb.cell rfl, h1, h2, fun j hj => ?_⟩
 obtain ⟨gi, e, hlt, hcell⟩ := hc j hj
 exact ⟨gi, e, hlt, by simpa using hcell 0 _ rfl, by simpa using hcell 1 _ rfl⟩
theorem may_parts {g : Lg} (h : mayB g = true) : confB g.epoch g.mem = true ∧ membersB g.next = true ∧ 4 * g.epoch ≤ g.done ∧ g.done ≤ 4 * (g.epoch + 1) ∧ g.keys.length ≤ 16 ∧ (∀ i, i < g.keys.length → itemOk g.keys i = true) ∧ ∀ i, i < 8 → cliOk (g.cl i) = true := by
 unfold mayB at h
 simp only [Bool.and_eq_true, decide_eq_true_eq, List.all_eq_true, List.mem_range] at h
 obtain ⟨⟨⟨⟨⟨⟨h1, h2⟩, h3⟩, h4⟩, h5⟩, h6⟩, h7⟩ := h
 exact ⟨h1, h2, h3, h4, h5, h6, h7⟩
set_option maxHeartbeats 4000000 in
set_option maxRecDepth 100000 in
theorem ref12_may (b sb rb : Nat) (g : Lg) (hmay : mayB g = true) (w : World) (h : RLo w b sb rb g) : Calls Tryz.prog 41 #[.pointer (some ⟨b, 0, none⟩)] w fun e w' => e = .returned (.bool true) ∧ Ext Non w w' := by
 obtain ⟨m1, m2, m3, m4, m5, m6, m7⟩ := may_parts hmay
 obtain ⟨a1, c1, a2, c2, v, hb, i1, i2, -, -, -⟩ := h.ex
 obtain ⟨ia, ic, hv, hl1, hl2, hit⟩ := h.row
 have HIT := hI_ hit; have M6 := hI_ m6; have M7 := hI_ m7
 have HST := hI_ (fun (i : Nat) (hi : i < 8) => h.st.cell (st_get g.cl hi))
 have HRS := hI_ (fun (i : Nat) (hi : i < 8) => And.intro (h.rs.cell (rs_get g.cl hi).1) (h.rs.cell (rs_get g.cl hi).2))
 have q0 : w.cell? ⟨b, 0, none⟩ = some (.int .i64 g.epoch) := hb.cell rfl
 have q1 : w.cell? ⟨b, 1, none⟩ = some (.slice a1 g.mem.length c1) := hb.cell rfl
 have q2 : w.cell? ⟨b, 2, none⟩ = some (.slice a2 g.next.length c2) := hb.cell rfl
 have q3 : w.cell? ⟨b, 3, none⟩ = some (.int .i64 g.done) := hb.cell rfl
 have q5 : w.cell? ⟨b, 5, none⟩ = some (.slice (some ⟨sb, 0, none⟩) 9 9) := hb.cell rfl
 have q6 : w.cell? ⟨b, 6, none⟩ = some (.slice (some ⟨rb, 0, none⟩) 9 9) := hb.cell rfl
 have KR := hI_ (fun w' (x : Ext Non w w') => ref_Right07 g.epoch a1 c1 g.mem w' (i1.extN x))
 have KM := hI_ (fun w' (x : Ext Non w w') => ref_Members a2 c2 g.next w' (i2.extN x))
 rw [m1] at KR
 rw [m2] at KM
 have hep : 0 ≤ g.epoch ∧ g.epoch ≤ 60 := by unfold confB at m1; simp only [Bool.and_eq_true, decide_eq_true_eq] at m1; exact m1.1
 clear hmay h hb i1 i2 hit m1 m2 m6 m7
 generalize g.epoch = ge at *
 generalize g.done = gd at *
 generalize g.mem = gm at *
 generalize g.next = gn at *
 have w1 : IntKind.i64.wrap (4 * ge) = 4 * ge := IntWalk.i64_in _ (by omega)
 have w2 : IntKind.i64.wrap (ge + 1) = ge + 1 := IntWalk.i64_in _ (by omega)
 have w3 : IntKind.i64.wrap (4 * (ge + 1)) = 4 * (ge + 1) := IntWalk.i64_in _ (by omega)
 have d1 : decide (gd < 4 * ge) = false := decide_eq_false (by omega)
 have d2 : decide (4 * (ge + 1) < gd) = false := decide_eq_false (by omega)
 have d3 : decide ((16 : Int) < (g.keys.length : Int)) = false := decide_eq_false (by omega)
 have d4 : decide (16 < g.keys.length) = false := decide_eq_false (by omega)
 obtain ⟨L, hL⟩ : ∃ L, L = g.keys.length := ⟨_, rfl⟩
 rw [← hL] at hv hl1 m5 d3 d4
 have HL := hI_ hL
 clear hL
 go_enter Tryz.func41, Tryz.ntmps41
 go_upto_region 1 with fail
 (refine wp_region_ext_lit (by kernel_rfl) (by kernel_rfl) ?_)
 ((try simp only [Bool.not_true, Bool.not_false, Bool.or_false, Bool.or_true, Bool.false_or, Bool.true_or, Bool.and_true, Bool.true_and, Bool.and_false, Bool.false_and]); (repeat (go_big_quiet_step ((first | (go_at_call 18; exact Calls.ext_of (KR.out _ (exG0))) | (go_at_call 57; exact Calls.ext_of (KM.out _ (exG0))))))))
 (refine wpQuiet_nil ?_; intro _ hw'; obtain ⟨xq, hw''⟩ := hw'; subst hw'')
 clear w1 w2 w3 d1 d2 d3 d4 q0 q1 q2 q3
 go_wp2_with fail
 go_loopg [3, 4] L (fun n iv v4 wr => ∃ (i : Nat) (z : EW Non w), i ≤ L ∧ n = L - i ∧ iv = .int .i64 i ∧ wr = z.on)
 case atStart => exact ⟨0, ⟨_, exG0⟩, Nat.zero_le _, rfl, rfl, rfl⟩
 case round =>
  obtain ⟨i, z, hi, hn, rfl, rfl⟩ := hrel
  have HG := hI_ hn; clear hn
  by_cases hlt : i < L
  ·have hik : i < g.keys.length := by rw [← HL.out]; exact hlt
   obtain ⟨gi, rfl, hgi, k0, k1⟩ := HIT.out i hik
   have hok := M6.out i hik
   have hge : g.keys[i]? = some g.keys[i] := List.getElem?_eq_getElem hik
   have hprev : ∀ j, i = j + 1 → ∃ q : ByteArray × Nat, w.cell? ⟨gi, j * 2, none⟩ = some (.string q.1) ∧ kl q < kl g.keys[i] := fun j e => by
    have hj : j < g.keys.length := by omega
    obtain ⟨gj, ej, -, hj0, -⟩ := HIT.out j hj
    injection ej with ej; injection ej with ej
    subst ej
    refine ⟨g.keys[j], hj0, ?_⟩
    subst e
    unfold itemOk at hok
    rw [hge] at hok
    simp only [List.getElem?_eq_getElem hj, Bool.and_eq_true, decide_eq_true_eq] at hok
    exact hok.1.2
   have hp : 1 ≤ (g.keys[i]).1.size ∧ (g.keys[i]).1.size ≤ 16 ∧ fromB (g.keys[i]).2 = true := by
    unfold itemOk at hok
    rw [hge] at hok
    simp only [Bool.and_eq_true, decide_eq_true_eq] at hok
    exact ⟨hok.1.1.1, hok.1.1.2, hok.2⟩
   generalize g.keys[i] = p at *
   obtain ⟨pk, px⟩ := p
   obtain ⟨hp1, hp2, hpf⟩ := hp
   simp only at hp1 hp2 hpf k0 k1
   have HP := hI_ hprev; have HF := hI_ hpf
   have e1 : decide ((pk.size : Int) < 1) = false := decide_eq_false (by omega)
   have e2 : decide ((16 : Int) < (pk.size : Int)) = false := decide_eq_false (by omega)
   have e1' : decide (pk.size < 1) = false := decide_eq_false (by omega)
   have e2' : decide (16 < pk.size) = false := decide_eq_false (by omega)
   have KW := hI_ (fun w' : World => ref_Wild px w')
   clear hok hge hprev hpf hp1 hp2 HIT M6
   have FINISH : Hid (wild px = false ∨ (wild px = true ∧ px = 9221120237041090560)) := hI_ (by
    have := HF.out
    unfold fromB at this
    cases hw : wild px
    ·exact .inl rfl
    ·rw [hw] at this; simp at this; exact .inr ⟨rfl, this⟩)
   cases i with
   | zero =>
    have g0 : decide ((0 : Int) < ((0 : Nat) : Int)) = false := by decide
    rcases FINISH.out with hw | ⟨hw, rfl⟩
    ·rw [hw] at KW
     clear hw FINISH
     go_wp2_with fail
     refine (KW.out _).mono ?_
     rintro e _ ⟨rfl, rfl⟩
     go_wp2_with fail
     go_roundg (L - 1)
     case measure => have := HG.out; omega
     case rel => exact ⟨1, ⟨_, exG0⟩, hlt, rfl, by go_num, rfl⟩
    ·rw [hw] at KW
     clear hw FINISH
     go_wp2_with fail
     refine (KW.out _).mono ?_
     rintro e _ ⟨rfl, rfl⟩
     go_wp2_with fail
     go_roundg (L - 1)
     case measure => have := HG.out; omega
     case rel => exact ⟨1, ⟨_, exG0⟩, hlt, rfl, by go_num, rfl⟩
   | succ j =>
    obtain ⟨⟨qk, qx⟩, kp, hlk⟩ := HP.out j rfl
    have hbl : Op.bytesLess qk.toList pk.toList = true := by
     rw [bytesLess_eq, toList_data, toList_data]
     exact decide_eq_true hlk
    have hbl2 : Op.bytesLess pk.toList qk.toList = false := by
     rw [bytesLess_eq, toList_data, toList_data]
     exact decide_eq_false (fun q => List.lt_irrefl _ (List.lt_trans hlk q))
    have hbne : ¬ pk.toList = qk.toList := fun e => by
     rw [toList_data, toList_data] at e
     have hlk : qk.data.toList < pk.data.toList := hlk
     rw [e] at hlk
     exact List.lt_irrefl _ hlk
    have hbe : (pk.toList == qk.toList) = false := by rw [beq_eq_false_iff_ne]; exact hbne
    have g0 : decide ((0 : Int) < ((j + 1 : Nat) : Int)) = true := decide_eq_true (by omega)
    have g1 : decide (0 < j + 1) = true := decide_eq_true (by omega)
    have g2 : IntKind.i64.wrap (((j + 1 : Nat) : Int) - 1) = (j : Int) := (IntWalk.i64_in _ (by omega)).trans (by omega)
    have g3 : IntKind.i64.wrap ((j : Int) + 1 - 1) = (j : Int) := (IntWalk.i64_in _ (by omega)).trans (by omega)
    simp only at kp
    clear hlk HP
    rcases FINISH.out with hw | ⟨hw, rfl⟩
    ·rw [hw] at KW
     clear hw FINISH
     go_wp2_with fail
     refine (KW.out _).mono ?_
     rintro e _ ⟨rfl, rfl⟩
     go_wp2_with fail
     go_roundg (L - (j + 1 + 1))
     case measure => have := HG.out; omega
     case rel => exact ⟨j + 1 + 1, ⟨_, exG0⟩, hlt, rfl, by go_num, rfl⟩
    ·rw [hw] at KW
     clear hw FINISH
     go_wp2_with fail
     refine (KW.out _).mono ?_
     rintro e _ ⟨rfl, rfl⟩
     go_wp2_with fail
     go_roundg (L - (j + 1 + 1))
     case measure => have := HG.out; omega
     case rel => exact ⟨j + 1 + 1, ⟨_, exG0⟩, hlt, rfl, by go_num, rfl⟩
  ·obtain rfl : i = L := by omega
   go_wp2_with fail
   go_loopg [5] 8 (fun n iv wr => ∃ (i : Nat) (u : EW Non w), i ≤ 8 ∧ n = 8 - i ∧ iv = .int .i64 ((i + 1 : Nat) : Int) ∧ wr = u.on)
   case atStart => exact ⟨0, ⟨_, exG0⟩, by omega, rfl, rfl, rfl⟩
   case round =>
    obtain ⟨j, u, hj, hn2, rfl, rfl⟩ := hrel
    have HG2 := hI_ hn2; clear hn2
    by_cases hlt2 : j < 8
    ·have sc := HST.out j hlt2
     obtain ⟨rc0, rc1⟩ := HRS.out j hlt2
     have hok := M7.out j hlt2
     generalize g.cl j = cc at *
     obtain ⟨cst, ccd, crl⟩ := cc
     have sc : w.cell? ⟨sb, j + 1, none⟩ = some (.int .i64 cst) := sc
     have rc0 : w.cell? ⟨rb, (j + 1) * 2, none⟩ = some (.int .i64 ccd) := rc0
     have rc1 : w.cell? ⟨rb, (j + 1) * 2 + 1, none⟩ = some (.float .f64 crl) := rc1
     unfold cliOk at hok
     simp only [Bool.and_eq_true, Bool.or_eq_true, decide_eq_true_eq] at hok
     obtain ⟨cn, hcn⟩ : ∃ cn, cn = j + 1 := ⟨_, rfl⟩
     have HCN := hI_ hcn
     rw [← hcn] at sc rc0 rc1 ⊢
     have cb1 : (0 : Int) ≤ (cn : Int) := by omega
     have cb2 : (cn : Int) < 9 := by omega
     have cb3 : decide ((cn : Int) ≤ 8) = true := decide_eq_true (by omega)
     have s1 : decide ((1048576 : Int) < cst) = false := decide_eq_false (by omega)
     have hwc : IntKind.i64.wrap ((cn : Int) + 1) = ((cn + 1 : Nat) : Int) := (IntWalk.i64_in _ (by omega)).trans (by omega)
     clear hcn
     by_cases h0 : cst = 0
     ·have hz := hok.2.resolve_left (fun q => q h0)
      have s2 : (cst == 0) = true := by simpa using h0
      have KSR : Hid (∀ w' : World, Calls Tryz.prog 23 #[.agg #[.int .i64 ccd, .float .f64 crl], .agg #[.int .i64 0, .float .f64 0]] w' fun e w'' => e = .returned (.bool true) ∧ Ext Non w' w'') := hI_ (fun w' => (ref_SameResult ccd 0 crl 0 w').mono fun e w'' ⟨he, hx⟩ => ⟨by rw [he, decide_eq_true hz.1, decide_eq_true (show canonN crl = canonN 0 by rw [hz.2]; exact canon0.symm)]; rfl, hx⟩)
      clear hok hz h0
      go_wp2_with fail
      refine Calls.ew (KSR.out _) ?_
      rintro e x7 rfl
      go_wp2_with fail
      go_roundg (8 - (j + 1))
      case measure => have := HG2.out; omega
      case rel => exact ⟨j + 1, ⟨_, exG0⟩, by omega, rfl, by rw [HCN.out]; go_num, rfl⟩
     ·have s2 : (cst == 0) = false := by simpa using h0
      clear hok h0
      go_wp2_with fail
      go_roundg (8 - (j + 1))
      case measure => have := HG2.out; omega
      case rel => exact ⟨j + 1, ⟨_, exG0⟩, by omega, rfl, by rw [HCN.out]; go_num, rfl⟩
    ·have cb3 : decide (((j + 1 : Nat) : Int) ≤ 8) = false := decide_eq_false (by omega)
     have cb4 : decide ((j : Int) + 1 ≤ 8) = false := decide_eq_false (by omega)
     have cb5 : decide (j + 1 ≤ 8) = false := decide_eq_false (by omega)
     go_wp2
     go_ret
     exact ⟨rfl, exG0⟩
end Go.Proofs.YtfefeepljbfcdaaGreat

/- The reference of layer 12: opening: what stands in memory while it reads. -/
namespace Go.Proofs.YtfefeepljbfcdaaGreat
open Go.RowKit Go.Lib F64
set_option linter.unusedSimpArgs false
set_option linter.unusedVariables false
def obRow (ep : Int) (a1 : Option Addr) (c1 : Nat) (mem : List Int) (v2 : Value) (done : Int) (v4 : Value) (sb rb : Nat) : List Value := [.int .i64 ep, .slice a1 mem.length c1, v2, .int .i64 done, v4, .slice (some ⟨sb, 0, none⟩) 9 9, .slice (some ⟨rb, 0, none⟩) 9 9]
structure OpW (w : World) (B b sb rb kr : Nat) (r : Rd) (ep : Int) (a1 : Option Addr) (c1 : Nat) (mem : List Int) (v2 : Value) (next : List Int) (done : Int) (v4 : Value) (its : Ks) (cl : Nat → Cl) : Prop where
 box : Bx w b (obRow ep a1 c1 mem v2 done v4 sb rb) 68
 i1 : Ints w a1 c1 mem
 t1 : ∀ k o, a1 = some ⟨k, o, none⟩ → k < B ∧ k ≠ b ∧ k ≠ sb ∧ k ≠ rb ∧ k ≠ kr ∧ ∃ vs fr, w.heap[k]? = some (.cells vs 3 fr)
 nx : w.ownsRow B 3 1 v2 next.length (next.map (Value.int .i64))
 it : w.ownsRow B 78 2 v4 its.length (its.flatMap itC)
 st : Bx w sb (stRow cl) 3
 rs : Bx w rb (rsRow cl) 48
 rd : RdW w kr r
 hB : b < B ∧ sb < B ∧ rb < B ∧ kr < B
 ne : b ≠ sb ∧ b ≠ rb ∧ b ≠ kr ∧ sb ≠ rb ∧ sb ≠ kr ∧ rb ≠ kr
theorem fresh.ext2 {S : Nat → Prop} {w w' : World} {n : Nat} {a : Option Addr} (h : fresh n w a) (x : Ext S w w') (hs : ∀ k, S k → k < n) : fresh n w' a := fun k o e => by
 obtain ⟨h1, vs, fr, h2⟩ := h k o e
 exact ⟨h1, vs, fr, (x.block k (Array.getElem?_eq_some_iff.1 h2).1 (fun q => by have := hs k q; omega)).trans h2⟩
theorem rows_apart {w : World} {B1 B2 : Nat} {e1 e2 : TypeId} {k1 k2 : Nat} {v1 v2 : Value} {n1 n2 : Nat} {x1 x2 : List Value} (h1 : w.ownsRow B1 e1 k1 v1 n1 x1) (h2 : w.ownsRow B2 e2 k2 v2 n2 x2) (hne : e1 ≠ e2) : ∀ k, Row v1 k → ¬ Row v2 k := fun k q1 q2 => by
 rcases h1.2 with ⟨rfl, _⟩ | ⟨j1, cap1, cur1, rfl, _, g1, _⟩
 ·cases q1
 ·rcases h2.2 with ⟨rfl, _⟩ | ⟨j2, cap2, cur2, rfl, _, g2, _⟩
  ·cases q2
  ·have e1' : j1 = k := by unfold Row at q1; simpa [Value.ownBlock] using q1
   have e2' : j2 = k := by unfold Row at q2; simpa [Value.ownBlock] using q2
   subst e1'; subst e2'
   rw [g1] at g2
   injection g2 with g2; injection g2 with _ g2 _
   exact hne g2
section
variable {w w' : World} {B b sb rb kr : Nat} {r : Rd} {ep : Int} {a1 : Option Addr} {c1 : Nat} {mem : List Int} {v2 : Value} {next : List Int} {done : Int} {v4 : Value} {its : Ks} {cl : Nat → Cl}
theorem OpW.mems {S : Nat → Prop} (h : OpW w B b sb rb kr r ep a1 c1 mem v2 next done v4 its cl) (x : Ext S w w') (hs : ∀ k o, a1 = some ⟨k, o, none⟩ → ¬ S k) : Ints w' a1 c1 mem ∧ ∀ k o, a1 = some ⟨k, o, none⟩ → k < B ∧ k ≠ b ∧ k ≠ sb ∧ k ≠ rb ∧ k ≠ kr ∧ ∃ vs fr, w'.heap[k]? = some (.cells vs 3 fr) :=
 ⟨h.i1.ext x hs, fun k o e => by
  obtain ⟨z1, z2, z3, z4, z5, vs, fr, z6⟩ := h.t1 k o e
  exact ⟨z1, z2, z3, z4, z5, vs, fr, (x.block k (Array.getElem?_eq_some_iff.1 z6).1 (hs k o e)).trans z6⟩⟩
theorem OpW.step {S : Nat → Prop} (h : OpW w B b sb rb kr r ep a1 c1 mem v2 next done v4 its cl) (x : Ext S w w') (hs : ∀ k o, a1 = some ⟨k, o, none⟩ → ¬ S k) {r' : Rd} {done' : Int} {v2' v4' : Value} {cl' : Nat → Cl} {next' : List Int} {its' : Ks}
  (hb : Bx w' b (obRow ep a1 c1 mem v2' done' v4' sb rb) 68) (hst : Bx w' sb (stRow cl') 3) (hrs : Bx w' rb (rsRow cl') 48) (hr : RdW w' kr r')
  (hnx : w'.ownsRow B 3 1 v2' next'.length (next'.map (Value.int .i64))) (hit : w'.ownsRow B 78 2 v4' its'.length (its'.flatMap itC)) : OpW w' B b sb rb kr r' ep a1 c1 mem v2' next' done' v4' its' cl' :=
 ⟨hb, (h.mems x hs).1, (h.mems x hs).2, hnx, hit, hst, hrs, hr, h.hB, h.ne⟩
theorem OpW.lowS {j : Nat} (h : OpW w B b sb rb kr r ep a1 c1 mem v2 next done v4 its cl) (hj : j = b ∨ j = sb ∨ j = rb ∨ j = kr) : (∀ k o, a1 = some ⟨k, o, none⟩ → ¬ One j k) ∧ (∀ k, Row v2 k → ¬ One j k) ∧ (∀ k, Row v4 k → ¬ One j k) :=
  ⟨fun k o e q => by obtain ⟨z1, z2, z3, z4, z5, -⟩ := h.t1 k o e; have q : k = j := q; omega,
   fun k hk q => by have := (own_row h.nx k hk).1; have := h.hB; have q : k = j := q; omega,
   fun k hk q => by have := (own_row h.it k hk).1; have := h.hB; have q : k = j := q; omega⟩
theorem OpW.extN (h : OpW w B b sb rb kr r ep a1 c1 mem v2 next done v4 its cl) (x : Ext Non w w') : OpW w' B b sb rb kr r ep a1 c1 mem v2 next done v4 its cl :=
 h.step x (fun _ _ _ f => f) (h.box.extN x) (h.st.extN x) (h.rs.extN x) (h.rd.extN x) (ownR_extN h.nx x) (ownR_extN h.it x)
theorem OpW.read (h : OpW w B b sb rb kr r ep a1 c1 mem v2 next done v4 its cl) (x : Ext (One kr) w w') {r' : Rd} (hr : RdW w' kr r') : OpW w' B b sb rb kr r' ep a1 c1 mem v2 next done v4 its cl :=
 have l := h.lowS (j := kr) (.inr (.inr (.inr rfl)))
 h.step x l.1 (h.box.ext x (fun q => h.ne.2.2.1 q)) (h.st.ext x (fun q => h.ne.2.2.2.2.1 q)) (h.rs.ext x (fun q => h.ne.2.2.2.2.2 q)) hr (ownR_ext h.nx x l.2.1) (ownR_ext h.it x l.2.2)
theorem OpW.put (h : OpW w B b sb rb kr r ep a1 c1 mem v2 next done v4 its cl) (x : Ext (One b) w w') {done' : Int} {v2' v4' : Value} {next' : List Int} {its' : Ks} (hb : Bx w' b (obRow ep a1 c1 mem v2' done' v4' sb rb) 68)
  (hnx : w.ownsRow B 3 1 v2' next'.length (next'.map (Value.int .i64))) (hit : w.ownsRow B 78 2 v4' its'.length (its'.flatMap itC)) : OpW w' B b sb rb kr r ep a1 c1 mem v2' next' done' v4' its' cl :=
 have l := h.lowS (j := b) (.inl rfl)
 h.step x l.1 hb (h.st.ext x (fun q => h.ne.1 q.symm)) (h.rs.ext x (fun q => h.ne.2.1 q.symm)) (h.rd.ext x (fun q => h.ne.2.2.1 q.symm)) (ownR_ext hnx x (fun k hk q => by have := (own_row hnx k hk).1; have := h.hB; have q : k = b := q; omega)) (ownR_ext hit x (fun k hk q => by have := (own_row hit k hk).1; have := h.hB; have q : k = b := q; omega))
theorem OpW.wr {j : Nat} (h : OpW w B b sb rb kr r ep a1 c1 mem v2 next done v4 its cl) (hj : j = sb ∨ j = rb) (x : Ext (One j) w w') {cl' : Nat → Cl} (hst : Bx w' sb (stRow cl') 3) (hrs : Bx w' rb (rsRow cl') 48) : OpW w' B b sb rb kr r ep a1 c1 mem v2 next done v4 its cl' :=
 have l := h.lowS (j := j) (by omega)
 have ne := h.ne
 h.step x l.1 (h.box.ext x (fun q => by have q : b = j := q; omega)) hst hrs (h.rd.ext x (fun q => by have q : kr = j := q; omega)) (ownR_ext h.nx x l.2.1) (ownR_ext h.it x l.2.2)
theorem OpW.rlo (h : OpW w B b sb rb kr r ep a1 c1 mem v2 next done v4 its cl) (hx : ∀ x ∈ next, I64 x) : RLo w b sb rb ⟨ep, mem, next, done, its, cl⟩ := by
 obtain ⟨a2, c2, rfl, hI, hf⟩ := Ints.own_row h.nx hx
 exact ⟨⟨a1, c1, a2, c2, v4, h.box, h.i1, hI, fun k o e => by obtain ⟨z1, z2, z3, z4, z5, z6⟩ := h.t1 k o e; exact ⟨z3, z6⟩, fun k o e => ⟨by have := (hf k o e).1; have := h.hB; omega, (hf k o e).2⟩, ownR_base h.it (Nat.zero_le _)⟩, h.st, h.rs⟩
theorem OpW.conf (h : OpW w B b sb rb kr r ep a1 c1 mem (.slice none 0 0) [] done (.slice none 0 0) [] cl) {B' : Nat} (hBB : B ≤ B') (x : Ext (One b) w w') {ep' : Int} {a' : Option Addr} {c' : Nat} {mem' : List Int} (hb : Bx w' b (obRow ep' a' c' mem' (.slice none 0 0) done (.slice none 0 0) sb rb) 68) (hi : Ints w a' c' mem') (hf : fresh B w a') (hlt : w.heap.size ≤ B') :
    OpW w' B' b sb rb kr r ep' a' c' mem' (.slice none 0 0) [] done (.slice none 0 0) [] cl :=
  have hx := h.hB
  ⟨hb, hi.ext x (fun k o e q => by have := (hf k o e).1; have q : k = b := q; omega), fun k o e => by
    obtain ⟨z1, vs, fr, z2⟩ := hf k o e
    have hk := (Array.getElem?_eq_some_iff.1 z2).1
    exact ⟨by omega, by omega, by omega, by omega, by omega, vs, fr, (x.block k hk (fun q => by have q : k = b := q; omega)).trans z2⟩,
   World.ownsRow_nil _ _ _ _, World.ownsRow_nil _ _ _ _, h.st.ext x (fun q => h.ne.1 q.symm), h.rs.ext x (fun q => h.ne.2.1 q.symm), h.rd.ext x (fun q => h.ne.2.2.1 q.symm), by omega, h.ne⟩
theorem OpW.grown {S : Nat → Prop} (h : OpW w B b sb rb kr r ep a1 c1 mem v2 next done v4 its cl) (x : Ext (Or2 (One kr) S) w w') (hS : ∀ k, S k → B ≤ k) {r' : Rd} (hr : RdW w' kr r') : Ints w' a1 c1 mem ∧ Bx w' b (obRow ep a1 c1 mem v2 done v4 sb rb) 68 ∧ Bx w' sb (stRow cl) 3 ∧ Bx w' rb (rsRow cl) 48 ∧ (∀ k o, a1 = some ⟨k, o, none⟩ → k < B ∧ k ≠ b ∧ k ≠ sb ∧ k ≠ rb ∧ k ≠ kr ∧ ∃ vs fr, w'.heap[k]? = some (.cells vs 3 fr)) :=
 have no : ∀ k, k < B → k ≠ kr → ¬ Or2 (One kr) S k := fun k hk hne q => by rcases q with q | q; exact hne q; have := hS k q; omega
 have hs : ∀ k o, a1 = some ⟨k, o, none⟩ → ¬ Or2 (One kr) S k := fun k o e => by obtain ⟨z1, z2, z3, z4, z5, -⟩ := h.t1 k o e; exact no k z1 z5
 ⟨(h.mems x hs).1, h.box.ext x (no b h.hB.1 h.ne.2.2.1), h.st.ext x (no sb h.hB.2.1 h.ne.2.2.2.2.1), h.rs.ext x (no rb h.hB.2.2.1 h.ne.2.2.2.2.2), (h.mems x hs).2⟩
end
theorem rs_keep (cl : Nat → Cl) (s : Int) {i : Nat} (h : i < 8) : rsRow (setC cl i ⟨s, (cl i).code, (cl i).real⟩) = rsRow cl := by
 rcases cl8 h with rfl | rfl | rfl | rfl | rfl | rfl | rfl | rfl <;> rfl
theorem st_keep (cl : Nat → Cl) (s : Int) (a b : Int) (x y : Nat) {i : Nat} (h : i < 8) : stRow (setC cl i ⟨s, a, x⟩) = stRow (setC cl i ⟨s, b, y⟩) := by
 rcases cl8 h with rfl | rfl | rfl | rfl | rfl | rfl | rfl | rfl <;> rfl
theorem setC_setC (cl : Nat → Cl) (i : Nat) (c d : Cl) : setC (setC cl i c) i d = setC cl i d := by
 funext j; unfold setC; by_cases h : j = i <;> simp [h]
theorem clV_succ (n : Nat) (r : Rd) : clV (n + 1) r = setC (clV n r) n ⟨(numV 4 (clR n r) : Nat), readXcd (textV (numR 4 (clR n r))), readXre (textV (numR 4 (clR n r)))⟩ := by
 funext j
 by_cases h : j = n
 ·subst h; simp [clV, setC]
 ·by_cases h2 : j < n
  ·have h3 : j < n + 1 := by omega
   simp [clV, setC, h, h2, h3]
  ·have h3 : ¬ j < n + 1 := by omega
   simp [clV, setC, h, h2, h3]
theorem clV_zero (r : Rd) : clV 0 r = clZ := by funext j; rfl
theorem itV_map (n : Nat) (r : Rd) : (itV (n + 1) r).flatMap itC = (itV n r).flatMap itC ++ [.string (sB (textV (itR n r))), .int .u64 (numV 8 (textR (itR n r)) : Nat)] := by
 rw [itV_succ, List.flatMap_append]; simp [itC]
def moAg (n : Nat) : Mo := ⟨fun v w => ∃ sb rb, v = .agg (obRow 0 none 0 [] (.slice none 0 0) 0 (.slice none 0 0) sb rb).toArray ∧ Bx w sb (stRow clZ) 3 ∧ Bx w rb (rsRow clZ) 48 ∧ n ≤ sb ∧ n ≤ rb, fun _ _ _ x ⟨sb, rb, e, h1, h2, h3⟩ => ⟨sb, rb, e, h1.extN x, h2.extN x, h3⟩⟩
def moOB (n : Nat) : Mo := ⟨fun v w => ∃ b sb rb, v = .pointer (some ⟨b, 0, none⟩) ∧ Bx w b (obRow 0 none 0 [] (.slice none 0 0) 0 (.slice none 0 0) sb rb) 68 ∧ Bx w sb (stRow clZ) 3 ∧ Bx w rb (rsRow clZ) 48 ∧ n ≤ b ∧ n ≤ sb ∧ n ≤ rb, fun _ _ _ x ⟨b, sb, rb, e, h0, h1, h2, h3⟩ => ⟨b, sb, rb, e, h0.extN x, h1.extN x, h2.extN x, h3⟩⟩
end Go.Proofs.YtfefeepljbfcdaaGreat
