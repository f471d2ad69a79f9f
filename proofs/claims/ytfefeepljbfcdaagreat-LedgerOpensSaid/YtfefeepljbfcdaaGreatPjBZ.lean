/- Joined texts: Opens12. What each proves stands at its head; no conditions beside those in its theorems. -/
import Derived.SizedLaws
import Derived.Deep.MidRow
import Derived.Deep.WholeRow
import Derived.Shelf.SlMaps.Clone
import Derived.Test.YtfefeepljbfcdaaGreatPjBT
import Derived.Test.YtfefeepljbfcdaaGreatPjBW
import Derived.Test.YtfefeepljbfcdaaGreatPjBY
/- The law LedgerOpens: the walk. -/
namespace Go.Proofs.YtfefeepljbfcdaaGreat
open Go.RowKit Go.Lib F64
set_option linter.unusedSimpArgs false
set_option linter.unusedVariables false
attribute [local go_sem] run_store_float
attribute [local go_sem low] EW.cellN EW.frozN alloc_cell_or alloc_froz_or EW.cellF EW.frozF EW.cell1 EW.froz1
attribute [local go_sem] relAt relUpon
theorem srt_open (t : List UInt8) (hr : RiseK (openG t).keys) : srtL (openG t) = openG t := by
 have h1 : sortK (openG t).keys = (openG t).keys := sortK_of hr (List.Perm.refl _)
 have h2 : (fun i => if i < 8 then (openG t).cl i else ⟨0, 0, 0⟩) = (openG t).cl := by
  funext i
  by_cases h : i < 8
  ·rw [if_pos h]
  ·rw [if_neg h]
   show (⟨0, 0, 0⟩ : Cl) = clV 8 (oR7 t) i
   unfold clV
   rw [if_neg h]
 unfold srtL
 rw [h1, h2]
set_option maxHeartbeats 4000000 in
set_option maxRecDepth 100000 in
theorem walk_LedgerOpens (t : List UInt8) (ht : t.length ≤ 4611686018427387904) (sa : Option Addr) (len scap : Nat) (F : Nat → Qop) (hl : len ≤ maxLen) (w : World) (hs : Ops w sa len F) :
  Calls Tryz.prog 4 #[.string (sB t), .slice sa len scap] w fun e w' => e = .returned (.bool true) ∧ Ext Non w w' := by
 unfold maxLen at hl
 have HS := hI_ hs
 clear hs
 cases ho : openB t with
 | false =>
  have KO : Hid (∀ w, Calls Tryz.prog 10 #[.string (sB t)] w fun e w' => e = .returned (.tuple #[.pointer none, .int .i64 5]) ∧ Ext Non w w') := hI_ (fun w => ledger_Open_no t ht (fun ⟨g, I, nd, e⟩ => by
   rw [e, (open_ok I nd).1] at ho
   cases ho) w)
  have KR : Hid (∀ w, Calls Tryz.prog 11 #[.string (sB t)] w fun e w' => e = .returned (.tuple #[.pointer none, .int .i64 5]) ∧ Ext Non w w') := hI_ (fun w => (ref12_Open_any t ht w).mono fun e w' ⟨h1, h2⟩ => by
   rcases h2 with ⟨_, _, _, _, _, h, _⟩ | ⟨h, _⟩
   ·rw [ho] at h; cases h
   ·exact ⟨h, h1⟩)
  clear ho ht
  generalize sB t = tt at *
  go_enter Tryz.func4, Tryz.ntmps4
  go_wp2_with fail
  refine Calls.ew (law12_lives _) ?_
  rintro e x1 rfl
  go_wp2_with fail
  refine Calls.ew (KO.out _) ?_
  rintro e x2 rfl
  go_wp2_with fail
  refine Calls.ew (KR.out _) ?_
  rintro e x3 rfl
  go_wp2
  go_ret
  exact ⟨rfl, exG0⟩
 | true =>
  obtain ⟨I, hr, he⟩ := open_back ho
  have nd := hr.nd
  have hse := srt_open t hr
  have KO : Hid (∀ w, Calls Tryz.prog 10 #[.string (sB t)] w fun e w' => ∃ b m, e = .returned (.tuple #[.pointer (some ⟨b, 0, none⟩), .int .i64 0]) ∧ Ext Non w w' ∧ LD w' b m (openG t) ∧ w.heap.size ≤ b ∧ w.heap.size ≤ m) := hI_ (fun w => by
   have := ledger_Open_ok (openG t) I nd w
   rw [hse, ← he] at this
   exact this)
  have KR : Hid (∀ w, Calls Tryz.prog 11 #[.string (sB t)] w fun e w' => ∃ b sb rb, e = .returned (.tuple #[.pointer (some ⟨b, 0, none⟩), .int .i64 0]) ∧ RLo w' b sb rb (openG t) ∧ Ext Non w w' ∧ w.heap.size ≤ b ∧ w.heap.size ≤ sb ∧ w.heap.size ≤ rb) := hI_ (fun w => (ref12_Open_any t ht w).mono fun e w' ⟨h1, h2⟩ => by
   rcases h2 with ⟨b, sb, rb, k1, k2, _, k3⟩ | ⟨_, h⟩
   ·exact ⟨b, sb, rb, k1, k2, h1, k3⟩
   ·rw [ho] at h; cases h)
  have KT : Hid (∀ w b m, LD w b m (openG t) → Calls Tryz.prog 12 #[.pointer (some ⟨b, 0, none⟩)] w fun e w' => e = .returned (.string (sB t)) ∧ Ext Non w w') := hI_ (fun w b m h => by
   have := ledger_Text b m (openG t) I w h
   rw [ledgS_of I nd, ← he] at this
   exact this)
  have HR := hI_ hr
  have I0 := hI_ I
  clear ho ht he nd hse hr I
  generalize openG t = g0 at *
  generalize sB t = tt at *
  go_enter Tryz.func4, Tryz.ntmps4
  go_wp2_with fail
  refine Calls.ew (law12_lives _) ?_
  rintro e x1 rfl
  have XA := hI_ (exG0 : Ext Non w x1.on)
  go_wp2_with fail
  refine (KO.out _).mono ?_
  rintro e _ ⟨b, m, rfl, hx, hL, hb, hm⟩
  obtain ⟨x2, rfl⟩ := hx.ew
  have HL2 := hI_ hL
  have HBM := hI_ (And.intro hb hm)
  clear hx hL hb hm
  go_wp2_with fail
  refine (KR.out _).mono ?_
  rintro e _ ⟨rl, sb, rb, rfl, hR0, hx, h1, h2, h3⟩
  obtain ⟨x3, rfl⟩ := hx.ew
  have hR := hR0.rl HR.out
  have HR3 := hI_ hR
  have HL3 := hI_ (Z.LD.of HL2.out x3.ext h2 hR.lt.2.1)
  have HFV : Hid (∀ k, Five b m rl sb rb k → w.heap.size ≤ k) := hI_ (fun k q => by
   have z1 := XA.out.size; have z2 := x2.ext.size; have := HBM.out
   rcases q with (q | q) | q | q | q <;> omega)
  have X3 := hI_ ((XA.out.trans x2.ext).trans x3.ext)
  clear hx hR hR0 h1 h2 h3 KO KR
  generalize x3.on = w3 at *
  clear HL2 XA HBM x3 x2 x1
  go_wp2_with fail
  refine Calls.ew (KT.out _ _ _ HL3.out.to) ?_
  rintro e x4 rfl
  have HL4 := hI_ (HL3.out.extN x4.ext); have HR4 := hI_ (HR3.out.extN x4.ext); have X4 := hI_ (X3.out.trans x4.ext)
  clear HL3 HR3 X3
  generalize x4.on = w4 at *
  clear x4
  go_wp2_with fail
  refine Calls.ew (law12_same b m rl sb rb g0 I0.out _ HL4.out.to HR4.out) ?_
  rintro e x5 rfl
  have HL5 := hI_ (HL4.out.extN x5.ext); have HR5 := hI_ (HR4.out.extN x5.ext); have X5 := hI_ (X4.out.trans x5.ext)
  clear HL4 HR4 X4
  generalize x5.on = w5 at *
  clear x5
  go_wp2_with fail
  go_loopg [9] len (fun k iv wr => ∃ (i : Nat) (g : Lg), i ≤ len ∧ k = len - i ∧ iv = .int .i64 i ∧ Inv g ∧ Z.LD sb wr b m g ∧ RL wr rl sb rb g ∧ Ext Non w wr)
  case atStart => exact ⟨0, g0, Nat.zero_le _, rfl, rfl, I0.out, HL5.out, HR5.out, X5.out⟩
  case round =>
   obtain ⟨i, g, hi, rfl, rfl, I, L, R, x⟩ := hrel
   have II := hI_ I; have LL := hI_ L; have RR := hI_ R; have XX := hI_ x
   clear I L R x HL5 HR5 X5
   by_cases hlt : i < len
   ·obtain ⟨ob, oo, rfl, hsb, p0, p1, p2, p3, p4, p5, p6⟩ := (HS.out.extN XX.out).at_ i hlt
    have OK := hI_ (HS.out.ok i hlt)
    generalize F i = q at *
    obtain ⟨qt, qc, qs, qk, qkey, qn, qid⟩ := q
    simp only at p0 p1 p2 p3 p4 p5 p6
    go_wp2_with fail
    refine (law12_step b m rl sb rb g II.out qt qc qs qk qkey qn qid OK.out.c OK.out.s OK.out.k OK.out.id (by have := OK.out.b0; have := OK.out.b1; simp only at this; omega) _ LL.out RR.out).mono ?_
    rintro e w5 ⟨g2, rfl, hI, hL, hR, hx⟩
    have I5 := hI_ hI; have L5 := hI_ hL; have R5 := hI_ hR
    have X5 := hI_ (XX.out.step hx (fun i hi e => by have := HFV.out i e; omega))
    clear hI hL hR hx p0 p1 p2 p3 p4 p5 p6
    go_wp2_with fail
    go_roundg (len - (i + 1))
    case measure => omega
    case rel => exact ⟨i + 1, g2, hlt, rfl, by go_num, I5.out, L5.out, R5.out, X5.out⟩
   ·go_wp2_with fail
    refine (law12_same b m rl sb rb g II.out _ LL.out.to RR.out).mono ?_
    rintro e w6 ⟨rfl, hx⟩
    go_wp2
    go_ret
    exact ⟨rfl, XX.out.trans hx⟩
set_option maxRecDepth 100000 in
open Go.ChangeShapes Go.WideShapes in
theorem arg_string {H : Type} {enc : TypeId × Value → H} {W : World} {base : Nat} {spare : Nat → Bool} {held : Bool} {v : Value} {d : DataW H} {p : List MemPlace} (h : DataW.Trod enc Tryz.prog W base spare held 9 v d p) {b0 : Nat} {r : Reach} (ok : Value.okWide Tryz.prog W r b0 9 v) : ∃ t : List UInt8, v = .string (sB t) ∧ d = .lit (.string t) := by
 obtain ⟨s, rfl⟩ := okWide_string Tryz.underlying9 ok
 obtain ⟨m, hm⟩ := h
 replace hm : DataW.trod enc Tryz.prog W base spare held m 9 [.string s] = some (d, p) := hm
 cases m with
 | zero => cases hm
 | succ m =>
  unfold DataW.trod at hm
  rw [Tryz.underlying9] at hm
  simp only at hm
  split at hm
  ·injection hm with hm
   injection hm with h1 h2
   exact ⟨s.data.toList, by rw [sB_of], h1.symm⟩
  ·cases hm
set_option maxRecDepth 100000 in
open Go.ChangeShapes Go.WideShapes in
theorem law_LedgerOpens {H : Type} {enc : TypeId × Value → H} (W : World) {base : Nat} (v0 : Value) (d0 : DataW H) (p0 : List MemPlace) (v1 : Value) (d1 : DataW H) (p1 : List MemPlace)
  (h0 : DataW.Trod enc Tryz.prog W 0 (fun _ => true) true 9 v0 d0 p0) (ok0 : Value.okWide Tryz.prog W .any base 9 v0)
  (h1 : DataW.Trod enc Tryz.prog W 0 (fun _ => true) true 25 v1 d1 p1) (ok1 : Value.okWide Tryz.prog W .any base 25 v1)
  {ts : List TypeId} (hts : ts[0]? = some 9) (hz : (DataW.weightsEach Tryz.prog ts [d0, d1]).all (· ≤ reachBytes) = true) :
  Calls Tryz.prog 4 #[v0, v1] W fun e w' => e = .returned (.bool true) ∧ Below W.heap.size W w' := by
 obtain ⟨t, rfl, rfl⟩ := arg_string h0 ok0
 obtain ⟨sa, len, scap, F, rfl, hl, hs⟩ := arg_ops ok1 h1
 have hb := sized_string hz hts (show [DataW.lit (.string t), d1][0]? = some (.lit (.string t)) from rfl)
 unfold reachBytes at hb
 exact (walk_LedgerOpens t (by omega) sa len scap F hl W hs).mono fun _ _ ⟨a, b⟩ => ⟨a, b.toBelow⟩
end Go.Proofs.YtfefeepljbfcdaaGreat
