/- Joined texts: Text12. What each proves stands at its head; no conditions beside those in its theorems. -/
import Derived.Sort.KeysCollected
import Derived.Test.YtfefeepljbfcdaaPjAA
import Derived.Test.YtfefeepljbfcdaaPjAB
import Derived.Test.YtfefeepljbfcdaaPjAE
import Derived.Test.YtfefeepljbfcdaaPjAI
import Derived.Test.YtfefeepljbfcdaaPjAM
import Derived.Test.YtfefeepljbfcdaaPjAF
import Derived.Test.YtfefeepljbfcdaaPjAJ
import Derived.Test.YtfefeepljbfcdaaPjAK
import Derived.Test.YtfefeepljbfcdaaPjAN
import Derived.Test.YtfefeepljbfcdaaPjAR
import Derived.Test.YtfefeepljbfcdaaPjAS
import Derived.Test.YtfefeepljbfcdaaPjAO
import Derived.Test.YtfefeepljbfcdaaPjAD
import Derived.Test.YtfefeepljbfcdaaPjAP
import Derived.Test.YtfefeepljbfcdaaPjAT
import Derived.Test.YtfefeepljbfcdaaPjAU
import Derived.Test.YtfefeepljbfcdaaPjAV
import Derived.Test.YtfefeepljbfcdaaPjAW
import Derived.Test.YtfefeepljbfcdaaPjAX
import Derived.Test.YtfefeepljbfcdaaPjAY
import Derived.Test.YtfefeepljbfcdaaPjAZ
import Derived.Test.YtfefeepljbfcdaaPjBA
/- Layer 12 (ledger): its text. -/
namespace Go.Proofs.Ytfefeepljbfcdaa
open Go.RowKit Go.Lib F64 Go.Maps
set_option linter.unusedSimpArgs false
set_option linter.unusedVariables false
attribute [local go_sem] run_store_float
attribute [local go_sem low] EW.cellN EW.frozN alloc_cell_or alloc_froz_or EW.cellF EW.frozF EW.cell1 EW.froz1
theorem ext_of_below {w w' : World} (h : Below w.heap.size w w') : Ext Non w w' := ⟨h.os, h.tape, h.output, h.size, fun k hk _ => h.block k hk⟩
/-- A ledger's keys, rising. -/
def keysB (ks : Ks) : List (List UInt8) := (ks.map (fun p => p.1.data.toList)).mergeSort (fun x y => decide (x ≤ y))
def keyRd (H : Type) : Value → Option (DataW H × List MemPlace) := fun _ => some (.nil, [])
theorem owns_keys {P : Program} {kt : TypeId} (hk : P.underlying kt = some .string) {w : World} {m : Nat} {ks : Ks} (h : MapW w m ks) (hl : ks.length ≤ 16) (hb : ∀ p ∈ ks, p.1.size ≤ 16) :
    ∃ D0 : DataW Unit, w.ownsMap P kt (keyRd Unit) m 16 D0 ∧ Maps.size D0 ≤ 16 ∧ ∀ ss : List (List UInt8), ss.Perm (strKeys D0) → ss.mergeSort (fun x y => decide (x ≤ y)) = keysB ks ∧ ss.length = ks.length := by
  obtain ⟨es, clock, hm, st, e⟩ := h.ex
  have hlen : es.size = ks.length := by
    have := congrArg List.length e
    simpa using this
  have hkey : ∀ x ∈ es.toList, ∃ p ∈ ks, x.key = .string p.1 ∧ keyOf P kt x.key = some (.string p.1.data.toList) := fun x hx => by
    have : (x.key, x.val) ∈ ks.map kvE := by rw [← e]; exact List.mem_map.2 ⟨x, hx, rfl⟩
    obtain ⟨p, hp, he⟩ := List.mem_map.1 this
    unfold kvE at he
    injection he with e1 e2
    refine ⟨p, hp, e1.symm, ?_⟩
    have hs := hb p hp
    rw [← e1]
    unfold keyOf mapKey
    simp only [hk]
    rw [if_pos (by unfold maxLen; omega)]
  have hrd : ∀ x ∈ es.toList, ∃ p ∈ ks, x.key = .string p.1 ∧ WideElems.rd P kt (keyRd Unit) x = some (.string p.1.data.toList, .nil) := fun x hx => by
    obtain ⟨p, hp, h1, h2⟩ := hkey x hx
    refine ⟨p, hp, h1, ?_⟩
    unfold WideElems.rd keyRd
    rw [h2]; rfl
  refine ⟨_, ⟨es, clock, hm, ⟨by rw [hlen]; unfold maxLen; omega, st, fun x hx => by obtain ⟨p, -, -, h⟩ := hrd x hx; exact ⟨_, h⟩⟩, by omega, rfl⟩, ?_, fun ss hp => ?_⟩
  · have := (WideShapes.sorted_perm (es.toList.map (WideElems.rg P kt (keyRd Unit)))).length_eq
    show (List.foldr DataW.insert [] _).length ≤ 16
    rw [this, List.length_map, Array.length_toList, hlen]; exact hl
  · have h1 : (strKeys (DataW.map ((es.toList.map (WideElems.rg P kt (keyRd Unit))).foldr DataW.insert []))).Perm (ks.map (fun p => p.1.data.toList)) := by
      show ((List.foldr DataW.insert [] _).map (fun p => strOf p.1)).Perm _
      refine ((WideShapes.sorted_perm _).map _).trans ?_
      rw [List.map_map]
      have e1 : es.toList.map ((fun p : Lit × DataW Unit => strOf p.1) ∘ WideElems.rg P kt (keyRd Unit)) = es.toList.map (fun x => match x.key with | .string s => s.data.toList | _ => []) := List.map_congr_left (fun x hx => by
        obtain ⟨p, -, h1, h2⟩ := hrd x hx
        show strOf (WideElems.rg P kt (keyRd Unit) x).1 = _
        unfold WideElems.rg
        rw [h2, h1]; rfl)
      have e2 : es.toList.map (fun x => match x.key with | .string s => s.data.toList | _ => []) = ks.map (fun p => p.1.data.toList) := by
        have := congrArg (List.map (fun q : Value × Value => match q.1 with | .string s => s.data.toList | _ => ([] : List UInt8))) e
        rw [List.map_map, List.map_map] at this
        exact this
      rw [e1, e2]
    have h2 := hp.trans h1
    refine ⟨mergeSort_of_perm h2, ?_⟩
    rw [h2.length_eq, List.length_map]
theorem doneS_le {W : Wr} (h : WOk W) : (doneS W).size ≤ 1048576 := by
  unfold doneS
  split
  · show W.bs.toArray.size ≤ _
    have h1 := h.lim; have h2 := h.room
    rw [List.size_toArray]; omega
  · show (0 : Nat) ≤ _; omega
theorem WOk.fold {α : Type} (f : Wr → α → Wr) (hf : ∀ W x, WOk W → WOk (f W x)) : ∀ (l : List α) (W : Wr), WOk W → WOk (l.foldl f W)
  | [], _, h => h
  | x :: t, W, h => WOk.fold f hf t _ (hf W x h)
theorem confS_le (ep : Int) (xs : List Int) : (confS ep xs).size ≤ 1048576 := by
  unfold confS
  split
  · rename_i hc
    have hm : membersB xs = true := by unfold confB at hc; simp only [Bool.and_eq_true] at hc; exact hc.2
    have h4 := (members_facts hm).2.2.2
    refine doneS_le ?_
    unfold confW
    refine WOk.fold _ (fun W x h => h.put _ _) _ _ ?_
    unfold byteW wordW
    exact (((WOk.new (by omega)).put _ _).put _ _).put _ _
  · show (0 : Nat) ≤ _; omega
theorem resS_le (cd : Int) (x : Nat) : (resS cd x).size ≤ 1048576 := by
  unfold resS
  split
  · refine doneS_le ?_
    unfold resW bitsW byteW
    exact ((WOk.new (by decide)).put _ _).put _ _
  · show (0 : Nat) ≤ _; omega
theorem keysB_mem {ks : Ks} {k : List UInt8} (h : k ∈ keysB ks) : ∃ p ∈ ks, k = p.1.data.toList := by
  unfold keysB at h
  have h2 := (List.mergeSort_perm _ _).mem_iff.1 h
  obtain ⟨p, hp, e⟩ := List.mem_map.1 h2
  exact ⟨p, hp, e.symm⟩
theorem valK_lt {ks : Ks} (h : ∀ p ∈ ks, p.2 < 18446744073709551616) (k : ByteArray) : valK ks k < 18446744073709551616 := by
  unfold valK getK
  cases hf : ks.find? (fun p => decide (p.1 = k)) with
  | none => simp
  | some p => exact h p (List.mem_of_find?_eq_some hf)
theorem MapW.extN {w w' : World} {m : Nat} {ks : Ks} (h : MapW w m ks) (x : Ext Non w w') : MapW w' m ks := h.ext x (fun f => f)
/-! The text. -/
def keyW (ks : Ks) (W : Wr) (k : List UInt8) : Wr := bitsW (textW W k) (canonN (valK ks ⟨k.toArray⟩))
def cliW (cl : Nat → Cl) (W : Wr) (i : Nat) : Wr := textW (longW W (cl i).stamp) (resS (cl i).code (cl i).real).data.toList
def lheadW (g : Lg) : Wr := byteW (textW (byteW (newW 65536) 76) (confS g.epoch g.mem).data.toList) g.next.length
def midW (g : Lg) : Wr := byteW (longW (g.next.foldl byteW (lheadW g)) g.done) g.keys.length
def ledgW (g : Lg) : Wr := (List.range 8).foldl (cliW g.cl) ((keysB g.keys).foldl (keyW g.keys) (midW g))
def ledgS (g : Lg) : ByteArray := doneS (ledgW g)
/-- A row of another type stands while a writer writes. -/
theorem row_wrote {w w' : World} {n0 b : Nat} {W W' : Wr} {base : Nat} {e : TypeId} {k : Nat} {v : Value} {n : Nat} {xs : List Value} (h : w.ownsRow base e k v n xs) (hp : PW w n0 b W) (he1 : e ≠ 5) (he2 : e ≠ 125) (x : Wrote w w' n0 b W') : w'.ownsRow base e k v n xs := by
  refine ⟨h.1, ?_⟩
  rcases h.2 with hn | ⟨g, cap, cur, rfl, hb, hg, r⟩
  · exact .inl hn
  · refine .inr ⟨g, cap, cur, rfl, hb, (x.x.block g (Array.getElem?_eq_some_iff.1 hg).1 (WB.other hg (fun q => ?_) he1)).trans hg, r⟩
    subst q
    obtain ⟨_, r2, _⟩ := hp.ex
    rw [hg] at r2; injection r2 with r2; injection r2 with _ r2 _; exact he2 r2
theorem bx_wrote {w w' : World} {n0 b : Nat} {W W' : Wr} {k : Nat} {vs : List Value} {t : TypeId} (h : Bx w k vs t) (hp : PW w n0 b W) (he1 : t ≠ 5) (he2 : t ≠ 125) (x : Wrote w w' n0 b W') : Bx w' k vs t :=
  h.ext x.x (WB.other h.h (fun q => by
    subst q
    obtain ⟨_, r2, _⟩ := hp.ex
    have h2 := h.h
    rw [h2] at r2; injection r2 with r2; injection r2 with _ r2 _; exact he2 r2) he1)
theorem row_strs {w : World} {base : Nat} {e : TypeId} {v : Value} (l : List (List UInt8)) (h : w.ownsRow base e 1 v l.length (l.map encStr)) : ∃ a cap, v = .slice a l.length cap ∧ l.length ≤ cap ∧ cap ≤ 9223372036854775807 ∧ ∀ j (hj : j < l.length), ∃ g, a = some ⟨g, 0, none⟩ ∧ w.cell? ⟨g, j, none⟩ = some (.string ⟨l[j].toArray⟩) := by
  rcases h.2 with ⟨rfl, hn⟩ | ⟨g, cap, cur, rfl, hb, hg, hc, hm, hs, ht⟩
  · exact ⟨none, 0, by rw [hn], by omega, by omega, fun j hj => by omega⟩
  · refine ⟨_, cap, rfl, hc, by unfold maxLen at hm; omega, fun j hj => ⟨g, rfl, ?_⟩⟩
    have q : (l.map encStr)[j]? = some (encStr l[j]) := by rw [List.getElem?_map, List.getElem?_eq_getElem hj]; rfl
    rw [← ht, List.getElem?_take, if_pos (by omega), Array.getElem?_toList] at q
    have hgc : w.cell? ⟨g, j, none⟩ = cur[j]? := by simp [World.cell?, hg]
    rw [hgc]; exact q
theorem run_index8 (cl : Nat → Cl) : ∀ (k : Nat) (hk : k < 8) (w : World), (Instr.index 79 (.agg (clRow cl).toArray) (.int .i64 (k : Int))).run Try.prog w = .ok (.agg #[.int .i64 (cl k).stamp, .int .i64 (cl k).code, .float .f64 (cl k).real]) w
  | 0, _, w => by kernel_rfl
  | 1, _, w => by kernel_rfl
  | 2, _, w => by kernel_rfl
  | 3, _, w => by kernel_rfl
  | 4, _, w => by kernel_rfl
  | 5, _, w => by kernel_rfl
  | 6, _, w => by kernel_rfl
  | 7, _, w => by kernel_rfl
theorem info_last : (Try.prog.info? 78).map (·.size) = some 3 := by kernel_rfl
theorem info_lasts : (Try.prog.info? 79).map (·.size) = some 24 := by kernel_rfl
set_option maxHeartbeats 4000000 in
set_option maxRecDepth 100000 in
theorem ledger_Text (b m : Nat) (g : Lg) (I : Inv g) (w : World) (h : LD w b m g) : Calls Try.prog 27 #[.pointer (some ⟨b, 0, none⟩)] w fun e w' =>
    e = .returned (.string (ledgS g)) ∧ Ext Non w w' := by
  have HH := Go.Lib.hid h
  obtain ⟨a1, c1, a2, c2, r, i1, i2, -, -⟩ := h.ex
  have HM := Go.Lib.hid h.mp
  have HI := Go.Lib.hid I
  have I2 := Go.Lib.hid i2
  have q2 : w.cell? ⟨b, 2, none⟩ = some (.slice a2 g.next.length c2) := cell_of_heap r rfl
  have q3 : w.cell? ⟨b, 3, none⟩ = some (.int .i64 g.done) := cell_of_heap r rfl
  have q4 : w.cell? ⟨b, 4, none⟩ = some (.map (some m)) := cell_of_heap r rfl
  obtain ⟨R, hR⟩ : ∃ R, R = clRow g.cl := ⟨_, rfl⟩
  have hrg : w.rangeAt b 5 R := fun j v hv => cell_of_heap r (by
    rw [hR] at hv
    show (rowLg g a1 c1 a2 c2 m)[5 + j]? = some v
    rw [show 5 + j = j + 5 by omega]
    exact hv)
  have hix0 : ∀ (k : Nat) (hk : k < 8) (w : World), (Instr.index 79 (.agg R.toArray) (.int .i64 (k : Int))).run Try.prog w = .ok (.agg #[.int .i64 (g.cl k).stamp, .int .i64 (g.cl k).code, .float .f64 (g.cl k).real]) w := by rw [hR]; exact run_index8 g.cl
  have hsz : (Try.prog.info? 79).map (·.size) = some R.length := by rw [hR]; exact info_lasts
  have HIX := Go.Lib.hid hix0; have HRG := Go.Lib.hid (And.intro hrg hsz)
  obtain ⟨mn1, -, mn2, mn3⟩ := members_facts I.mn
  have hep := I.ep; have hdn := I.dn; have hkl := I.kl
  clear h r i1 i2 hR hrg hix0 hsz mn1 I
  go_enter Try.func27, Try.ntmps27
  go_wp2_with fail
  have HL := Go.Lib.hid (Nat.le_refl w.heap.size)
  refine (pack_New 65536 (by decide) w.heap.size w HL.out).mono ?_
  rintro e _ ⟨wb, rfl, hx, hP, hb⟩
  obtain ⟨z0, rfl⟩ := hx.ew
  have P0 := Go.Lib.hid hP
  clear hP hx hb
  go_wp2_with fail
  refine (pack_Byte w.heap.size wb _ 76 (by unfold I64; omega) _ P0.out z0.ext.size).mono ?_
  rintro e _ ⟨rfl, hw1⟩
  obtain ⟨z1, rfl, hP, hs1⟩ := wrote_ew hw1 HL.out
  have P1 := Go.Lib.hid hP
  clear hP hw1 P0 hs1
  go_wp2_with fail
  refine (ledger_Conf b m g HI.out _ (HH.out.extN (by (repeat (first | with_reducible (first | exact Ext.refl _ _ | assumption | refine Ext.upN ?_ | refine Ext.alloc ?_ _ | refine Ext.upA (by assumption) ?_ | refine Ext.upW ?_ | refine Ext.drew ?_ | refine Ext.drewN ?_ _ | refine Ext.up1N (by first | omega | simp) ?_) | refine Ext.alloc ?_ _ | refine Ext.setCell ?_ (.inr (by first | omega | simp)) _))))).mono ?_
  rintro e _ ⟨ca, cc, rfl, hx, hIc, -⟩
  obtain ⟨z2, rfl⟩ := hx.ew
  have IC := Go.Lib.hid hIc
  have P2 := Go.Lib.hid (P1.out.extN z2.ext)
  clear hIc hx P1
  go_wp2_with fail
  refine Calls.ew (council_Text g.epoch (by unfold I64; omega) ca cc g.mem _ IC.out) ?_
  rintro e z3 rfl
  have P3 := Go.Lib.hid (P2.out.extN z3.ext)
  clear P2 IC
  have HCS : Hid ((confS g.epoch g.mem).size ≤ 9223372036854775807) := Go.Lib.hid (Nat.le_trans (confS_le _ _) (by omega))
  obtain ⟨cs, hcs⟩ : ∃ cs, cs = confS g.epoch g.mem := ⟨_, rfl⟩
  have HCE := Go.Lib.hid hcs
  rw [← hcs] at HCS ⊢
  clear hcs
  have X3 : Ext Non w z3.on := by (repeat (first | with_reducible (first | exact Ext.refl _ _ | assumption | refine Ext.upN ?_ | refine Ext.alloc ?_ _ | refine Ext.upA (by assumption) ?_ | refine Ext.upW ?_ | refine Ext.drew ?_ | refine Ext.drewN ?_ _ | refine Ext.up1N (by first | omega | simp) ?_) | refine Ext.alloc ?_ _ | refine Ext.setCell ?_ (.inr (by first | omega | simp)) _))
  obtain ⟨z4, hz4⟩ := X3.ew
  rw [hz4] at P3 ⊢
  clear hz4 X3 z3 z2 z1 z0
  go_wp2_with fail
  refine (pack_Text w.heap.size wb _ cs HCS.out _ P3.out z4.ext.size).mono ?_
  rintro e _ ⟨rfl, hw1⟩
  obtain ⟨z5, rfl, hP, hs1⟩ := wrote_ew hw1 HL.out
  have P5 := Go.Lib.hid hP
  clear hP hw1 P3 hs1
  go_wp2_with fail
  refine (pack_Byte w.heap.size wb _ (g.next.length : Int) (by unfold I64; omega) _ P5.out z5.ext.size).mono ?_
  rintro e _ ⟨rfl, hw1⟩
  obtain ⟨z6, rfl, hP, hs1⟩ := wrote_ew hw1 HL.out
  have P6 : Hid (PW z6.on w.heap.size wb ((g.next.take 0).foldl byteW (lheadW g))) := Go.Lib.hid (by rw [HCE.out] at hP; exact hP)
  clear hP hw1 P5 hs1
  go_wp2_with fail
  go_loopg [42] g.next.length (fun n iv wr => ∃ (i : Nat) (z : EW Non w), i ≤ g.next.length ∧ n = g.next.length - i ∧ iv = .int .i64 i ∧ wr = z.on ∧ Hid (PW wr w.heap.size wb ((g.next.take i).foldl byteW (lheadW g))))
  case atStart => exact ⟨0, ⟨_, by (repeat (first | with_reducible (first | exact Ext.refl _ _ | assumption | refine Ext.upN ?_ | refine Ext.alloc ?_ _ | refine Ext.upA (by assumption) ?_ | refine Ext.upW ?_ | refine Ext.drew ?_ | refine Ext.drewN ?_ _ | refine Ext.up1N (by first | omega | simp) ?_) | refine Ext.alloc ?_ _ | refine Ext.setCell ?_ (.inr (by first | omega | simp)) _))⟩, Nat.zero_le _, rfl, rfl, rfl, P6⟩
  case round =>
    clear P6
    obtain ⟨i, z, hi, hn, rfl, rfl, HP⟩ := hrel
    have HN := Go.Lib.hid hn; clear hn
    by_cases hlt : i < g.next.length
    · obtain ⟨ab, ao, rfl, hcell, hx64⟩ := I2.out.at_ i hlt
      have HT := Go.Lib.hid (fold_take byteW (lheadW g) g.next i hlt)
      have HX := Go.Lib.hid hx64
      clear hx64
      generalize g.next[i] = x at *
      go_wp2_with fail
      refine (pack_Byte w.heap.size wb _ x HX.out _ HP.out z.ext.size).mono ?_
      rintro e _ ⟨rfl, hw1⟩
      obtain ⟨z7, rfl, hP, hs1⟩ := wrote_ew hw1 HL.out
      rw [← HT.out] at hP
      have P7 := Go.Lib.hid hP
      clear hP hw1 hs1
      go_wp2_with fail
      go_roundg (g.next.length - (i + 1))
      case measure => have := HN.out; omega
      case rel => exact ⟨i + 1, ⟨_, by (repeat (first | with_reducible (first | exact Ext.refl _ _ | assumption | refine Ext.upN ?_ | refine Ext.alloc ?_ _ | refine Ext.upA (by assumption) ?_ | refine Ext.upW ?_ | refine Ext.drew ?_ | refine Ext.drewN ?_ _ | refine Ext.up1N (by first | omega | simp) ?_) | refine Ext.alloc ?_ _ | refine Ext.setCell ?_ (.inr (by first | omega | simp)) _))⟩, hlt, rfl, by go_num, rfl, P7⟩
    · obtain rfl : i = g.next.length := by omega
      have hp := HP.out
      rw [List.take_length] at hp
      have P8 := Go.Lib.hid hp
      clear hp HP HN
      go_wp2_with fail
      refine (pack_Long w.heap.size wb _ g.done (by unfold I64; omega) _ P8.out z.ext.size).mono ?_
      rintro e _ ⟨rfl, hw1⟩
      obtain ⟨z9, rfl, hP, hs1⟩ := wrote_ew hw1 HL.out
      have P9 := Go.Lib.hid hP
      clear hP hw1 hs1 P8
      have hln : (Builtin.len_ #[76] 3 #[.map (some m)]).run Try.prog z9.on = .ok (.int .i64 g.keys.length) z9.on := (HM.out.extN z9.ext).len Try.underlying76 _
      go_wp2_with fail
      refine (pack_Byte w.heap.size wb _ (g.keys.length : Int) (by unfold I64; omega) _ P9.out z9.ext.size).mono ?_
      rintro e _ ⟨rfl, hw1⟩
      obtain ⟨zA, rfl, hP, hs1⟩ := wrote_ew hw1 HL.out
      have PA : Hid (PW zA.on w.heap.size wb (midW g)) := Go.Lib.hid hP
      clear hP hw1 hs1 P9 hln
      go_wp2_with fail
      refine (maps_Keys (some m) zA.on).mono ?_
      rintro e _ ⟨rfl, rfl⟩
      obtain ⟨D0, hown, hD, hss⟩ := owns_keys Try.underlying9 (HM.out.extN zA.ext) hkl (fun p hp => (HI.out.kb p hp).2.1)
      have HSS := Go.Lib.hid hss
      have HOW := Go.Lib.hid (And.intro hown hD)
      clear hown hD hss
      go_wp2_with fail
      refine (slices_Sorted_keys m 16 D0 (keyRd Unit) zA.on HOW.out.1 (by have := HOW.out.2; unfold maxLen; omega) (by have := HOW.out.2; omega)).mono ?_
      rintro e _ ⟨v, ss, rfl, hperm, hrow, hbel⟩
      obtain ⟨zB0, rfl⟩ := (ext_of_below hbel).ew
      have XB : Ext Non w zB0.on := by (repeat (first | with_reducible (first | exact Ext.refl _ _ | assumption | refine Ext.upN ?_ | refine Ext.alloc ?_ _ | refine Ext.upA (by assumption) ?_ | refine Ext.upW ?_ | refine Ext.drew ?_ | refine Ext.drewN ?_ _ | refine Ext.up1N (by first | omega | simp) ?_) | refine Ext.alloc ?_ _ | refine Ext.setCell ?_ (.inr (by first | omega | simp)) _))
      have hpB := PA.out.extN (by (repeat (first | with_reducible (first | exact Ext.refl _ _ | assumption | refine Ext.upN ?_ | refine Ext.alloc ?_ _ | refine Ext.upA (by assumption) ?_ | refine Ext.upW ?_ | refine Ext.drew ?_ | refine Ext.drewN ?_ _ | refine Ext.up1N (by first | omega | simp) ?_) | refine Ext.alloc ?_ _ | refine Ext.setCell ?_ (.inr (by first | omega | simp)) _)) : Ext Non zA.on zB0.on)
      obtain ⟨zB, hzB⟩ := XB.ew
      rw [hzB] at hrow hpB ⊢
      obtain ⟨hsort, hslen⟩ := HSS.out ss hperm
      rw [hsort] at hrow
      have hkbl : (keysB g.keys).length = ss.length := by rw [← hsort]; exact List.length_mergeSort _
      rw [← hkbl] at hrow
      have hk16 : (keysB g.keys).length ≤ 16 := by omega
      have HROW0 := Go.Lib.hid (ownR_base hrow (Nat.zero_le _))
      have PB : Hid (PW zB.on w.heap.size wb (((keysB g.keys).take 0).foldl (keyW g.keys) (midW g))) := Go.Lib.hid hpB
      obtain ⟨ka, kc, hv, hkc1, hkc2, -⟩ := row_strs _ hrow
      subst hv
      clear hrow hpB hzB XB hbel hperm hsort hslen hkbl HOW HSS PA
      have HKM : Hid (∀ k ∈ keysB g.keys, k.length ≤ 16) := Go.Lib.hid (fun k hk => by
        obtain ⟨p, hp, rfl⟩ := keysB_mem hk
        have := (HI.out.kb p hp).2.1
        rw [Array.length_toList]; exact this)
      generalize hkb : keysB g.keys = kb at *
      have HKB := Go.Lib.hid hkb
      clear hkb
      have HKV : Hid (∀ k : ByteArray, valK g.keys k < 18446744073709551616) := Go.Lib.hid (valK_lt (fun p hp => (HI.out.kb p hp).2.2.1))
      have HZ := Go.Lib.hid zeroF
      go_wp2_with fail
      go_loopg [70] kb.length (fun n iv wr => ∃ (i : Nat) (z : EW Non w), i ≤ kb.length ∧ n = kb.length - i ∧ iv = .int .i64 i ∧ wr = z.on ∧ Hid (PW wr w.heap.size wb ((kb.take i).foldl (keyW g.keys) (midW g))) ∧ Hid (wr.ownsRow 0 9 1 (.slice ka kb.length kc) kb.length (kb.map encStr)))
      case atStart => exact ⟨0, ⟨_, by (repeat (first | with_reducible (first | exact Ext.refl _ _ | assumption | refine Ext.upN ?_ | refine Ext.alloc ?_ _ | refine Ext.upA (by assumption) ?_ | refine Ext.upW ?_ | refine Ext.drew ?_ | refine Ext.drewN ?_ _ | refine Ext.up1N (by first | omega | simp) ?_) | refine Ext.alloc ?_ _ | refine Ext.setCell ?_ (.inr (by first | omega | simp)) _))⟩, Nat.zero_le _, rfl, rfl, rfl, PB, HROW0⟩
      case round =>
        clear PB HROW0
        obtain ⟨i, z, hi, hn, rfl, rfl, HP, HR⟩ := hrel
        have HN := Go.Lib.hid hn; clear hn
        by_cases hlt : i < kb.length
        · obtain ⟨ka', kc', e1, -, -, hat⟩ := row_strs _ HR.out
          injection e1 with e1 e2 e3
          subst e1
          obtain ⟨kg, rfl, hcell⟩ := hat i hlt
          have HT := Go.Lib.hid (fold_take (keyW g.keys) (midW g) kb i hlt)
          have HKL : Hid ((⟨kb[i].toArray⟩ : ByteArray).size ≤ 9223372036854775807) := Go.Lib.hid (by
            have := HKM.out _ (List.getElem_mem hlt)
            show kb[i].toArray.size ≤ _
            rw [List.size_toArray]; omega)
          have HDK : Hid ((⟨kb[i].toArray⟩ : ByteArray).data.toList = kb[i]) := Go.Lib.hid rfl
          have HKW : Hid (∀ W, keyW g.keys W kb[i] = bitsW (textW W kb[i]) (canonN (valK g.keys ⟨kb[i].toArray⟩))) := Go.Lib.hid (fun W => rfl)
          clear hat e2 e3
          generalize kb[i] = ky at *
          obtain ⟨sk, hsk⟩ : ∃ sk : ByteArray, sk = ⟨ky.toArray⟩ := ⟨_, rfl⟩
          rw [← hsk] at hcell HKL HDK HKW
          clear hsk
          go_wp2_with fail
          refine (pack_Text w.heap.size wb _ sk HKL.out _ HP.out z.ext.size).mono ?_
          rintro e _ ⟨rfl, hw1⟩
          have hr1 := row_wrote HR.out HP.out (by decide) (by decide) hw1
          obtain ⟨z7, rfl, hP, hs1⟩ := wrote_ew hw1 HL.out
          rw [HDK.out] at hP
          have P7 := Go.Lib.hid hP
          have R7 := Go.Lib.hid hr1
          clear hP hw1 hs1 hcell hr1
          have hlk := (HM.out.extN z7.ext).lookup1 Try.underlying76 Try.underlying9 (HZ.out z7.on) sk
          have hvk := HKV.out sk
          generalize valK g.keys sk = vk at *
          have hcv := canon_lt hvk
          go_wp2_with fail
          refine (reals_Bits vk _).mono ?_
          rintro e _ ⟨rfl, rfl⟩
          go_wp2_with fail
          refine (pack_Bits w.heap.size wb _ (canonN vk) hcv _ P7.out z7.ext.size).mono ?_
          rintro e _ ⟨rfl, hw1⟩
          have hr2 := row_wrote R7.out P7.out (by decide) (by decide) hw1
          obtain ⟨z8, rfl, hP, hs1⟩ := wrote_ew hw1 HL.out
          rw [← HKW.out, ← HT.out] at hP
          have P8 := Go.Lib.hid hP
          have R8 := Go.Lib.hid hr2
          clear hP hw1 hs1 hr2 hlk
          go_wp2_with fail
          go_roundg (kb.length - (i + 1))
          case measure => have := HN.out; omega
          case rel => exact ⟨i + 1, ⟨_, by (repeat (first | with_reducible (first | exact Ext.refl _ _ | assumption | refine Ext.upN ?_ | refine Ext.alloc ?_ _ | refine Ext.upA (by assumption) ?_ | refine Ext.upW ?_ | refine Ext.drew ?_ | refine Ext.drewN ?_ _ | refine Ext.up1N (by first | omega | simp) ?_) | refine Ext.alloc ?_ _ | refine Ext.setCell ?_ (.inr (by first | omega | simp)) _))⟩, hlt, rfl, by go_num, rfl, P8, R8⟩
        · obtain rfl : i = kb.length := by omega
          have hp := HP.out
          rw [List.take_length] at hp
          have PC := Go.Lib.hid hp
          clear hp HP HN HR
          obtain ⟨W0, hW0⟩ : ∃ W0, W0 = kb.foldl (keyW g.keys) (midW g) := ⟨_, rfl⟩
          rw [← hW0] at PC
          have PC0 : Hid (PW z.on w.heap.size wb ((List.range 0).foldl (cliW g.cl) W0)) := PC
          have hrz := range_ext HRG.out.1 z.ext (fun f => f)
          have HRZ := Go.Lib.hid hrz
          have HS : Hid (ledgS g = doneS ((List.range 8).foldl (cliW g.cl) W0)) := Go.Lib.hid (by unfold ledgS ledgW; rw [hW0, HKB.out])
          clear hrz hW0 PC
          go_upto_region 22 with (refine wpList_load_mid rfl 79 _ rfl b 5 rfl R _ HRZ.out Try.underlying79 rfl HRG.out.2 ?_)
          go_loopg [91] 8 (fun n iv wr => ∃ (i : Nat) (z : EW Non w), i ≤ 8 ∧ n = 8 - i ∧ iv = .int .i64 i ∧ wr = z.on ∧ Hid (PW wr w.heap.size wb ((List.range i).foldl (cliW g.cl) W0)))
          case atStart => exact ⟨0, ⟨_, by (repeat (first | with_reducible (first | exact Ext.refl _ _ | assumption | refine Ext.upN ?_ | refine Ext.alloc ?_ _ | refine Ext.upA (by assumption) ?_ | refine Ext.upW ?_ | refine Ext.drew ?_ | refine Ext.drewN ?_ _ | refine Ext.up1N (by first | omega | simp) ?_) | refine Ext.alloc ?_ _ | refine Ext.setCell ?_ (.inr (by first | omega | simp)) _))⟩, by omega, rfl, rfl, rfl, PC0⟩
          case round =>
            clear PC0
            obtain ⟨i, z, hi, hn, rfl, rfl, HP⟩ := hrel
            have HN := Go.Lib.hid hn; clear hn
            by_cases hlt : i < 8
            · have hix := HIX.out i hlt z.on
              obtain ⟨cb1, cb2, cb3, cb4, cb5, -, -⟩ := HI.out.cb i
              have HT : Hid ((List.range (i + 1)).foldl (cliW g.cl) W0 = textW (longW ((List.range i).foldl (cliW g.cl) W0) (g.cl i).stamp) (resS (g.cl i).code (g.cl i).real).data.toList) := Go.Lib.hid (by rw [List.range_succ, List.foldl_append]; rfl)
              generalize (g.cl i).stamp = sta at *
              generalize (g.cl i).code = cod at *
              generalize (g.cl i).real = rea at *
              go_upto_region 24 with (refine wpList_store_box rfl 78 _ _ rfl z.on.heap.size _ [.int .i64 sta, .int .i64 cod, .float .f64 rea] _ rfl rfl (Bx.newAt _ _ _ _ rfl) rfl info_last (by simp [Value.oneCell']) (fun W hB => ?_); have BX := Go.Lib.hid hB; clear hB)
              have XW : Ext Non z.on W.on := by (repeat (first | with_reducible (first | exact Ext.refl _ _ | assumption | refine Ext.upN ?_ | refine Ext.alloc ?_ _ | refine Ext.upA (by assumption) ?_ | refine Ext.upW ?_ | refine Ext.drew ?_ | refine Ext.drewN ?_ _ | refine Ext.up1N (by first | omega | simp) ?_) | refine Ext.alloc ?_ _ | refine Ext.setCell ?_ (.inr (by first | omega | simp)) _))
              have hpw := HP.out.extN XW
              obtain ⟨y5, hy5⟩ := (z.ext.trans XW).ew
              rw [hy5] at BX hpw ⊢
              clear hy5 XW W hix HP
              have P5 := Go.Lib.hid hpw
              clear hpw
              try simp only [Act.put]
              generalize z.on.heap.size = kx at *
              have y0 : y5.on.cell? ⟨kx, 0, none⟩ = some (.int .i64 sta) := BX.out.cell rfl
              go_wp2_with fail
              refine (pack_Long w.heap.size wb _ sta (by unfold I64; omega) _ P5.out y5.ext.size).mono ?_
              rintro e _ ⟨rfl, hw1⟩
              have hbx := bx_wrote BX.out P5.out (by decide) (by decide) hw1
              obtain ⟨y6, rfl, hP, hs1⟩ := wrote_ew hw1 HL.out
              have P6 := Go.Lib.hid hP
              have BY := Go.Lib.hid hbx
              clear hP hw1 hs1 y0 hbx
              have y1 : y6.on.cell? ⟨kx, 1, none⟩ = some (.int .i64 cod) := BY.out.cell rfl
              have y2 : y6.on.cell? ⟨kx, 2, none⟩ = some (.float .f64 rea) := BY.out.cell rfl
              go_wp2_with fail
              refine Calls.ew (deeds_ResultText cod (by unfold I64; omega) rea cb5 _) ?_
              rintro e y7 rfl
              have P7 := Go.Lib.hid (P6.out.extN y7.ext)
              clear y1 y2
              have HRS : Hid ((resS cod rea).size ≤ 9223372036854775807) := Go.Lib.hid (Nat.le_trans (resS_le _ _) (by omega))
              obtain ⟨rs, hrs⟩ : ∃ rs, rs = resS cod rea := ⟨_, rfl⟩
              rw [← hrs] at HRS HT ⊢
              clear hrs
              have X8 : Ext Non w y7.on := by (repeat (first | with_reducible (first | exact Ext.refl _ _ | assumption | refine Ext.upN ?_ | refine Ext.alloc ?_ _ | refine Ext.upA (by assumption) ?_ | refine Ext.upW ?_ | refine Ext.drew ?_ | refine Ext.drewN ?_ _ | refine Ext.up1N (by first | omega | simp) ?_) | refine Ext.alloc ?_ _ | refine Ext.setCell ?_ (.inr (by first | omega | simp)) _))
              obtain ⟨y8, hy8⟩ := X8.ew
              rw [hy8] at P7 ⊢
              clear hy8 X8
              go_wp2_with fail
              refine (pack_Text w.heap.size wb _ rs HRS.out _ P7.out y8.ext.size).mono ?_
              rintro e _ ⟨rfl, hw1⟩
              obtain ⟨y9, rfl, hP, hs1⟩ := wrote_ew hw1 HL.out
              rw [← HT.out] at hP
              have P9 := Go.Lib.hid hP
              clear hP hw1 hs1
              go_wp2_with fail
              go_roundg (8 - (i + 1))
              case measure => have := HN.out; omega
              case rel => exact ⟨i + 1, ⟨_, by (repeat (first | with_reducible (first | exact Ext.refl _ _ | assumption | refine Ext.upN ?_ | refine Ext.alloc ?_ _ | refine Ext.upA (by assumption) ?_ | refine Ext.upW ?_ | refine Ext.drew ?_ | refine Ext.drewN ?_ _ | refine Ext.up1N (by first | omega | simp) ?_) | refine Ext.alloc ?_ _ | refine Ext.setCell ?_ (.inr (by first | omega | simp)) _))⟩, by omega, rfl, by go_num, rfl, P9⟩
            · obtain rfl : i = 8 := by omega
              go_wp2_with fail
              refine Calls.ew (pack_Done w.heap.size wb _ _ HP.out) ?_
              rintro e y1 rfl
              rw [← HS.out]
              go_wp2
              go_ret
              exact ⟨rfl, by (repeat (first | with_reducible (first | exact Ext.refl _ _ | assumption | refine Ext.upN ?_ | refine Ext.alloc ?_ _ | refine Ext.upA (by assumption) ?_ | refine Ext.upW ?_ | refine Ext.drew ?_ | refine Ext.drewN ?_ _ | refine Ext.up1N (by first | omega | simp) ?_) | refine Ext.alloc ?_ _ | refine Ext.setCell ?_ (.inr (by first | omega | simp)) _))⟩
end Go.Proofs.Ytfefeepljbfcdaa
