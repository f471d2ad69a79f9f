/- Joined texts: Text12, R12T, AgainP. What each proves stands at its head; no conditions beside those in its theorems. -/
import Derived.Sort.KeysCollected
import Derived.Deep.MidRow
import Derived.Deep.WholeRow
import Derived.Shelf.SlMaps.Clone
import Derived.Test.YtfefeepljbfcdaaGreatPjAB
import Derived.Test.YtfefeepljbfcdaaGreatPjAJ
import Derived.Test.YtfefeepljbfcdaaGreatPjAQ
import Derived.Test.YtfefeepljbfcdaaGreatPjAU
/- Layer 12 (ledger): its text. -/
namespace Go.Proofs.YtfefeepljbfcdaaGreat
open Go.RowKit Go.Lib F64 Go.Maps
set_option linter.unusedSimpArgs false
set_option linter.unusedVariables false
attribute [local go_sem] run_store_float
attribute [local go_sem low] EW.cellN EW.frozN alloc_cell_or alloc_froz_or EW.cellF EW.frozF EW.cell1 EW.froz1
theorem ext_of_below {w w' : World} (h : Below w.heap.size w w') : Ext Non w w' := ⟨h.os, h.tape, h.output, h.size, fun k hk _ => h.block k hk⟩
def keysB (ks : Ks) : List (List UInt8) := (ks.map (fun p => p.1.data.toList)).mergeSort (fun x y => decide (x ≤ y))
def keyRd (H : Type) : Value → Option (DataW H × List MemPlace) := fun _ => some (.nil, [])
theorem owns_keys {P : Program} {kt : TypeId} (hk : P.underlying kt = some .string) {w : World} {m : Nat} {ks : Ks} (h : MapW w m ks) (hl : ks.length ≤ 16) (hb : ∀ p ∈ ks, p.1.size ≤ 16) :
  ∃ D0 : DataW Unit, w.ownsMap P kt (keyRd Unit) m 16 D0 ∧ Maps.size D0 ≤ 16 ∧ ∀ ss : List (List UInt8), ss.Perm (strKeys D0) → ss.mergeSort (fun x y => decide (x ≤ y)) = keysB ks ∧ ss.length = ks.length := by
 obtain ⟨es, clock, hm, st, e⟩ := h.ex
 have hlen : es.size = ks.length := by
  have := congrArg List.length e
  simpa using this
 have hkey : ∀ x ∈ es.toList, ∃ p ∈ ks, x.key = .string p.1 ∧ keyOf P kt x.key = some (.string p.1.data.toList) := fun x hx => by
  have : (x.key, x.val) ∈ ks.map kvE := by rw [← e]; exact List.mem_map.2 ⟨x, hx, rfl⟩
  obtain ⟨p, hp, he⟩ := List.mem_map.1 this
  unfold kvE at he
  injection he with e1 e2
  refine ⟨p, hp, e1.symm, ?_⟩
  have hs := hb p hp
  rw [← e1]
  unfold keyOf mapKey
  simp only [hk]
  rw [if_pos (by unfold maxLen; omega)]
 have hrd : ∀ x ∈ es.toList, ∃ p ∈ ks, x.key = .string p.1 ∧ WideElems.rd P kt (keyRd Unit) x = some (.string p.1.data.toList, .nil) := fun x hx => by
  obtain ⟨p, hp, h1, h2⟩ := hkey x hx
  refine ⟨p, hp, h1, ?_⟩
  unfold WideElems.rd keyRd
  rw [h2]; rfl
 refine ⟨_, ⟨es, clock, hm, ⟨by rw [hlen]; unfold maxLen; omega, st, fun x hx => by obtain ⟨p, -, -, h⟩ := hrd x hx; exact ⟨_, h⟩⟩, by omega, rfl⟩, ?_, fun ss hp => ?_⟩
 ·have := (WideShapes.sorted_perm (es.toList.map (WideElems.rg P kt (keyRd Unit)))).length_eq
  show (List.foldr DataW.insert [] _).length ≤ 16
  rw [this, List.length_map, Array.length_toList, hlen]; exact hl
 ·have h1 : (strKeys (DataW.map ((es.toList.map (WideElems.rg P kt (keyRd Unit))).foldr DataW.insert []))).Perm (ks.map (fun p => p.1.data.toList)) := by
   show ((List.foldr DataW.insert [] _).map (fun p => strOf p.1)).Perm _
   refine ((WideShapes.sorted_perm _).map _).trans ?_
   rw [List.map_map]
   have e1 : es.toList.map ((fun p : Lit × DataW Unit => strOf p.1) ∘ WideElems.rg P kt (keyRd Unit)) = es.toList.map (fun x => match x.key with | .string s => s.data.toList | _ => []) := List.map_congr_left (fun x hx => by
    obtain ⟨p, -, h1, h2⟩ := hrd x hx
    show strOf (WideElems.rg P kt (keyRd Unit) x).1 = _
    unfold WideElems.rg
    rw [h2, h1]; rfl)
   have e2 : es.toList.map (fun x => match x.key with | .string s => s.data.toList | _ => []) = ks.map (fun p => p.1.data.toList) := by
    have := congrArg (List.map (fun q : Value × Value => match q.1 with | .string s => s.data.toList | _ => ([] : List UInt8))) e
    rw [List.map_map, List.map_map] at this
    exact this
   rw [e1, e2]
  have h2 := hp.trans h1
  refine ⟨mergeSort_of_perm h2, ?_⟩
  rw [h2.length_eq, List.length_map]
theorem doneS_le {W : Wr} (h : WOk W) : (doneS W).size ≤ 1048576 := by
 unfold doneS
 split
 ·show W.bs.toArray.size ≤ _
  have h1 := h.lim; have h2 := h.room
  rw [List.size_toArray]; omega
 ·show (0 : Nat) ≤ _; omega
theorem WOk.fold {α : Type} (f : Wr → α → Wr) (hf : ∀ W x, WOk W → WOk (f W x)) : ∀ (l : List α) (W : Wr), WOk W → WOk (l.foldl f W)
 | [], _, h => h
 | x :: t, W, h => WOk.fold f hf t _ (hf W x h)
theorem confS_le (ep : Int) (xs : List Int) : (confS ep xs).size ≤ 1048576 := by
 unfold confS
 split
 ·rename_i hc
  have hm : membersB xs = true := by unfold confB at hc; simp only [Bool.and_eq_true] at hc; exact hc.2
  have h4 := (members_facts hm).2.2.2
  refine doneS_le ?_
  unfold confW
  refine WOk.fold _ (fun W x h => h.put _ _) _ _ ?_
  unfold byteW wordW
  exact (((WOk.new (by omega)).put _ _).put _ _).put _ _
 ·show (0 : Nat) ≤ _; omega
theorem resS_le (cd : Int) (x : Nat) : (resS cd x).size ≤ 1048576 := by
 unfold resS
 split
 ·refine doneS_le ?_
  unfold resW bitsW byteW
  exact ((WOk.new (by decide)).put _ _).put _ _
 ·show (0 : Nat) ≤ _; omega
theorem keysB_mem {ks : Ks} {k : List UInt8} (h : k ∈ keysB ks) : ∃ p ∈ ks, k = p.1.data.toList := by
 unfold keysB at h
 have h2 := (List.mergeSort_perm _ _).mem_iff.1 h
 obtain ⟨p, hp, e⟩ := List.mem_map.1 h2
 exact ⟨p, hp, e.symm⟩
theorem valK_lt {ks : Ks} (h : ∀ p ∈ ks, p.2 < 18446744073709551616) (k : ByteArray) : valK ks k < 18446744073709551616 := by
 unfold valK getK
 cases hf : ks.find? (fun p => decide (p.1 = k)) with
 | none => simp
 | some p => exact h p (List.mem_of_find?_eq_some hf)
theorem MapW.extN {w w' : World} {m : Nat} {ks : Ks} (h : MapW w m ks) (x : Ext Non w w') : MapW w' m ks := h.ext x (fun f => f)
/-! The text. -/
def keyW (ks : Ks) (W : Wr) (k : List UInt8) : Wr := bitsW (textW W k) (canonN (valK ks ⟨k.toArray⟩))
def cliW (cl : Nat → Cl) (W : Wr) (i : Nat) : Wr := textW (longW W (cl i).stamp) (resS (cl i).code (cl i).real).data.toList
def lheadW (g : Lg) : Wr := byteW (textW (byteW (newW 65536) 76) (confS g.epoch g.mem).data.toList) g.next.length
def midW (g : Lg) : Wr := byteW (longW (g.next.foldl byteW (lheadW g)) g.done) g.keys.length
def ledgW (g : Lg) : Wr := (List.range 8).foldl (cliW g.cl) ((keysB g.keys).foldl (keyW g.keys) (midW g))
def ledgS (g : Lg) : ByteArray := doneS (ledgW g)
theorem row_wrote {w w' : World} {n0 b : Nat} {W W' : Wr} {base : Nat} {e : TypeId} {k : Nat} {v : Value} {n : Nat} {xs : List Value} (h : w.ownsRow base e k v n xs) (hp : PW w n0 b W) (he1 : e ≠ 5) (he2 : e ≠ 122) (x : Wrote w w' n0 b W') : w'.ownsRow base e k v n xs := by
 refine ⟨h.1, ?_⟩
 rcases h.2 with hn | ⟨g, cap, cur, rfl, hb, hg, r⟩
 ·exact .inl hn
 ·refine .inr ⟨g, cap, cur, rfl, hb, (x.x.block g (Array.getElem?_eq_some_iff.1 hg).1 (WB.other hg (fun q => ?_) he1)).trans hg, r⟩
  subst q
  obtain ⟨_, r2, _⟩ := hp.ex
  rw [hg] at r2; injection r2 with r2; injection r2 with _ r2 _; exact he2 r2
theorem bx_wrote {w w' : World} {n0 b : Nat} {W W' : Wr} {k : Nat} {vs : List Value} {t : TypeId} (h : Bx w k vs t) (hp : PW w n0 b W) (he1 : t ≠ 5) (he2 : t ≠ 122) (x : Wrote w w' n0 b W') : Bx w' k vs t :=
 h.ext x.x (WB.other h.h (fun q => by
  subst q
  obtain ⟨_, r2, _⟩ := hp.ex
  have h2 := h.h
  rw [h2] at r2; injection r2 with r2; injection r2 with _ r2 _; exact he2 r2) he1)
theorem row_strs {w : World} {base : Nat} {e : TypeId} {v : Value} (l : List (List UInt8)) (h : w.ownsRow base e 1 v l.length (l.map encStr)) : ∃ a cap, v = .slice a l.length cap ∧ l.length ≤ cap ∧ cap ≤ 9223372036854775807 ∧ ∀ j (hj : j < l.length), ∃ g, a = some ⟨g, 0, none⟩ ∧ w.cell? ⟨g, j, none⟩ = some (.string ⟨l[j].toArray⟩) := by
 rcases h.2 with ⟨rfl, hn⟩ | ⟨g, cap, cur, rfl, hb, hg, hc, hm, hs, ht⟩
 ·exact ⟨none, 0, by rw [hn], by omega, by omega, fun j hj => by omega⟩
 ·refine ⟨_, cap, rfl, hc, by unfold maxLen at hm; omega, fun j hj => ⟨g, rfl, ?_⟩⟩
  have q : (l.map encStr)[j]? = some (encStr l[j]) := by rw [List.getElem?_map, List.getElem?_eq_getElem hj]; rfl
  rw [← ht, List.getElem?_take, if_pos (by omega), Array.getElem?_toList] at q
  have hgc : w.cell? ⟨g, j, none⟩ = cur[j]? := by simp [World.cell?, hg]
  rw [hgc]; exact q
theorem run_index8 (cl : Nat → Cl) : ∀ (k : Nat) (hk : k < 8) (w : World), (Instr.index 62 (.agg (clRow cl).toArray) (.int .i64 (k : Int))).run Tryz.prog w = .ok (.agg #[.int .i64 (cl k).stamp, .int .i64 (cl k).code, .float .f64 (cl k).real]) w
 | 0, _, w => by kernel_rfl
 | 1, _, w => by kernel_rfl
 | 2, _, w => by kernel_rfl
 | 3, _, w => by kernel_rfl
 | 4, _, w => by kernel_rfl
 | 5, _, w => by kernel_rfl
 | 6, _, w => by kernel_rfl
 | 7, _, w => by kernel_rfl
theorem info_last : (Tryz.prog.info? 61).map (·.size) = some 3 := by kernel_rfl
theorem info_lasts : (Tryz.prog.info? 62).map (·.size) = some 24 := by kernel_rfl
set_option maxHeartbeats 4000000 in
set_option maxRecDepth 100000 in
theorem ledger_Text (b m : Nat) (g : Lg) (I : Inv g) (w : World) (h : LD w b m g) : Calls Tryz.prog 12 #[.pointer (some ⟨b, 0, none⟩)] w fun e w' =>
  e = .returned (.string (ledgS g)) ∧ Ext Non w w' := by
 have HH := hI_ h
 obtain ⟨a1, c1, a2, c2, r, i1, i2, -, -⟩ := h.ex
 have HM := hI_ h.mp
 have HI := hI_ I
 have I2 := hI_ i2
 have q2 : w.cell? ⟨b, 2, none⟩ = some (.slice a2 g.next.length c2) := cell_of_heap r rfl
 have q3 : w.cell? ⟨b, 3, none⟩ = some (.int .i64 g.done) := cell_of_heap r rfl
 have q4 : w.cell? ⟨b, 4, none⟩ = some (.map (some m)) := cell_of_heap r rfl
 obtain ⟨R, hR⟩ : ∃ R, R = clRow g.cl := ⟨_, rfl⟩
 have hrg : w.rangeAt b 5 R := fun j v hv => cell_of_heap r (by
  rw [hR] at hv
  show (rowLg g a1 c1 a2 c2 m)[5 + j]? = some v
  rw [show 5 + j = j + 5 by omega]
  exact hv)
 have hix0 : ∀ (k : Nat) (hk : k < 8) (w : World), (Instr.index 62 (.agg R.toArray) (.int .i64 (k : Int))).run Tryz.prog w = .ok (.agg #[.int .i64 (g.cl k).stamp, .int .i64 (g.cl k).code, .float .f64 (g.cl k).real]) w := by rw [hR]; exact run_index8 g.cl
 have hsz : (Tryz.prog.info? 62).map (·.size) = some R.length := by rw [hR]; exact info_lasts
 have HIX := hI_ hix0; have HRG := hI_ (And.intro hrg hsz)
 obtain ⟨mn1, -, mn2, mn3⟩ := members_facts I.mn
 have hep := I.ep; have hdn := I.dn; have hkl := I.kl
 clear h r i1 i2 hR hrg hix0 hsz mn1 I
 go_enter Tryz.func12, Tryz.ntmps12
 go_wp2_with fail
 have HL := hI_ (Nat.le_refl w.heap.size)
 refine (pack_New 65536 (by decide) w.heap.size w HL.out).mono ?_
 rintro e _ ⟨wb, rfl, hx, hP, hb⟩
 obtain ⟨z0, rfl⟩ := hx.ew
 have P0 := hI_ hP
 clear hP hx hb
 go_wp2_with fail
 refine (pack_Byte w.heap.size wb _ 76 (by unfold I64; omega) _ P0.out z0.ext.size).mono ?_
 rintro e _ ⟨rfl, hw1⟩
 obtain ⟨z1, rfl, hP, hs1⟩ := wrote_ew hw1 HL.out
 have P1 := hI_ hP
 clear hP hw1 P0 hs1
 go_wp2_with fail
 refine (ledger_Conf b m g HI.out _ (HH.out.extN (exG1))).mono ?_
 rintro e _ ⟨ca, cc, rfl, hx, hIc, -⟩
 obtain ⟨z2, rfl⟩ := hx.ew
 have IC := hI_ hIc
 have P2 := hI_ (P1.out.extN z2.ext)
 clear hIc hx P1
 go_wp2_with fail
 refine Calls.ew (council_Text g.epoch (by unfold I64; omega) ca cc g.mem _ IC.out) ?_
 rintro e z3 rfl
 have P3 := hI_ (P2.out.extN z3.ext)
 clear P2 IC
 have HCS : Hid ((confS g.epoch g.mem).size ≤ 9223372036854775807) := hI_ (Nat.le_trans (confS_le _ _) (by omega))
 obtain ⟨cs, hcs⟩ : ∃ cs, cs = confS g.epoch g.mem := ⟨_, rfl⟩
 have HCE := hI_ hcs
 rw [← hcs] at HCS ⊢
 clear hcs
 have X3 : Ext Non w z3.on := exG1
 obtain ⟨z4, hz4⟩ := X3.ew
 rw [hz4] at P3 ⊢
 clear hz4 X3 z3 z2 z1 z0
 go_wp2_with fail
 refine (pack_Text w.heap.size wb _ cs HCS.out _ P3.out z4.ext.size).mono ?_
 rintro e _ ⟨rfl, hw1⟩
 obtain ⟨z5, rfl, hP, hs1⟩ := wrote_ew hw1 HL.out
 have P5 := hI_ hP
 clear hP hw1 P3 hs1
 go_wp2_with fail
 refine (pack_Byte w.heap.size wb _ (g.next.length : Int) (by unfold I64; omega) _ P5.out z5.ext.size).mono ?_
 rintro e _ ⟨rfl, hw1⟩
 obtain ⟨z6, rfl, hP, hs1⟩ := wrote_ew hw1 HL.out
 have P6 : Hid (PW z6.on w.heap.size wb ((g.next.take 0).foldl byteW (lheadW g))) := hI_ (by rw [HCE.out] at hP; exact hP)
 clear hP hw1 P5 hs1
 go_wp2_with fail
 go_loopg [42] g.next.length (fun n iv wr => ∃ (i : Nat) (z : EW Non w), i ≤ g.next.length ∧ n = g.next.length - i ∧ iv = .int .i64 i ∧ wr = z.on ∧ Hid (PW wr w.heap.size wb ((g.next.take i).foldl byteW (lheadW g))))
 case atStart => exact ⟨0, ⟨_, exG1⟩, Nat.zero_le _, rfl, rfl, rfl, P6⟩
 case round =>
  clear P6
  obtain ⟨i, z, hi, hn, rfl, rfl, HP⟩ := hrel
  have HN := hI_ hn; clear hn
  by_cases hlt : i < g.next.length
  ·obtain ⟨ab, ao, rfl, hcell, hx64⟩ := I2.out.at_ i hlt
   have HT := hI_ (fold_take byteW (lheadW g) g.next i hlt)
   have HX := hI_ hx64
   clear hx64
   generalize g.next[i] = x at *
   go_wp2_with fail
   refine (pack_Byte w.heap.size wb _ x HX.out _ HP.out z.ext.size).mono ?_
   rintro e _ ⟨rfl, hw1⟩
   obtain ⟨z7, rfl, hP, hs1⟩ := wrote_ew hw1 HL.out
   rw [← HT.out] at hP
   have P7 := hI_ hP
   clear hP hw1 hs1
   go_wp2_with fail
   go_roundg (g.next.length - (i + 1))
   case measure => have := HN.out; omega
   case rel => exact ⟨i + 1, ⟨_, exG1⟩, hlt, rfl, by go_num, rfl, P7⟩
  ·obtain rfl : i = g.next.length := by omega
   have hp := HP.out
   rw [List.take_length] at hp
   have P8 := hI_ hp
   clear hp HP HN
   go_wp2_with fail
   refine (pack_Long w.heap.size wb _ g.done (by unfold I64; omega) _ P8.out z.ext.size).mono ?_
   rintro e _ ⟨rfl, hw1⟩
   obtain ⟨z9, rfl, hP, hs1⟩ := wrote_ew hw1 HL.out
   have P9 := hI_ hP
   clear hP hw1 hs1 P8
   have hln : (Builtin.len_ #[59] 3 #[.map (some m)]).run Tryz.prog z9.on = .ok (.int .i64 g.keys.length) z9.on := (HM.out.extN z9.ext).len Tryz.underlying59 _
   go_wp2_with fail
   refine (pack_Byte w.heap.size wb _ (g.keys.length : Int) (by unfold I64; omega) _ P9.out z9.ext.size).mono ?_
   rintro e _ ⟨rfl, hw1⟩
   obtain ⟨zA, rfl, hP, hs1⟩ := wrote_ew hw1 HL.out
   have PA : Hid (PW zA.on w.heap.size wb (midW g)) := hI_ hP
   clear hP hw1 hs1 P9 hln
   go_wp2_with fail
   refine (maps_Keys (some m) zA.on).mono ?_
   rintro e _ ⟨rfl, rfl⟩
   obtain ⟨D0, hown, hD, hss⟩ := owns_keys Tryz.underlying9 (HM.out.extN zA.ext) hkl (fun p hp => (HI.out.kb p hp).2.1)
   have HSS := hI_ hss
   have HOW := hI_ (And.intro hown hD)
   clear hown hD hss
   go_wp2_with fail
   refine (slices_Sorted_keys m 16 D0 (keyRd Unit) zA.on HOW.out.1 (by have := HOW.out.2; unfold maxLen; omega) (by have := HOW.out.2; omega)).mono ?_
   rintro e _ ⟨v, ss, rfl, hperm, hrow, hbel⟩
   obtain ⟨zB0, rfl⟩ := (ext_of_below hbel).ew
   have XB : Ext Non w zB0.on := exG1
   have hpB := PA.out.extN (exG1 : Ext Non zA.on zB0.on)
   obtain ⟨zB, hzB⟩ := XB.ew
   rw [hzB] at hrow hpB ⊢
   obtain ⟨hsort, hslen⟩ := HSS.out ss hperm
   rw [hsort] at hrow
   have hkbl : (keysB g.keys).length = ss.length := by rw [← hsort]; exact List.length_mergeSort _
   rw [← hkbl] at hrow
   have hk16 : (keysB g.keys).length ≤ 16 := by omega
   have HROW0 := hI_ (ownR_base hrow (Nat.zero_le _))
   have PB : Hid (PW zB.on w.heap.size wb (((keysB g.keys).take 0).foldl (keyW g.keys) (midW g))) := hI_ hpB
   obtain ⟨ka, kc, hv, hkc1, hkc2, -⟩ := row_strs _ hrow
   subst hv
   clear hrow hpB hzB XB hbel hperm hsort hslen hkbl HOW HSS PA
   have HKM : Hid (∀ k ∈ keysB g.keys, k.length ≤ 16) := hI_ (fun k hk => by
    obtain ⟨p, hp, rfl⟩ := keysB_mem hk
    have := (HI.out.kb p hp).2.1
    rw [Array.length_toList]; exact this)
   generalize hkb : keysB g.keys = kb at *
   have HKB := hI_ hkb
   clear hkb
   have HKV : Hid (∀ k : ByteArray, valK g.keys k < 18446744073709551616) := hI_ (valK_lt (fun p hp => (HI.out.kb p hp).2.2.1))
   have HZ := hI_ zeroF
   go_wp2_with fail
   go_loopg [70] kb.length (fun n iv wr => ∃ (i : Nat) (z : EW Non w), i ≤ kb.length ∧ n = kb.length - i ∧ iv = .int .i64 i ∧ wr = z.on ∧ Hid (PW wr w.heap.size wb ((kb.take i).foldl (keyW g.keys) (midW g))) ∧ Hid (wr.ownsRow 0 9 1 (.slice ka kb.length kc) kb.length (kb.map encStr)))
   case atStart => exact ⟨0, ⟨_, exG1⟩, Nat.zero_le _, rfl, rfl, rfl, PB, HROW0⟩
   case round =>
    clear PB HROW0
    obtain ⟨i, z, hi, hn, rfl, rfl, HP, HR⟩ := hrel
    have HN := hI_ hn; clear hn
    by_cases hlt : i < kb.length
    ·obtain ⟨ka', kc', e1, -, -, hat⟩ := row_strs _ HR.out
     injection e1 with e1 e2 e3
     subst e1
     obtain ⟨kg, rfl, hcell⟩ := hat i hlt
     have HT := hI_ (fold_take (keyW g.keys) (midW g) kb i hlt)
     have HKL : Hid ((⟨kb[i].toArray⟩ : ByteArray).size ≤ 9223372036854775807) := hI_ (by
      have := HKM.out _ (List.getElem_mem hlt)
      show kb[i].toArray.size ≤ _
      rw [List.size_toArray]; omega)
     have HDK : Hid ((⟨kb[i].toArray⟩ : ByteArray).data.toList = kb[i]) := hI_ rfl
     have HKW : Hid (∀ W, keyW g.keys W kb[i] = bitsW (textW W kb[i]) (canonN (valK g.keys ⟨kb[i].toArray⟩))) := hI_ (fun W => rfl)
     clear hat e2 e3
     generalize kb[i] = ky at *
     obtain ⟨sk, hsk⟩ : ∃ sk : ByteArray, sk = ⟨ky.toArray⟩ := ⟨_, rfl⟩
     rw [← hsk] at hcell HKL HDK HKW
     clear hsk
     go_wp2_with fail
     refine (pack_Text w.heap.size wb _ sk HKL.out _ HP.out z.ext.size).mono ?_
     rintro e _ ⟨rfl, hw1⟩
     have hr1 := row_wrote HR.out HP.out (by decide) (by decide) hw1
     obtain ⟨z7, rfl, hP, hs1⟩ := wrote_ew hw1 HL.out
     rw [HDK.out] at hP
     have P7 := hI_ hP
     have R7 := hI_ hr1
     clear hP hw1 hs1 hcell hr1
     have hlk := (HM.out.extN z7.ext).lookup1 Tryz.underlying59 Tryz.underlying9 (HZ.out z7.on) sk
     have hvk := HKV.out sk
     generalize valK g.keys sk = vk at *
     have hcv := canon_lt hvk
     go_wp2_with fail
     refine (reals_Bits vk _).mono ?_
     rintro e _ ⟨rfl, rfl⟩
     go_wp2_with fail
     refine (pack_Bits w.heap.size wb _ (canonN vk) hcv _ P7.out z7.ext.size).mono ?_
     rintro e _ ⟨rfl, hw1⟩
     have hr2 := row_wrote R7.out P7.out (by decide) (by decide) hw1
     obtain ⟨z8, rfl, hP, hs1⟩ := wrote_ew hw1 HL.out
     rw [← HKW.out, ← HT.out] at hP
     have P8 := hI_ hP
     have R8 := hI_ hr2
     clear hP hw1 hs1 hr2 hlk
     go_wp2_with fail
     go_roundg (kb.length - (i + 1))
     case measure => have := HN.out; omega
     case rel => exact ⟨i + 1, ⟨_, exG1⟩, hlt, rfl, by go_num, rfl, P8, R8⟩
    ·obtain rfl : i = kb.length := by omega
     have hp := HP.out
     rw [List.take_length] at hp
     have PC := hI_ hp
     clear hp HP HN HR
     obtain ⟨W0, hW0⟩ : ∃ W0, W0 = kb.foldl (keyW g.keys) (midW g) := ⟨_, rfl⟩
     rw [← hW0] at PC
     have PC0 : Hid (PW z.on w.heap.size wb ((List.range 0).foldl (cliW g.cl) W0)) := PC
     have hrz := range_ext HRG.out.1 z.ext (fun f => f)
     have HRZ := hI_ hrz
     have HS : Hid (ledgS g = doneS ((List.range 8).foldl (cliW g.cl) W0)) := hI_ (by unfold ledgS ledgW; rw [hW0, HKB.out])
     clear hrz hW0 PC
     go_upto_region 22 with (refine wpList_load_mid rfl 62 _ rfl b 5 rfl R _ HRZ.out Tryz.underlying62 rfl HRG.out.2 ?_)
     go_loopg [91] 8 (fun n iv wr => ∃ (i : Nat) (z : EW Non w), i ≤ 8 ∧ n = 8 - i ∧ iv = .int .i64 i ∧ wr = z.on ∧ Hid (PW wr w.heap.size wb ((List.range i).foldl (cliW g.cl) W0)))
     case atStart => exact ⟨0, ⟨_, exG1⟩, by omega, rfl, rfl, rfl, PC0⟩
     case round =>
      clear PC0
      obtain ⟨i, z, hi, hn, rfl, rfl, HP⟩ := hrel
      have HN := hI_ hn; clear hn
      by_cases hlt : i < 8
      ·have hix := HIX.out i hlt z.on
       obtain ⟨cb1, cb2, cb3, cb4, cb5, -, -⟩ := HI.out.cb i
       have HT : Hid ((List.range (i + 1)).foldl (cliW g.cl) W0 = textW (longW ((List.range i).foldl (cliW g.cl) W0) (g.cl i).stamp) (resS (g.cl i).code (g.cl i).real).data.toList) := hI_ (by rw [List.range_succ, List.foldl_append]; rfl)
       generalize (g.cl i).stamp = sta at *
       generalize (g.cl i).code = cod at *
       generalize (g.cl i).real = rea at *
       go_upto_region 24 with (refine wpList_store_box rfl 61 _ _ rfl z.on.heap.size _ [.int .i64 sta, .int .i64 cod, .float .f64 rea] _ rfl rfl (Bx.newAt _ _ _ _ rfl) rfl info_last (by simp [Value.oneCell']) (fun W hB => ?_); have BX := hI_ hB; clear hB)
       have XW : Ext Non z.on W.on := exG1
       have hpw := HP.out.extN XW
       obtain ⟨y5, hy5⟩ := (z.ext.trans XW).ew
       rw [hy5] at BX hpw ⊢
       clear hy5 XW W hix HP
       have P5 := hI_ hpw
       clear hpw
       try simp only [Act.put]
       generalize z.on.heap.size = kx at *
       have y0 : y5.on.cell? ⟨kx, 0, none⟩ = some (.int .i64 sta) := BX.out.cell rfl
       go_wp2_with fail
       refine (pack_Long w.heap.size wb _ sta (by unfold I64; omega) _ P5.out y5.ext.size).mono ?_
       rintro e _ ⟨rfl, hw1⟩
       have hbx := bx_wrote BX.out P5.out (by decide) (by decide) hw1
       obtain ⟨y6, rfl, hP, hs1⟩ := wrote_ew hw1 HL.out
       have P6 := hI_ hP
       have BY := hI_ hbx
       clear hP hw1 hs1 y0 hbx
       have y1 : y6.on.cell? ⟨kx, 1, none⟩ = some (.int .i64 cod) := BY.out.cell rfl
       have y2 : y6.on.cell? ⟨kx, 2, none⟩ = some (.float .f64 rea) := BY.out.cell rfl
       go_wp2_with fail
       refine Calls.ew (deeds_ResultText cod (by unfold I64; omega) rea cb5 _) ?_
       rintro e y7 rfl
       have P7 := hI_ (P6.out.extN y7.ext)
       clear y1 y2
       have HRS : Hid ((resS cod rea).size ≤ 9223372036854775807) := hI_ (Nat.le_trans (resS_le _ _) (by omega))
       obtain ⟨rs, hrs⟩ : ∃ rs, rs = resS cod rea := ⟨_, rfl⟩
       rw [← hrs] at HRS HT ⊢
       clear hrs
       have X8 : Ext Non w y7.on := exG1
       obtain ⟨y8, hy8⟩ := X8.ew
       rw [hy8] at P7 ⊢
       clear hy8 X8
       go_wp2_with fail
       refine (pack_Text w.heap.size wb _ rs HRS.out _ P7.out y8.ext.size).mono ?_
       rintro e _ ⟨rfl, hw1⟩
       obtain ⟨y9, rfl, hP, hs1⟩ := wrote_ew hw1 HL.out
       rw [← HT.out] at hP
       have P9 := hI_ hP
       clear hP hw1 hs1
       go_wp2_with fail
       go_roundg (8 - (i + 1))
       case measure => have := HN.out; omega
       case rel => exact ⟨i + 1, ⟨_, exG1⟩, by omega, rfl, by go_num, rfl, P9⟩
      ·obtain rfl : i = 8 := by omega
       go_wp2_with fail
       refine Calls.ew (pack_Done w.heap.size wb _ _ HP.out) ?_
       rintro e y1 rfl
       rw [← HS.out]
       go_wp2
       go_ret
       exact ⟨rfl, exG1⟩
end Go.Proofs.YtfefeepljbfcdaaGreat

/- Layer 12: a ledger's bytes, in plain words. -/
namespace Go.Proofs.YtfefeepljbfcdaaGreat
open F64
set_option linter.unusedVariables false
set_option linter.unusedSimpArgs false
def Wt (lim : Int) (bs : List UInt8) (W : Wr) : Prop := W = ⟨bs, lim - bs.length, 0⟩
theorem Wt.put {lim : Int} {bs : List UInt8} {W : Wr} (h : Wt lim bs W) {c : List UInt8} (hl : ((bs ++ c).length : Int) ≤ lim) {ok : Bool} (ho : ok = true) : Wt lim (bs ++ c) (putW W ok c) := by
 unfold Wt at *
 subst h; subst ho
 rw [List.length_append] at hl
 rw [put_good rfl (show (c.length : Int) ≤ lim - bs.length by omega), List.length_append]
 have e : lim - (bs.length : Int) - c.length = lim - ((bs.length + c.length : Nat) : Int) := by omega
 exact congrArg (fun r => (⟨bs ++ c, r, 0⟩ : Wr)) e
theorem Wt.new {lim : Int} (h : 0 < lim) : Wt lim [] (newW lim) := by unfold Wt newW; rw [if_pos h]; simp
theorem ok_in {n lo hi : Int} (h : 0 ≤ n ∧ n ≤ hi) : okN n hi = true := by unfold okN; simp [h.1, h.2]
theorem Wt.byte {lim : Int} {bs : List UInt8} {W : Wr} (h : Wt lim bs W) {n : Int} (hn : 0 ≤ n ∧ n ≤ 255) (hl : ((bs ++ big1 n).length : Int) ≤ lim) : Wt lim (bs ++ big1 n) (byteW W n) := h.put hl (ok_in (lo := 0) hn)
theorem Wt.word {lim : Int} {bs : List UInt8} {W : Wr} (h : Wt lim bs W) {n : Int} (hn : 0 ≤ n ∧ n ≤ 65535) (hl : ((bs ++ big2 n).length : Int) ≤ lim) : Wt lim (bs ++ big2 n) (wordW W n) := h.put hl (ok_in (lo := 0) hn)
theorem Wt.long {lim : Int} {bs : List UInt8} {W : Wr} (h : Wt lim bs W) {n : Int} (hn : 0 ≤ n ∧ n ≤ 4294967295) (hl : ((bs ++ big4 n).length : Int) ≤ lim) : Wt lim (bs ++ big4 n) (longW W n) := h.put hl (ok_in (lo := 0) hn)
theorem Wt.bits {lim : Int} {bs : List UInt8} {W : Wr} (h : Wt lim bs W) {n : Int} (hl : ((bs ++ big8 n).length : Int) ≤ lim) : Wt lim (bs ++ big8 n) (bitsW W n) := h.put hl rfl
def textB (s : List UInt8) : List UInt8 := big2 s.length ++ s
theorem Wt.text {lim : Int} {bs : List UInt8} {W : Wr} (h : Wt lim bs W) {s : List UInt8} (hs : s.length ≤ 65535) (hl : ((bs ++ textB s).length : Int) ≤ lim) : Wt lim (bs ++ textB s) (textW W s) := h.put hl (decide_eq_true hs)
theorem Wt.fold {lim : Int} {α : Type} (f : Wr → α → Wr) (c : α → List UInt8) : ∀ (l : List α) {bs : List UInt8} {W : Wr}, Wt lim bs W → ((bs ++ l.flatMap c).length : Int) ≤ lim → (∀ x ∈ l, ∀ W bs, Wt lim bs W → ((bs ++ c x).length : Int) ≤ lim → Wt lim (bs ++ c x) (f W x)) → Wt lim (bs ++ l.flatMap c) (l.foldl f W)
 | [], bs, W, h, _, _ => by simpa using h
 | a :: t, bs, W, h, hl, hf => by
  have e : bs ++ (a :: t).flatMap c = bs ++ c a ++ t.flatMap c := by simp
  rw [e] at hl ⊢
  exact Wt.fold f c t (hf a List.mem_cons_self W bs h (by rw [List.length_append] at hl; omega)) hl (fun x hx => hf x (List.mem_cons_of_mem _ hx))
theorem Wt.done {lim : Int} {bs : List UInt8} {W : Wr} (h : Wt lim bs W) : doneS W = ⟨bs.toArray⟩ := by unfold Wt at h; subst h; rfl
theorem Wt.err {lim : Int} {bs : List UInt8} {W : Wr} (h : Wt lim bs W) : W.err = 0 := by unfold Wt at h; subst h; rfl
/-! The bytes. -/
def confT (ep : Int) (xs : List Int) : List UInt8 := big1 67 ++ big2 ep ++ big1 xs.length ++ xs.flatMap big1
def resT (cd : Int) (x : Nat) : List UInt8 := big1 cd ++ big8 x
def itemT (p : ByteArray × Nat) : List UInt8 := textB (kl p) ++ big8 p.2
def cliT (c : Cl) : List UInt8 := big4 c.stamp ++ textB (resT c.code c.real)
def ledgT (g : Lg) : List UInt8 := big1 76 ++ textB (confT g.epoch g.mem) ++ big1 g.next.length ++ g.next.flatMap big1 ++ big4 g.done ++ big1 g.keys.length ++ (sortK g.keys).flatMap itemT ++ (List.range 8).flatMap (fun i => cliT (g.cl i))
theorem big1_len (n : Int) : (big1 n).length = 1 := rfl
theorem big2_len (n : Int) : (big2 n).length = 2 := rfl
theorem big4_len (n : Int) : (big4 n).length = 4 := rfl
theorem big8_len (n : Int) : (big8 n).length = 8 := rfl
theorem flat_one (xs : List Int) : (xs.flatMap big1).length = xs.length := by induction xs with
 | nil => rfl
 | cons a t ih => rw [List.flatMap_cons, List.length_append, ih, big1_len, List.length_cons]; omega
theorem confT_len (ep : Int) (xs : List Int) : (confT ep xs).length = 4 + xs.length := by
 unfold confT; simp only [List.length_append, big1_len, big2_len, flat_one]
theorem resT_len (cd : Int) (x : Nat) : (resT cd x).length = 9 := by unfold resT; simp only [List.length_append, big1_len, big8_len]
theorem flat_le {α : Type} (c : α → List UInt8) (k : Nat) : ∀ (l : List α), (∀ x ∈ l, (c x).length ≤ k) → (l.flatMap c).length ≤ l.length * k
 | [], _ => by simp
 | a :: t, h => by
  have h1 := h a List.mem_cons_self
  have h2 := flat_le c k t (fun x hx => h x (List.mem_cons_of_mem _ hx))
  rw [List.flatMap_cons, List.length_append, List.length_cons, Nat.add_mul]; omega
theorem conf_wt {ep : Int} {xs : List Int} (he : 0 ≤ ep ∧ ep ≤ 60) (hm : membersB xs = true) {lim : Int} (hl : 4 + (xs.length : Int) ≤ lim) :
  Wt lim (confT ep xs) (xs.foldl byteW (byteW (wordW (byteW (newW lim) 67) ep) xs.length)) := by
 obtain ⟨m1, -, m3, m4⟩ := members_facts hm
 have h0 := Wt.new (lim := lim) (by omega)
 have h1 := h0.byte (n := 67) (by omega) (by rw [List.nil_append, big1_len]; omega)
 rw [List.nil_append] at h1
 have h2 := h1.word (n := ep) (by omega) (by simp only [List.length_append, big1_len, big2_len]; omega)
 have h3 := h2.byte (n := xs.length) (by omega) (by simp only [List.length_append, big1_len, big2_len]; omega)
 exact Wt.fold byteW big1 xs h3 (by simp only [List.length_append, big1_len, big2_len, flat_one]; omega) (fun x hx W bs h hl => h.byte (by have := m1 x hx; omega) hl)
theorem confS_of {ep : Int} {xs : List Int} (he : 0 ≤ ep ∧ ep ≤ 60) (hm : membersB xs = true) : confS ep xs = ⟨(confT ep xs).toArray⟩ ∧ confE ep xs = 0 := by
 have hc : confB ep xs = true := by unfold confB; rw [hm]; simp [he.1, he.2]
 have h := conf_wt he hm (lim := 4 + xs.length) (by omega)
 unfold confS confE
 rw [if_pos hc, if_pos hc]
 exact ⟨h.done, h.err⟩
theorem res_wt {cd : Int} {x : Nat} (h : 0 ≤ cd ∧ cd ≤ 8) (hx : canonN x = x) {lim : Int} (hl : 9 ≤ lim) : Wt lim (resT cd x) (bitsW (byteW (newW lim) cd) (canonN x)) := by
 have h0 := Wt.new (lim := lim) (by omega)
 have h1 := h0.byte (n := cd) (by omega) (by rw [List.nil_append, big1_len]; omega)
 rw [List.nil_append] at h1
 rw [hx]
 exact h1.bits (by simp only [List.length_append, big1_len, big8_len]; omega)
theorem resS_of {cd : Int} {x : Nat} (h : 0 ≤ cd ∧ cd ≤ 8) (hx : canonN x = x) : resS cd x = ⟨(resT cd x).toArray⟩ ∧ resE cd x = 0 := by
 have hc : withinB cd 0 8 = true := by unfold withinB; simp [h.1, h.2]
 have h := res_wt h hx (lim := 64) (by omega)
 unfold resS resE
 rw [if_pos hc, if_pos hc]
 exact ⟨h.done, h.err⟩
theorem keysB_sort {ks : Ks} (nd : NdK ks) : keysB ks = (sortK ks).map kl := by
 unfold keysB
 have hp : (ks.map (fun p => p.1.data.toList)).Perm ((sortK ks).map kl) := ((sortK_perm ks).map kl).symm
 rw [show (ks.map (fun p => p.1.data.toList)).mergeSort (fun x y => decide (x ≤ y)) = _ from mergeSort_of_perm hp]
 refine List.mergeSort_of_pairwise (List.pairwise_map.2 ((sortK_rise nd).imp fun {p q} h => ?_))
 exact decide_eq_true (List.le_of_lt h)
theorem mem_sortK {ks : Ks} {p : ByteArray × Nat} (h : p ∈ sortK ks) : p ∈ ks := (sortK_perm ks).mem_iff.1 h
theorem val_mem {ks : Ks} (nd : NdK ks) {p : ByteArray × Nat} (h : p ∈ ks) : valK ks p.1 = p.2 := by
 have := (getK_mem nd (k := p.1) (x := p.2)).2 h
 unfold valK; rw [this]; rfl
theorem ledgT_parts {g : Lg} (I : Inv g) : ((sortK g.keys).flatMap itemT).length ≤ 416 ∧ ((List.range 8).flatMap (fun i => cliT (g.cl i))).length ≤ 120 ∧ g.mem.length ≤ 10 ∧ g.next.length ≤ 10 := by
 refine ⟨?_, ?_, (members_facts I.mm).2.2.2, (members_facts I.mn).2.2.2⟩
 ·have := flat_le itemT 26 (sortK g.keys) (fun p hp => by
   have := I.kb p (mem_sortK hp)
   unfold itemT textB
   have e : (kl p).length = p.1.size := size_data _
   simp only [List.length_append, big2_len, big8_len, e]; omega)
  rw [sortK_len] at this
  have := I.kl
  omega
 ·have := flat_le (fun i => cliT (g.cl i)) 15 (List.range 8) (fun i _ => by
   unfold cliT textB
   simp only [List.length_append, big2_len, big4_len, resT_len]; omega)
  rw [List.length_range] at this; omega
theorem ledg_wt {g : Lg} (I : Inv g) (nd : NdK g.keys) {lim : Int} (hl : 1000 ≤ lim) {kw : Wr → ByteArray × Nat → Wr} (hkw : ∀ p ∈ g.keys, ∀ W, kw W p = bitsW (textW W (kl p)) p.2) :
  Wt lim (ledgT g) ((List.range 8).foldl (cliW g.cl) ((sortK g.keys).foldl kw (byteW (longW (g.next.foldl byteW (byteW (textW (byteW (newW lim) 76) (confS g.epoch g.mem).data.toList) g.next.length)) g.done) g.keys.length))) := by
 obtain ⟨p1, p2, p3, p4⟩ := ledgT_parts I
 have hep := I.ep; have hdn := I.dn; have hkl := I.kl
 obtain ⟨m1, -, -, -⟩ := members_facts I.mn
 have e0 : (confS g.epoch g.mem).data.toList = confT g.epoch g.mem := by rw [(confS_of I.ep I.mm).1]
 rw [e0]
 have hcl := confT_len g.epoch g.mem
 have htl : (textB (confT g.epoch g.mem)).length = 6 + g.mem.length := by unfold textB; simp only [List.length_append, big2_len]; omega
 have h0 := Wt.new (lim := lim) (by omega)
 have h1 := h0.byte (n := 76) (by omega) (by rw [List.nil_append, big1_len]; omega)
 rw [List.nil_append] at h1
 have h2 := h1.text (s := confT g.epoch g.mem) (by omega) (by simp only [List.length_append, big1_len, htl]; omega)
 have h3 := h2.byte (n := g.next.length) (by omega) (by simp only [List.length_append, big1_len, htl]; omega)
 have h4 := Wt.fold byteW big1 g.next h3 (by simp only [List.length_append, big1_len, htl, flat_one]; omega) (fun x hx W bs h hl => h.byte (by have := m1 x hx; omega) hl)
 have h5 := h4.long (n := g.done) (by omega) (by simp only [List.length_append, big1_len, big4_len, htl, flat_one]; omega)
 have h6 := h5.byte (n := g.keys.length) (by omega) (by simp only [List.length_append, big1_len, big4_len, htl, flat_one]; omega)
 have h7 := Wt.fold kw itemT (sortK g.keys) h6 (by simp only [List.length_append, big1_len, big4_len, htl, flat_one]; omega) (fun p hp W bs h hl => by
  have hkb := I.kb p (mem_sortK hp)
  have e : (kl p).length = p.1.size := size_data _
  rw [hkw p (mem_sortK hp)]
  unfold itemT at *
  rw [← List.append_assoc] at *
  exact (h.text (s := kl p) (by omega) (by rw [List.length_append] at hl; omega)).bits hl)
 have h8 := Wt.fold (cliW g.cl) (fun i => cliT (g.cl i)) (List.range 8) h7 (by simp only [List.length_append, big1_len, big4_len, htl, flat_one]; omega) (fun i _ W bs h hl => by
  have hcb := I.cb i
  unfold cliW
  have e1 : (resS (g.cl i).code (g.cl i).real).data.toList = resT (g.cl i).code (g.cl i).real := by rw [(resS_of ⟨hcb.2.2.1, hcb.2.2.2.1⟩ hcb.2.2.2.2.2.1).1]
  rw [e1]
  unfold cliT at *
  rw [← List.append_assoc] at *
  have hr := resT_len (g.cl i).code (g.cl i).real
  exact (h.long (n := (g.cl i).stamp) (by omega) (by rw [List.length_append] at hl; omega)).text (by omega) hl)
 exact h8
theorem ledgS_of {g : Lg} (I : Inv g) (nd : NdK g.keys) : ledgS g = ⟨(ledgT g).toArray⟩ := by
 have h := ledg_wt I nd (lim := 65536) (by omega) (kw := fun W p => keyW g.keys W (kl p)) (fun p hp W => by
  unfold keyW
  have e : (⟨(kl p).toArray⟩ : ByteArray) = p.1 := bytes_inj (by simp [kl])
  rw [e, val_mem nd hp, (I.kb p hp).2.2.2])
 unfold ledgS ledgW midW lheadW
 rw [keysB_sort nd, List.foldl_map]
 exact h.done
end Go.Proofs.YtfefeepljbfcdaaGreat

/- Layer 12: a ledger with its keys sorted, in plain words. No program in sight. -/
namespace Go.Proofs.YtfefeepljbfcdaaGreat
open F64
set_option linter.unusedVariables false
set_option linter.unusedSimpArgs false
def srtL (g : Lg) : Lg := ⟨g.epoch, g.mem, g.next, g.done, sortK g.keys, fun i => if i < 8 then g.cl i else ⟨0, 0, 0⟩⟩
theorem srt_nd {g : Lg} (nd : NdK g.keys) : NdK (srtL g).keys := by
 unfold NdK at nd ⊢
 exact ((sortK_perm g.keys).map (·.1)).nodup_iff.2 nd
theorem srt_inv {g : Lg} (I : Inv g) : Inv (srtL g) where
 ep := I.ep
 mm := I.mm
 mn := I.mn
 dn := I.dn
 kl := by show (sortK g.keys).length ≤ 16; rw [sortK_len]; exact I.kl
 kb := fun p hp => I.kb p (mem_sortK hp)
 cb := fun i => by
  show 0 ≤ (if i < 8 then g.cl i else ⟨0, 0, 0⟩ : Cl).stamp ∧ _
  by_cases h : i < 8
  ·have := I.cb i
   simp only [srtL, if_pos h]; exact this
  ·simp only [srtL, if_neg h]
   exact ⟨by decide, by decide, by decide, by decide, by decide, canon0, by simp⟩
theorem sortK_id {l : Ks} (h : RiseK l) : sortK l = l := by
 unfold sortK
 refine List.mergeSort_of_pairwise (h.imp (fun {p q} hpq => ?_))
 unfold leK
 exact decide_eq_true (List.le_of_lt hpq)
theorem srt_text {g : Lg} (nd : NdK g.keys) : ledgT (srtL g) = ledgT g := by
 have h1 : sortK (srtL g).keys = sortK g.keys := sortK_id (sortK_rise nd)
 have h2 : (srtL g).keys.length = g.keys.length := sortK_len _
 have h3 : (List.range 8).flatMap (fun i => cliT ((srtL g).cl i)) = (List.range 8).flatMap (fun i => cliT (g.cl i)) := by simp [List.range, List.range.loop, srtL]
 unfold ledgT
 rw [h1, h2, h3]
 rfl
end Go.Proofs.YtfefeepljbfcdaaGreat
