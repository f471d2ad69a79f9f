/- Joined texts: R12T, OpenP, AgainP. What each proves stands at its head; no conditions beside those in its theorems. -/
import Derived.Test.YtfefeepljbfcdaaPjAA
import Derived.Test.YtfefeepljbfcdaaPjAB
import Derived.Test.YtfefeepljbfcdaaPjAE
import Derived.Test.YtfefeepljbfcdaaPjAI
import Derived.Test.YtfefeepljbfcdaaPjAM
import Derived.Test.YtfefeepljbfcdaaPjAF
import Derived.Test.YtfefeepljbfcdaaPjAJ
import Derived.Test.YtfefeepljbfcdaaPjAK
import Derived.Test.YtfefeepljbfcdaaPjAN
import Derived.Test.YtfefeepljbfcdaaPjAR
import Derived.Test.YtfefeepljbfcdaaPjAS
import Derived.Test.YtfefeepljbfcdaaPjAL
import Derived.Test.YtfefeepljbfcdaaPjAO
import Derived.Test.YtfefeepljbfcdaaPjAD
import Derived.Test.YtfefeepljbfcdaaPjAP
import Derived.Test.YtfefeepljbfcdaaPjAT
import Derived.Test.YtfefeepljbfcdaaPjAU
import Derived.Test.YtfefeepljbfcdaaPjAV
import Derived.Test.YtfefeepljbfcdaaPjAW
import Derived.Test.YtfefeepljbfcdaaPjAX
import Derived.Test.YtfefeepljbfcdaaPjAY
import Derived.Test.YtfefeepljbfcdaaPjAZ
import Derived.Test.YtfefeepljbfcdaaPjBA
import Derived.Test.YtfefeepljbfcdaaPjBF
import Derived.Test.YtfefeepljbfcdaaPjAC
/- Layer 12: a ledger's bytes, in plain words. -/
namespace Go.Proofs.Ytfefeepljbfcdaa
open F64
set_option linter.unusedVariables false
set_option linter.unusedSimpArgs false
/-- A writer that wrote these bytes, and did not fail. -/
def Wt (lim : Int) (bs : List UInt8) (W : Wr) : Prop := W = ⟨bs, lim - bs.length, 0⟩
theorem Wt.put {lim : Int} {bs : List UInt8} {W : Wr} (h : Wt lim bs W) {c : List UInt8} (hl : ((bs ++ c).length : Int) ≤ lim) {ok : Bool} (ho : ok = true) : Wt lim (bs ++ c) (putW W ok c) := by
  unfold Wt at *
  subst h; subst ho
  rw [List.length_append] at hl
  rw [put_good rfl (show (c.length : Int) ≤ lim - bs.length by omega), List.length_append]
  have e : lim - (bs.length : Int) - c.length = lim - ((bs.length + c.length : Nat) : Int) := by omega
  exact congrArg (fun r => (⟨bs ++ c, r, 0⟩ : Wr)) e
theorem Wt.new {lim : Int} (h : 0 < lim) : Wt lim [] (newW lim) := by unfold Wt newW; rw [if_pos h]; simp
theorem ok_in {n lo hi : Int} (h : 0 ≤ n ∧ n ≤ hi) : okN n hi = true := by unfold okN; simp [h.1, h.2]
theorem Wt.byte {lim : Int} {bs : List UInt8} {W : Wr} (h : Wt lim bs W) {n : Int} (hn : 0 ≤ n ∧ n ≤ 255) (hl : ((bs ++ big1 n).length : Int) ≤ lim) : Wt lim (bs ++ big1 n) (byteW W n) := h.put hl (ok_in (lo := 0) hn)
theorem Wt.word {lim : Int} {bs : List UInt8} {W : Wr} (h : Wt lim bs W) {n : Int} (hn : 0 ≤ n ∧ n ≤ 65535) (hl : ((bs ++ big2 n).length : Int) ≤ lim) : Wt lim (bs ++ big2 n) (wordW W n) := h.put hl (ok_in (lo := 0) hn)
theorem Wt.long {lim : Int} {bs : List UInt8} {W : Wr} (h : Wt lim bs W) {n : Int} (hn : 0 ≤ n ∧ n ≤ 4294967295) (hl : ((bs ++ big4 n).length : Int) ≤ lim) : Wt lim (bs ++ big4 n) (longW W n) := h.put hl (ok_in (lo := 0) hn)
theorem Wt.bits {lim : Int} {bs : List UInt8} {W : Wr} (h : Wt lim bs W) {n : Int} (hl : ((bs ++ big8 n).length : Int) ≤ lim) : Wt lim (bs ++ big8 n) (bitsW W n) := h.put hl rfl
def textB (s : List UInt8) : List UInt8 := big2 s.length ++ s
theorem Wt.text {lim : Int} {bs : List UInt8} {W : Wr} (h : Wt lim bs W) {s : List UInt8} (hs : s.length ≤ 65535) (hl : ((bs ++ textB s).length : Int) ≤ lim) : Wt lim (bs ++ textB s) (textW W s) := h.put hl (decide_eq_true hs)
theorem Wt.fold {lim : Int} {α : Type} (f : Wr → α → Wr) (c : α → List UInt8) : ∀ (l : List α) {bs : List UInt8} {W : Wr}, Wt lim bs W → ((bs ++ l.flatMap c).length : Int) ≤ lim → (∀ x ∈ l, ∀ W bs, Wt lim bs W → ((bs ++ c x).length : Int) ≤ lim → Wt lim (bs ++ c x) (f W x)) → Wt lim (bs ++ l.flatMap c) (l.foldl f W)
  | [], bs, W, h, _, _ => by simpa using h
  | a :: t, bs, W, h, hl, hf => by
    have e : bs ++ (a :: t).flatMap c = bs ++ c a ++ t.flatMap c := by simp
    rw [e] at hl ⊢
    exact Wt.fold f c t (hf a List.mem_cons_self W bs h (by rw [List.length_append] at hl; omega)) hl (fun x hx => hf x (List.mem_cons_of_mem _ hx))
theorem Wt.done {lim : Int} {bs : List UInt8} {W : Wr} (h : Wt lim bs W) : doneS W = ⟨bs.toArray⟩ := by unfold Wt at h; subst h; rfl
theorem Wt.err {lim : Int} {bs : List UInt8} {W : Wr} (h : Wt lim bs W) : W.err = 0 := by unfold Wt at h; subst h; rfl
/-! The bytes. -/
def confT (ep : Int) (xs : List Int) : List UInt8 := big1 67 ++ big2 ep ++ big1 xs.length ++ xs.flatMap big1
def resT (cd : Int) (x : Nat) : List UInt8 := big1 cd ++ big8 x
def itemT (p : ByteArray × Nat) : List UInt8 := textB (kl p) ++ big8 p.2
def cliT (c : Cl) : List UInt8 := big4 c.stamp ++ textB (resT c.code c.real)
def ledgT (g : Lg) : List UInt8 := big1 76 ++ textB (confT g.epoch g.mem) ++ big1 g.next.length ++ g.next.flatMap big1 ++ big4 g.done ++ big1 g.keys.length ++ (sortK g.keys).flatMap itemT ++ (List.range 8).flatMap (fun i => cliT (g.cl i))
theorem big1_len (n : Int) : (big1 n).length = 1 := rfl
theorem big2_len (n : Int) : (big2 n).length = 2 := rfl
theorem big4_len (n : Int) : (big4 n).length = 4 := rfl
theorem big8_len (n : Int) : (big8 n).length = 8 := rfl
theorem flat_one (xs : List Int) : (xs.flatMap big1).length = xs.length := by induction xs with
  | nil => rfl
  | cons a t ih => rw [List.flatMap_cons, List.length_append, ih, big1_len, List.length_cons]; omega
theorem confT_len (ep : Int) (xs : List Int) : (confT ep xs).length = 4 + xs.length := by
  unfold confT; simp only [List.length_append, big1_len, big2_len, flat_one]
theorem resT_len (cd : Int) (x : Nat) : (resT cd x).length = 9 := by unfold resT; simp only [List.length_append, big1_len, big8_len]
theorem flat_le {α : Type} (c : α → List UInt8) (k : Nat) : ∀ (l : List α), (∀ x ∈ l, (c x).length ≤ k) → (l.flatMap c).length ≤ l.length * k
  | [], _ => by simp
  | a :: t, h => by
    have h1 := h a List.mem_cons_self
    have h2 := flat_le c k t (fun x hx => h x (List.mem_cons_of_mem _ hx))
    rw [List.flatMap_cons, List.length_append, List.length_cons, Nat.add_mul]; omega
theorem conf_wt {ep : Int} {xs : List Int} (he : 0 ≤ ep ∧ ep ≤ 60) (hm : membersB xs = true) {lim : Int} (hl : 4 + (xs.length : Int) ≤ lim) :
    Wt lim (confT ep xs) (xs.foldl byteW (byteW (wordW (byteW (newW lim) 67) ep) xs.length)) := by
  obtain ⟨m1, -, m3, m4⟩ := members_facts hm
  have h0 := Wt.new (lim := lim) (by omega)
  have h1 := h0.byte (n := 67) (by omega) (by rw [List.nil_append, big1_len]; omega)
  rw [List.nil_append] at h1
  have h2 := h1.word (n := ep) (by omega) (by simp only [List.length_append, big1_len, big2_len]; omega)
  have h3 := h2.byte (n := xs.length) (by omega) (by simp only [List.length_append, big1_len, big2_len]; omega)
  exact Wt.fold byteW big1 xs h3 (by simp only [List.length_append, big1_len, big2_len, flat_one]; omega) (fun x hx W bs h hl => h.byte (by have := m1 x hx; omega) hl)
theorem confS_of {ep : Int} {xs : List Int} (he : 0 ≤ ep ∧ ep ≤ 60) (hm : membersB xs = true) : confS ep xs = ⟨(confT ep xs).toArray⟩ ∧ confE ep xs = 0 := by
  have hc : confB ep xs = true := by unfold confB; rw [hm]; simp [he.1, he.2]
  have h := conf_wt he hm (lim := 4 + xs.length) (by omega)
  unfold confS confE
  rw [if_pos hc, if_pos hc]
  exact ⟨h.done, h.err⟩
theorem res_wt {cd : Int} {x : Nat} (h : 0 ≤ cd ∧ cd ≤ 8) (hx : canonN x = x) {lim : Int} (hl : 9 ≤ lim) : Wt lim (resT cd x) (bitsW (byteW (newW lim) cd) (canonN x)) := by
  have h0 := Wt.new (lim := lim) (by omega)
  have h1 := h0.byte (n := cd) (by omega) (by rw [List.nil_append, big1_len]; omega)
  rw [List.nil_append] at h1
  rw [hx]
  exact h1.bits (by simp only [List.length_append, big1_len, big8_len]; omega)
theorem resS_of {cd : Int} {x : Nat} (h : 0 ≤ cd ∧ cd ≤ 8) (hx : canonN x = x) : resS cd x = ⟨(resT cd x).toArray⟩ ∧ resE cd x = 0 := by
  have hc : withinB cd 0 8 = true := by unfold withinB; simp [h.1, h.2]
  have h := res_wt h hx (lim := 64) (by omega)
  unfold resS resE
  rw [if_pos hc, if_pos hc]
  exact ⟨h.done, h.err⟩
theorem keysB_sort {ks : Ks} (nd : NdK ks) : keysB ks = (sortK ks).map kl := by
  unfold keysB
  have hp : (ks.map (fun p => p.1.data.toList)).Perm ((sortK ks).map kl) := ((sortK_perm ks).map kl).symm
  rw [show (ks.map (fun p => p.1.data.toList)).mergeSort (fun x y => decide (x ≤ y)) = _ from mergeSort_of_perm hp]
  refine List.mergeSort_of_pairwise (List.pairwise_map.2 ((sortK_rise nd).imp fun {p q} h => ?_))
  exact decide_eq_true (List.le_of_lt h)
theorem mem_sortK {ks : Ks} {p : ByteArray × Nat} (h : p ∈ sortK ks) : p ∈ ks := (sortK_perm ks).mem_iff.1 h
theorem val_mem {ks : Ks} (nd : NdK ks) {p : ByteArray × Nat} (h : p ∈ ks) : valK ks p.1 = p.2 := by
  have := (getK_mem nd (k := p.1) (x := p.2)).2 h
  unfold valK; rw [this]; rfl
theorem ledgT_parts {g : Lg} (I : Inv g) : ((sortK g.keys).flatMap itemT).length ≤ 416 ∧ ((List.range 8).flatMap (fun i => cliT (g.cl i))).length ≤ 120 ∧ g.mem.length ≤ 10 ∧ g.next.length ≤ 10 := by
  refine ⟨?_, ?_, (members_facts I.mm).2.2.2, (members_facts I.mn).2.2.2⟩
  · have := flat_le itemT 26 (sortK g.keys) (fun p hp => by
      have := I.kb p (mem_sortK hp)
      unfold itemT textB
      have e : (kl p).length = p.1.size := size_data _
      simp only [List.length_append, big2_len, big8_len, e]; omega)
    rw [sortK_len] at this
    have := I.kl
    omega
  · have := flat_le (fun i => cliT (g.cl i)) 15 (List.range 8) (fun i _ => by
      unfold cliT textB
      simp only [List.length_append, big2_len, big4_len, resT_len]; omega)
    rw [List.length_range] at this; omega
theorem ledg_wt {g : Lg} (I : Inv g) (nd : NdK g.keys) {lim : Int} (hl : 1000 ≤ lim) {kw : Wr → ByteArray × Nat → Wr} (hkw : ∀ p ∈ g.keys, ∀ W, kw W p = bitsW (textW W (kl p)) p.2) :
    Wt lim (ledgT g) ((List.range 8).foldl (cliW g.cl) ((sortK g.keys).foldl kw (byteW (longW (g.next.foldl byteW (byteW (textW (byteW (newW lim) 76) (confS g.epoch g.mem).data.toList) g.next.length)) g.done) g.keys.length))) := by
  obtain ⟨p1, p2, p3, p4⟩ := ledgT_parts I
  have hep := I.ep; have hdn := I.dn; have hkl := I.kl
  obtain ⟨m1, -, -, -⟩ := members_facts I.mn
  have e0 : (confS g.epoch g.mem).data.toList = confT g.epoch g.mem := by rw [(confS_of I.ep I.mm).1]
  rw [e0]
  have hcl := confT_len g.epoch g.mem
  have htl : (textB (confT g.epoch g.mem)).length = 6 + g.mem.length := by unfold textB; simp only [List.length_append, big2_len]; omega
  have h0 := Wt.new (lim := lim) (by omega)
  have h1 := h0.byte (n := 76) (by omega) (by rw [List.nil_append, big1_len]; omega)
  rw [List.nil_append] at h1
  have h2 := h1.text (s := confT g.epoch g.mem) (by omega) (by simp only [List.length_append, big1_len, htl]; omega)
  have h3 := h2.byte (n := g.next.length) (by omega) (by simp only [List.length_append, big1_len, htl]; omega)
  have h4 := Wt.fold byteW big1 g.next h3 (by simp only [List.length_append, big1_len, htl, flat_one]; omega) (fun x hx W bs h hl => h.byte (by have := m1 x hx; omega) hl)
  have h5 := h4.long (n := g.done) (by omega) (by simp only [List.length_append, big1_len, big4_len, htl, flat_one]; omega)
  have h6 := h5.byte (n := g.keys.length) (by omega) (by simp only [List.length_append, big1_len, big4_len, htl, flat_one]; omega)
  have h7 := Wt.fold kw itemT (sortK g.keys) h6 (by simp only [List.length_append, big1_len, big4_len, htl, flat_one]; omega) (fun p hp W bs h hl => by
    have hkb := I.kb p (mem_sortK hp)
    have e : (kl p).length = p.1.size := size_data _
    rw [hkw p (mem_sortK hp)]
    unfold itemT at *
    rw [← List.append_assoc] at *
    exact (h.text (s := kl p) (by omega) (by rw [List.length_append] at hl; omega)).bits hl)
  have h8 := Wt.fold (cliW g.cl) (fun i => cliT (g.cl i)) (List.range 8) h7 (by simp only [List.length_append, big1_len, big4_len, htl, flat_one]; omega) (fun i _ W bs h hl => by
    have hcb := I.cb i
    unfold cliW
    have e1 : (resS (g.cl i).code (g.cl i).real).data.toList = resT (g.cl i).code (g.cl i).real := by rw [(resS_of ⟨hcb.2.2.1, hcb.2.2.2.1⟩ hcb.2.2.2.2.2.1).1]
    rw [e1]
    unfold cliT at *
    rw [← List.append_assoc] at *
    have hr := resT_len (g.cl i).code (g.cl i).real
    exact (h.long (n := (g.cl i).stamp) (by omega) (by rw [List.length_append] at hl; omega)).text (by omega) hl)
  exact h8
theorem ledgS_of {g : Lg} (I : Inv g) (nd : NdK g.keys) : ledgS g = ⟨(ledgT g).toArray⟩ := by
  have h := ledg_wt I nd (lim := 65536) (by omega) (kw := fun W p => keyW g.keys W (kl p)) (fun p hp W => by
    unfold keyW
    have e : (⟨(kl p).toArray⟩ : ByteArray) = p.1 := bytes_inj (by simp [kl])
    rw [e, val_mem nd hp, (I.kb p hp).2.2.2])
  unfold ledgS ledgW midW lheadW
  rw [keysB_sort nd, List.foldl_map]
  exact h.done
end Go.Proofs.Ytfefeepljbfcdaa

/- Layer 12: opening bytes, in plain words. No program in sight. -/
namespace Go.Proofs.Ytfefeepljbfcdaa
open F64
set_option linter.unusedVariables false
set_option linter.unusedSimpArgs false
/-! A result. -/
def xR1 (t : List UInt8) : Rd := numR 1 ⟨t, false⟩
def xCd (t : List UInt8) : Int := (numV 1 ⟨t, false⟩ : Nat)
def xBits (t : List UInt8) : Nat := numV 8 (xR1 t)
def xR2 (t : List UInt8) : Rd := numR 8 (xR1 t)
def readXB (t : List UInt8) : Bool := fromB (xBits t) && decide (endE (xR2 t) = 0) && decide (xCd t ≤ 8)
theorem endE_nil : endE ⟨[], false⟩ = 0 := rfl
theorem fromB_canon {x : Nat} (hx : canonN x = x) : fromB x = true := by
  unfold fromB
  unfold canonN at hx
  split at hx
  · rename_i hw; subst hx; decide
  · rename_i hw; simp [hw]
theorem readX_of {cd : Int} {x : Nat} (h : 0 ≤ cd ∧ cd ≤ 8) (hx : canonN x = x) (h64 : x < 18446744073709551616) : readXB (resT cd x) = true ∧ xCd (resT cd x) = cd ∧ xBits (resT cd x) = x := by
  have e : resT cd x = big1 cd ++ (big8 x ++ []) := by unfold resT; rw [List.append_nil]
  have a := num1_of (n := cd) (by omega) (big8 x ++ [])
  have b := num8_of (n := x) (by omega) []
  have r1 : xR1 (resT cd x) = ⟨big8 x ++ [], false⟩ := by unfold xR1; rw [e, a.2]
  have hc : xCd (resT cd x) = cd := by unfold xCd; rw [e, a.1]; omega
  have hb : xBits (resT cd x) = x := by unfold xBits; rw [r1, b.1]; omega
  have r2 : xR2 (resT cd x) = ⟨[], false⟩ := by unfold xR2; rw [r1, b.2]
  refine ⟨?_, hc, hb⟩
  unfold readXB
  rw [hc, hb, r2, fromB_canon hx, endE_nil]
  simp [h.2]
end Go.Proofs.Ytfefeepljbfcdaa

/- Layer 12: a ledger with its keys sorted, in plain words. No program in sight. -/
namespace Go.Proofs.Ytfefeepljbfcdaa
open F64
set_option linter.unusedVariables false
set_option linter.unusedSimpArgs false
/-- What is opened of a ledger's bytes. -/
def srtL (g : Lg) : Lg := ⟨g.epoch, g.mem, g.next, g.done, sortK g.keys, fun i => if i < 8 then g.cl i else ⟨0, 0, 0⟩⟩
theorem srt_nd {g : Lg} (nd : NdK g.keys) : NdK (srtL g).keys := by
  unfold NdK at nd ⊢
  exact ((sortK_perm g.keys).map (·.1)).nodup_iff.2 nd
theorem srt_inv {g : Lg} (I : Inv g) : Inv (srtL g) where
  ep := I.ep
  mm := I.mm
  mn := I.mn
  dn := I.dn
  kl := by show (sortK g.keys).length ≤ 16; rw [sortK_len]; exact I.kl
  kb := fun p hp => I.kb p (mem_sortK hp)
  cb := fun i => by
    show 0 ≤ (if i < 8 then g.cl i else ⟨0, 0, 0⟩ : Cl).stamp ∧ _
    by_cases h : i < 8
    · have := I.cb i
      simp only [srtL, if_pos h]; exact this
    · simp only [srtL, if_neg h]
      exact ⟨by decide, by decide, by decide, by decide, by decide, canon0, by simp⟩
theorem sortK_id {l : Ks} (h : RiseK l) : sortK l = l := by
  unfold sortK
  refine List.mergeSort_of_pairwise (h.imp (fun {p q} hpq => ?_))
  unfold leK
  exact decide_eq_true (List.le_of_lt hpq)
theorem srt_text {g : Lg} (nd : NdK g.keys) : ledgT (srtL g) = ledgT g := by
  have h1 : sortK (srtL g).keys = sortK g.keys := sortK_id (sortK_rise nd)
  have h2 : (srtL g).keys.length = g.keys.length := sortK_len _
  have h3 : (List.range 8).flatMap (fun i => cliT ((srtL g).cl i)) = (List.range 8).flatMap (fun i => cliT (g.cl i)) := by simp [List.range, List.range.loop, srtL]
  unfold ledgT
  rw [h1, h2, h3]
  rfl
end Go.Proofs.Ytfefeepljbfcdaa
