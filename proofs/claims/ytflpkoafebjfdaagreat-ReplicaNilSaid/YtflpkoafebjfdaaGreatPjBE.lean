/- Joined texts: Text12, R12T, OpenP, TextB, Wire12. What each proves stands at its head; no conditions beside those in its theorems. -/
import Derived.Sort.KeysCollected
import Derived.Laws.CopyOwn
import Derived.Deep.OwnRows
import Derived.Deep.RegionLaw
import Derived.Test.YtflpkoafebjfdaaGreatProg
import Derived.Shelf.SlIter.Nil
import Derived.Shelf.SortM.Plain
import Derived.Shelf.SortM.SortNone
import Derived.Ground.GgzProg
import Derived.Ground.SlgmProg
import Derived.Test.YtflpkoafebjfdaaGreatPjAK
import Derived.Test.YtflpkoafebjfdaaGreatPjBC
/- Layer 12 (ledger): its text. -/
namespace Go.Proofs.YtflpkoafebjfdaaGreat
open Go.RowKit Go.Lib F64 Go.Maps
set_option linter.unusedSimpArgs false
set_option linter.unusedVariables false
attribute [local go_sem] run_store_float
attribute [local go_sem low] EW.cellN EW.frozN alloc_cell_or alloc_froz_or EW.cellF EW.frozF EW.cell1 EW.froz1
/-- A ledger's keys, rising. -/
def keysB (ks : Ks) : List (List UInt8) := (ks.map (fun p => p.1.data.toList)).mergeSort (fun x y => decide (x ≤ y))
theorem doneS_le {W : Wr} (h : WOk W) : (doneS W).size ≤ 1048576 := by
  unfold doneS
  split
  · show W.bs.toArray.size ≤ _
    have h1 := h.lim; have h2 := h.room
    rw [List.size_toArray]; omega
  · show (0 : Nat) ≤ _; omega
theorem WOk.fold {α : Type} (f : Wr → α → Wr) (hf : ∀ W x, WOk W → WOk (f W x)) : ∀ (l : List α) (W : Wr), WOk W → WOk (l.foldl f W)
  | [], _, h => h
  | x :: t, W, h => WOk.fold f hf t _ (hf W x h)
theorem confS_le (ep : Int) (xs : List Int) : (confS ep xs).size ≤ 1048576 := by
  unfold confS
  split
  · rename_i hc
    have hm : membersB xs = true := by unfold confB at hc; simp only [Bool.and_eq_true] at hc; exact hc.2
    have h4 := (members_facts hm).2.2.2
    refine doneS_le ?_
    unfold confW
    refine WOk.fold _ (fun W x h => h.put _ _) _ _ ?_
    unfold byteW wordW
    exact (((WOk.new (by omega)).put _ _).put _ _).put _ _
  · show (0 : Nat) ≤ _; omega
theorem resS_le (cd : Int) (x : Nat) : (resS cd x).size ≤ 1048576 := by
  unfold resS
  split
  · refine doneS_le ?_
    unfold resW bitsW byteW
    exact ((WOk.new (by decide)).put _ _).put _ _
  · show (0 : Nat) ≤ _; omega
theorem MapW.extN {w w' : World} {m : Nat} {ks : Ks} (h : MapW w m ks) (x : Ext Non w w') : MapW w' m ks := h.ext x (fun f => f)
/-! The text. -/
def keyW (ks : Ks) (W : Wr) (k : List UInt8) : Wr := bitsW (textW W k) (canonN (valK ks ⟨k.toArray⟩))
def cliW (cl : Nat → Cl) (W : Wr) (i : Nat) : Wr := textW (longW W (cl i).stamp) (resS (cl i).code (cl i).real).data.toList
def lheadW (g : Lg) : Wr := byteW (textW (byteW (newW 65536) 76) (confS g.epoch g.mem).data.toList) g.next.length
def midW (g : Lg) : Wr := byteW (longW (g.next.foldl byteW (lheadW g)) g.done) g.keys.length
def ledgW (g : Lg) : Wr := (List.range 8).foldl (cliW g.cl) ((keysB g.keys).foldl (keyW g.keys) (midW g))
def ledgS (g : Lg) : ByteArray := doneS (ledgW g)
end Go.Proofs.YtflpkoafebjfdaaGreat

/- Layer 12: a ledger's bytes, in plain words. -/
namespace Go.Proofs.YtflpkoafebjfdaaGreat
open F64
set_option linter.unusedVariables false
set_option linter.unusedSimpArgs false
/-- A writer that wrote these bytes, and did not fail. -/
def Wt (lim : Int) (bs : List UInt8) (W : Wr) : Prop := W = ⟨bs, lim - bs.length, 0⟩
theorem Wt.put {lim : Int} {bs : List UInt8} {W : Wr} (h : Wt lim bs W) {c : List UInt8} (hl : ((bs ++ c).length : Int) ≤ lim) {ok : Bool} (ho : ok = true) : Wt lim (bs ++ c) (putW W ok c) := by
  unfold Wt at *
  subst h; subst ho
  rw [List.length_append] at hl
  rw [put_good rfl (show (c.length : Int) ≤ lim - bs.length by omega), List.length_append]
  have e : lim - (bs.length : Int) - c.length = lim - ((bs.length + c.length : Nat) : Int) := by omega
  exact congrArg (fun r => (⟨bs ++ c, r, 0⟩ : Wr)) e
theorem Wt.new {lim : Int} (h : 0 < lim) : Wt lim [] (newW lim) := by unfold Wt newW; rw [if_pos h]; simp
theorem ok_in {n lo hi : Int} (h : 0 ≤ n ∧ n ≤ hi) : okN n hi = true := by unfold okN; simp [h.1, h.2]
theorem Wt.byte {lim : Int} {bs : List UInt8} {W : Wr} (h : Wt lim bs W) {n : Int} (hn : 0 ≤ n ∧ n ≤ 255) (hl : ((bs ++ big1 n).length : Int) ≤ lim) : Wt lim (bs ++ big1 n) (byteW W n) := h.put hl (ok_in (lo := 0) hn)
theorem Wt.word {lim : Int} {bs : List UInt8} {W : Wr} (h : Wt lim bs W) {n : Int} (hn : 0 ≤ n ∧ n ≤ 65535) (hl : ((bs ++ big2 n).length : Int) ≤ lim) : Wt lim (bs ++ big2 n) (wordW W n) := h.put hl (ok_in (lo := 0) hn)
theorem Wt.bits {lim : Int} {bs : List UInt8} {W : Wr} (h : Wt lim bs W) {n : Int} (hl : ((bs ++ big8 n).length : Int) ≤ lim) : Wt lim (bs ++ big8 n) (bitsW W n) := h.put hl rfl
def textB (s : List UInt8) : List UInt8 := big2 s.length ++ s
theorem Wt.text {lim : Int} {bs : List UInt8} {W : Wr} (h : Wt lim bs W) {s : List UInt8} (hs : s.length ≤ 65535) (hl : ((bs ++ textB s).length : Int) ≤ lim) : Wt lim (bs ++ textB s) (textW W s) := h.put hl (decide_eq_true hs)
theorem Wt.fold {lim : Int} {α : Type} (f : Wr → α → Wr) (c : α → List UInt8) : ∀ (l : List α) {bs : List UInt8} {W : Wr}, Wt lim bs W → ((bs ++ l.flatMap c).length : Int) ≤ lim → (∀ x ∈ l, ∀ W bs, Wt lim bs W → ((bs ++ c x).length : Int) ≤ lim → Wt lim (bs ++ c x) (f W x)) → Wt lim (bs ++ l.flatMap c) (l.foldl f W)
  | [], bs, W, h, _, _ => by simpa using h
  | a :: t, bs, W, h, hl, hf => by
    have e : bs ++ (a :: t).flatMap c = bs ++ c a ++ t.flatMap c := by simp
    rw [e] at hl ⊢
    exact Wt.fold f c t (hf a List.mem_cons_self W bs h (by rw [List.length_append] at hl; omega)) hl (fun x hx => hf x (List.mem_cons_of_mem _ hx))
theorem Wt.done {lim : Int} {bs : List UInt8} {W : Wr} (h : Wt lim bs W) : doneS W = ⟨bs.toArray⟩ := by unfold Wt at h; subst h; rfl
theorem Wt.err {lim : Int} {bs : List UInt8} {W : Wr} (h : Wt lim bs W) : W.err = 0 := by unfold Wt at h; subst h; rfl
end Go.Proofs.YtflpkoafebjfdaaGreat

/- Layer 12: opening bytes, in plain words. No program in sight. -/
namespace Go.Proofs.YtflpkoafebjfdaaGreat
open F64
set_option linter.unusedVariables false
set_option linter.unusedSimpArgs false
/-! Rows of numbers of one byte. -/
def nsR : Nat → Rd → Rd
  | 0, r => r
  | n + 1, r => numR 1 (nsR n r)
def nsV : Nat → Rd → List Int
  | 0, _ => []
  | n + 1, r => nsV n r ++ [(numV 1 (nsR n r) : Int)]
def cR1 (t : List UInt8) : Rd := numR 1 ⟨t, false⟩
def cEp (t : List UInt8) : Int := (numV 2 (cR1 t) : Nat)
def cR2 (t : List UInt8) : Rd := numR 2 (cR1 t)
def cN (t : List UInt8) : Nat := numV 1 (cR2 t)
def cR3 (t : List UInt8) : Rd := numR 1 (cR2 t)
def cXs (t : List UInt8) : List Int := nsV (cN t) (cR3 t)
def cR4 (t : List UInt8) : Rd := nsR (cN t) (cR3 t)
def readCB (t : List UInt8) : Bool := decide (numV 1 ⟨t, false⟩ = 67) && decide (endE (cR4 t) = 0) && confB (cEp t) (cXs t)
def readCE (t : List UInt8) : Int := if readCB t = true then 0 else 5
def readCep (t : List UInt8) : Int := if readCB t = true then cEp t else 0
def readCxs (t : List UInt8) : List Int := if readCB t = true then cXs t else []
/-! A result. -/
def xR1 (t : List UInt8) : Rd := numR 1 ⟨t, false⟩
def xCd (t : List UInt8) : Int := (numV 1 ⟨t, false⟩ : Nat)
def xBits (t : List UInt8) : Nat := numV 8 (xR1 t)
def xR2 (t : List UInt8) : Rd := numR 8 (xR1 t)
def readXB (t : List UInt8) : Bool := fromB (xBits t) && decide (endE (xR2 t) = 0) && decide (xCd t ≤ 8)
def readXE (t : List UInt8) : Int := if readXB t = true then 0 else 5
def readXcd (t : List UInt8) : Int := if readXB t = true then xCd t else 0
def readXre (t : List UInt8) : Nat := if readXB t = true then xBits t else 0
/-! A ledger. -/
def itR : Nat → Rd → Rd
  | 0, r => r
  | n + 1, r => numR 8 (textR (itR n r))
def itV : Nat → Rd → Ks
  | 0, _ => []
  | n + 1, r => itV n r ++ [(sB (textV (itR n r)), numV 8 (textR (itR n r)))]
def clR : Nat → Rd → Rd
  | 0, r => r
  | n + 1, r => textR (numR 4 (clR n r))
def clV (n : Nat) (r : Rd) (i : Nat) : Cl := if i < n then ⟨(numV 4 (clR i r) : Nat), readXcd (textV (numR 4 (clR i r))), readXre (textV (numR 4 (clR i r)))⟩ else ⟨0, 0, 0⟩
def clE : Nat → Rd → Int → Int
  | 0, _, e => e
  | n + 1, r, e => if readXE (textV (numR 4 (clR n r))) = 0 then clE n r e else 5
def oR1 (t : List UInt8) : Rd := numR 1 ⟨t, false⟩
def oC (t : List UInt8) : List UInt8 := textV (oR1 t)
def oR2 (t : List UInt8) : Rd := textR (oR1 t)
def oN (t : List UInt8) : Nat := numV 1 (oR2 t)
def oR3 (t : List UInt8) : Rd := numR 1 (oR2 t)
def oNext (t : List UInt8) : List Int := nsV (oN t) (oR3 t)
def oR4 (t : List UInt8) : Rd := nsR (oN t) (oR3 t)
def oDone (t : List UInt8) : Int := (numV 4 (oR4 t) : Nat)
def oR5 (t : List UInt8) : Rd := numR 4 (oR4 t)
def oK (t : List UInt8) : Nat := numV 1 (oR5 t)
def oR6 (t : List UInt8) : Rd := numR 1 (oR5 t)
def oItems (t : List UInt8) : Ks := itV (oK t) (oR6 t)
def oR7 (t : List UInt8) : Rd := itR (oK t) (oR6 t)
def oR8 (t : List UInt8) : Rd := clR 8 (oR7 t)
def openG (t : List UInt8) : Lg := ⟨readCep (oC t), readCxs (oC t), oNext t, oDone t, oItems t, clV 8 (oR7 t)⟩
/-- May there be such a ledger. -/
def itemOk (l : Ks) (i : Nat) : Bool := match l[i]? with
  | none => true
  | some p => decide (1 ≤ p.1.size) && decide (p.1.size ≤ 16) && (match i with | 0 => true | j + 1 => (match l[j]? with | none => true | some q => decide (kl q < kl p))) && fromB p.2
def cliOk (c : Cl) : Bool := decide (c.stamp ≤ 1048576) && (decide (c.stamp ≠ 0) || (decide (c.code = 0) && decide (canonN c.real = 0)))
def mayL (g : Lg) : Bool := confB g.epoch g.mem && membersB g.next && decide (4 * g.epoch ≤ g.done) && decide (g.done ≤ 4 * (g.epoch + 1)) && decide (g.keys.length ≤ 16) && (List.range g.keys.length).all (itemOk g.keys) && (List.range 8).all (fun i => cliOk (g.cl i))
def openB (t : List UInt8) : Bool := decide (numV 1 ⟨t, false⟩ = 76) && decide (clE 8 (oR7 t) (readCE (oC t)) = 0) && decide (endE (oR8 t) = 0) && mayL (openG t)
end Go.Proofs.YtflpkoafebjfdaaGreat

/- Layer 12: how many bytes a ledger's text has at most. -/
namespace Go.Proofs.YtflpkoafebjfdaaGreat
set_option linter.unusedVariables false
set_option linter.unusedSimpArgs false
/-- A writer within a limit. -/
def WL (n : Int) (W : Wr) : Prop := 0 ≤ W.room ∧ (W.bs.length : Int) + W.room ≤ n
theorem WL.put {n : Int} {W : Wr} (h : WL n W) (ok : Bool) (c : List UInt8) : WL n (putW W ok c) := by
  unfold putW
  split
  · split
    · unfold addW
      split
      · exact h
      · have := h.1; have := h.2
        exact ⟨by show 0 ≤ W.room - c.length; omega, by show ((W.bs ++ c).length : Int) + (W.room - c.length) ≤ n; rw [List.length_append]; omega⟩
    · exact h
  · exact h
theorem WL.fold {α : Type} {n : Int} {f : Wr → α → Wr} (hf : ∀ W x, WL n W → WL n (f W x)) : ∀ (l : List α) (W : Wr), WL n W → WL n (l.foldl f W)
  | [], _, h => h
  | x :: t, W, h => WL.fold hf t _ (hf W x h)
theorem WL.new : WL 65536 (newW 65536) := ⟨by decide, by decide⟩
end Go.Proofs.YtflpkoafebjfdaaGreat

/- Contracts of layer 13 (wire): a message's bytes. Printed by wip/genbytes.py. -/
namespace Go.Proofs.YtflpkoafebjfdaaGreat
open Go.RowKit Go.Lib F64
set_option linter.unusedSimpArgs false
set_option linter.unusedVariables false
attribute [local go_sem] run_store_float
/-- wire.fits of this message. -/
def FitsC (m : Ms) (A : MA) : Prop := ∀ w : World, MsW w A m → kindOk m.kind = true → Calls Tryz.prog 115 #[.agg (m.cells A).toArray] w fun e w' => e = .returned (.bool (fitsM m)) ∧ Ext Non w w'
/-- wire.Bytes of this message. -/
def BytesC (m : Ms) (A : MA) : Prop := ∀ w : World, MsW w A m → Calls Tryz.prog 68 #[.agg (m.cells A).toArray] w fun e w' => e = .returned (.tuple #[.string (bytesS m), .int .i64 (bytesE m)]) ∧ Ext Non w w'
theorem conf_size_le (ep : Int) (xs : List Int) : (confS ep xs).size ≤ 9223372036854775807 := by have := confS_le ep xs; omega
set_option maxHeartbeats 16000000 in
set_option maxRecDepth 100000 in
theorem bytes_of (m : Ms) (A : MA) (HF : FitsC m A) : BytesC m A := by
  intro w h
  have HW := Go.Lib.hid h
  have HO := Go.Lib.hid h.ok
  have l1 := h.n.le; have l2 := h.n.small; have l3 := h.s.le; have l4 := h.s.small; have l5 := h.c.le; have l6 := h.c.small; have l7 := h.l.le; have l8 := h.l.small
  have DS : Hid (bytesS m = if kindOk m.kind = true then (if fitsM m = true then doneS (wLks m) else ⟨#[]⟩) else ⟨#[]⟩) := Go.Lib.hid rfl
  have DE : Hid (bytesE m = if kindOk m.kind = true then (if fitsM m = true then (if (wLks m).err = 0 then 0 else 3) else 4) else 19) := Go.Lib.hid rfl
  have KF : Hid (∀ w : World, MsW w A m → kindOk m.kind = true → Calls Tryz.prog 115 #[.agg (m.cells A).toArray] w fun e w' => e = .returned (.bool (fitsM m)) ∧ Ext Non w w') := Go.Lib.hid HF
  clear HF
  have DK : Hid (kindOk m.kind = (decide (1 ≤ m.kind) && decide (m.kind ≤ 10))) := Go.Lib.hid rfl
  clear h
  obtain ⟨kind, ep, view, slot, ⟨rc, rs, ⟨rk, rkey, rx, rid⟩⟩, ⟨cd, rr⟩, text, next, sigs, chs, lks⟩ := m; obtain ⟨na, nc, sa, sc, ca, cc, la, lc⟩ := A
  unfold Ms.cells at KF ⊢
  dsimp only at l1 l2 l3 l4 l5 l6 l7 l8 KF DS DE DK ⊢
  have B0 := Go.Lib.hid (Bx.new w [.int .i64 kind, .int .i64 ep, .int .i64 view, .int .i64 slot, .int .i64 rc, .int .i64 rs, .int .i64 rk, .string rkey, .float .f64 rx, .int .i64 rid, .int .i64 cd, .float .f64 rr, .string text, .slice na next.length nc, .slice sa sigs.length sc, .slice ca chs.length cc, .slice la lks.length lc] 43)
  have X := Go.Lib.hid ((Ext.refl Non w).alloc (.cells #[.int .i64 kind, .int .i64 ep, .int .i64 view, .int .i64 slot, .int .i64 rc, .int .i64 rs, .int .i64 rk, .string rkey, .float .f64 rx, .int .i64 rid, .int .i64 cd, .float .f64 rr, .string text, .slice na next.length nc, .slice sa sigs.length sc, .slice ca chs.length cc, .slice la lks.length lc] 43))
  go_enter Tryz.func68, Tryz.ntmps68
  go_upto_region 1 with fail
  generalize World.alloc _ _ = W0 at *
  obtain ⟨b0, hb0⟩ : ∃ b0, b0 = w.heap.size := ⟨_, rfl⟩
  rw [← hb0] at B0 ⊢
  have HB0 := Go.Lib.hid hb0; clear hb0
  have m0 := B0.out.cell (j := 0) rfl
  by_cases k1 : 1 ≤ kind
  · by_cases k2 : kind ≤ 10
    · have HK := Go.Lib.hid (show kindOk kind = true by rw [DK.out, decide_eq_true k1, decide_eq_true k2]; rfl)
      go_upto_region 3 with fail
      have RG := Go.Lib.hid B0.out.range
      go_wp2_with (refine wpList_load_mid rfl 43 _ rfl b0 0 rfl [.int .i64 kind, .int .i64 ep, .int .i64 view, .int .i64 slot, .int .i64 rc, .int .i64 rs, .int .i64 rk, .string rkey, .float .f64 rx, .int .i64 rid, .int .i64 cd, .float .f64 rr, .string text, .slice na next.length nc, .slice sa sigs.length sc, .slice ca chs.length cc, .slice la lks.length lc] _ RG.out Tryz.underlying43 rfl (by kernel_rfl) ?_)
      refine (KF.out _ (HW.out.extN X.out) HK.out).mono ?_
      rintro e w1 ⟨rfl, x⟩
      replace X := Go.Lib.hid (X.out.trans x)
      replace B0 := Go.Lib.hid (B0.out.extN x)
      clear x RG m0 KF k1 k2
      generalize (#[.int .i64 kind, .int .i64 ep, .int .i64 view, .int .i64 slot, .int .i64 rc, .int .i64 rs, .int .i64 rk, .string rkey, .float .f64 rx, .int .i64 rid, .int .i64 cd, .float .f64 rr, .string text, .slice na next.length nc, .slice sa sigs.length sc, .slice ca chs.length cc, .slice la lks.length lc] : Array Value) = CA
      cases hf : fitsM ⟨kind, ep, view, slot, ⟨rc, rs, ⟨rk, rkey, rx, rid⟩⟩, ⟨cd, rr⟩, text, next, sigs, chs, lks⟩
      · as_aux_lemma =>
        have HF := Go.Lib.hid hf; clear hf
        go_wp2
        go_returns
        exact ⟨by rw [DS.out, DE.out, if_pos HK.out, if_pos HK.out, if_neg (by rw [HF.out]; decide), if_neg (by rw [HF.out]; decide)]; rfl, X.out⟩
      have HF := Go.Lib.hid hf; clear hf
      obtain ⟨n0, hn0⟩ : ∃ n0, n0 = w1.heap.size := ⟨_, rfl⟩
      have HN0 := Go.Lib.hid hn0
      have HM : Hid (MsW (hide (cNw n0) w1) ⟨na, nc, sa, sc, ca, cc, la, lc⟩ ⟨kind, ep, view, slot, ⟨rc, rs, ⟨rk, rkey, rx, rid⟩⟩, ⟨cd, rr⟩, text, next, sigs, chs, lks⟩) := Go.Lib.hid (by rw [hn0]; exact (HW.out.extN X.out).extN (hide_all w1))
      have hb1 : b0 < n0 := by rw [hn0]; exact B0.out.lt
      have hw0 : w.heap.size ≤ n0 := by rw [hn0]; exact X.out.size
      clear hn0
      go_wp2_with fail
      refine (pack_New 65536 (by decide) n0 _ (Nat.le_of_eq HN0.out)).mono ?_
      rintro e w2 ⟨b, rfl, x, p, hnb⟩
      have hnb2 : n0 ≤ b := p.nb
      replace X := Go.Lib.hid (X.out.trans x)
      replace B0 := Go.Lib.hid (B0.out.extN x)
      replace HM := Go.Lib.hid (HM.out.extN (hide_extN (col := cNw n0) x))
      have P := Go.Lib.hid p
      clear x p hnb
      have BK := Go.Lib.hid (Bx.new w2 [.pointer (some ⟨b, 0, none⟩)] 207)
      have HN := Go.Lib.hid (And.intro hw0 (And.intro hnb2 (And.intro (show w2.heap.size ≠ b by have := P.out.lt; omega) hb1)))
      clear hw0 hnb2 hb1
      obtain ⟨x, hx⟩ : ∃ x : Ext Non w2 (w2.alloc (.cells #[.pointer (some ⟨b, 0, none⟩)] 207)), True := ⟨(Ext.refl _ _).alloc _, trivial⟩
      clear hx
      replace X := Go.Lib.hid (X.out.trans x)
      replace B0 := Go.Lib.hid (B0.out.extN x)
      replace HM := Go.Lib.hid (HM.out.extN (hide_extN (col := cNw n0) x))
      replace P := Go.Lib.hid (P.out.extN x)
      clear x
      go_upto_region 6 with fail
      generalize World.alloc _ _ = W3 at *
      obtain ⟨kw, hkw⟩ : ∃ kw, kw = w2.heap.size := ⟨_, rfl⟩
      rw [← hkw] at BK HN ⊢
      clear hkw
      obtain ⟨q0, q1⟩ : _ ∧ _ := ⟨BK.out.cell (j := 0) rfl, B0.out.cell (j := 0) rfl⟩
      go_wp2_with fail
      refine (pack_Byte n0 b _ kind HO.out.k _ P.out P.out.base_le').mono ?_
      rintro e u1 ⟨rfl, y⟩
      clear q0 q1
      replace X := Go.Lib.hid (Wrote.new y X.out HN.out.1 HN.out.2.1)
      replace BK := Go.Lib.hid (BK.out.wr y HN.out.2.2.1 (by decide))
      replace B0 := Go.Lib.hid (B0.out.wrOld P.out y HN.out.2.2.2)
      replace HM := Go.Lib.hid (HM.out.extN (wrote_hide P.out y))
      replace P := Go.Lib.hid y.p
      clear y
      obtain ⟨q0, q1⟩ : _ ∧ _ := ⟨BK.out.cell (j := 0) rfl, B0.out.cell (j := 1) rfl⟩
      go_wp2_with fail
      refine (pack_Word n0 b _ ep HO.out.e _ P.out P.out.base_le').mono ?_
      rintro e u2 ⟨rfl, y⟩
      clear q0 q1
      replace X := Go.Lib.hid (Wrote.new y X.out HN.out.1 HN.out.2.1)
      replace BK := Go.Lib.hid (BK.out.wr y HN.out.2.2.1 (by decide))
      replace B0 := Go.Lib.hid (B0.out.wrOld P.out y HN.out.2.2.2)
      replace HM := Go.Lib.hid (HM.out.extN (wrote_hide P.out y))
      replace P := Go.Lib.hid y.p
      clear y
      obtain ⟨q0, q1⟩ : _ ∧ _ := ⟨BK.out.cell (j := 0) rfl, B0.out.cell (j := 2) rfl⟩
      go_wp2_with fail
      refine (pack_Byte n0 b _ view HO.out.v _ P.out P.out.base_le').mono ?_
      rintro e u3 ⟨rfl, y⟩
      clear q0 q1
      replace X := Go.Lib.hid (Wrote.new y X.out HN.out.1 HN.out.2.1)
      replace BK := Go.Lib.hid (BK.out.wr y HN.out.2.2.1 (by decide))
      replace B0 := Go.Lib.hid (B0.out.wrOld P.out y HN.out.2.2.2)
      replace HM := Go.Lib.hid (HM.out.extN (wrote_hide P.out y))
      replace P := Go.Lib.hid y.p
      clear y
      obtain ⟨q0, q1⟩ : _ ∧ _ := ⟨BK.out.cell (j := 0) rfl, B0.out.cell (j := 3) rfl⟩
      go_wp2_with fail
      refine (pack_Word n0 b _ slot HO.out.s _ P.out P.out.base_le').mono ?_
      rintro e u4 ⟨rfl, y⟩
      clear q0 q1
      replace X := Go.Lib.hid (Wrote.new y X.out HN.out.1 HN.out.2.1)
      replace BK := Go.Lib.hid (BK.out.wr y HN.out.2.2.1 (by decide))
      replace B0 := Go.Lib.hid (B0.out.wrOld P.out y HN.out.2.2.2)
      replace HM := Go.Lib.hid (HM.out.extN (wrote_hide P.out y))
      replace P := Go.Lib.hid y.p
      clear y
      obtain ⟨q0, q1, q2, q3, q4, q5, q6⟩ : _ ∧ _ ∧ _ ∧ _ ∧ _ ∧ _ ∧ _ := ⟨BK.out.cell (j := 0) rfl, B0.out.cell (j := 4) rfl, B0.out.cell (j := 5) rfl, B0.out.cell (j := 6) rfl, B0.out.cell (j := 7) rfl, B0.out.cell (j := 8) rfl, B0.out.cell (j := 9) rfl⟩
      go_wp2_with fail
      refine (wire_wreq n0 b _ rc rs rk rkey rx rid HO.out.r _ P.out).mono ?_
      rintro e u5 ⟨rfl, y⟩
      clear q0 q1 q2 q3 q4 q5 q6
      replace X := Go.Lib.hid (Wrote.new y X.out HN.out.1 HN.out.2.1)
      replace BK := Go.Lib.hid (BK.out.wr y HN.out.2.2.1 (by decide))
      replace B0 := Go.Lib.hid (B0.out.wrOld P.out y HN.out.2.2.2)
      replace HM := Go.Lib.hid (HM.out.extN (wrote_hide P.out y))
      replace P := Go.Lib.hid y.p
      clear y
      obtain ⟨q1, q2⟩ := And.intro (B0.out.cell (j := 10) rfl) (B0.out.cell (j := 11) rfl)
      go_wp2_with fail
      refine (deeds_ResultText cd HO.out.c rr HO.out.x _).mono ?_
      rintro e ux ⟨rfl, x⟩
      clear q1 q2
      replace X := Go.Lib.hid (X.out.trans x)
      replace BK := Go.Lib.hid (BK.out.extN x)
      replace B0 := Go.Lib.hid (B0.out.extN x)
      replace HM := Go.Lib.hid (HM.out.extN (hide_extN (col := cNw n0) x))
      replace P := Go.Lib.hid (P.out.extN x)
      clear x
      have HRS := Go.Lib.hid (resS_le cd rr)
      generalize hrs : resS cd rr = rS at *
      have HRE := Go.Lib.hid hrs; clear hrs
      have q0 := BK.out.cell (j := 0) rfl
      go_wp2_with fail
      refine (pack_Text n0 b _ rS (by have := HRS.out; omega) _ P.out P.out.base_le').mono ?_
      rintro e u6 ⟨rfl, y⟩
      clear q0
      replace X := Go.Lib.hid (Wrote.new y X.out HN.out.1 HN.out.2.1)
      replace BK := Go.Lib.hid (BK.out.wr y HN.out.2.2.1 (by decide))
      replace B0 := Go.Lib.hid (B0.out.wrOld P.out y HN.out.2.2.2)
      replace HM := Go.Lib.hid (HM.out.extN (wrote_hide P.out y))
      replace P := Go.Lib.hid y.p
      clear y
      obtain ⟨q0, q1⟩ : _ ∧ _ := ⟨BK.out.cell (j := 0) rfl, B0.out.cell (j := 12) rfl⟩
      go_wp2_with fail
      refine (pack_Text n0 b _ text HO.out.t _ P.out P.out.base_le').mono ?_
      rintro e u7 ⟨rfl, y⟩
      clear q0 q1
      replace X := Go.Lib.hid (Wrote.new y X.out HN.out.1 HN.out.2.1)
      replace BK := Go.Lib.hid (BK.out.wr y HN.out.2.2.1 (by decide))
      replace B0 := Go.Lib.hid (B0.out.wrOld P.out y HN.out.2.2.2)
      replace HM := Go.Lib.hid (HM.out.extN (wrote_hide P.out y))
      replace P := Go.Lib.hid y.p
      clear y
      rw [← HRE.out] at P
      have DH : Hid (wHead ⟨kind, ep, view, slot, ⟨rc, rs, ⟨rk, rkey, rx, rid⟩⟩, ⟨cd, rr⟩, text, next, sigs, chs, lks⟩ = textW (textW (textW (wordW (byteW (wordW (byteW (newW 65536) kind) ep) view) slot) (reqL ⟨rc, rs, ⟨rk, rkey, rx, rid⟩⟩)) (resS cd rr).data.toList) text.data.toList) := Go.Lib.hid rfl
      rw [← DH.out] at P
      obtain ⟨q0, q1⟩ : _ ∧ _ := ⟨BK.out.cell (j := 0) rfl, B0.out.cell (j := 13) rfl⟩
      go_wp2_with fail
      refine (pack_Byte n0 b _ next.length (by unfold I64; omega) _ P.out P.out.base_le').mono ?_
      rintro e u8 ⟨rfl, y⟩
      clear q0 q1
      replace X := Go.Lib.hid (Wrote.new y X.out HN.out.1 HN.out.2.1)
      replace BK := Go.Lib.hid (BK.out.wr y HN.out.2.2.1 (by decide))
      replace B0 := Go.Lib.hid (B0.out.wrOld P.out y HN.out.2.2.2)
      replace HM := Go.Lib.hid (HM.out.extN (wrote_hide P.out y))
      replace P := Go.Lib.hid y.p
      clear y
      have q13 := B0.out.cell (j := 13) rfl
      go_wp2_with fail
      clear q13
      generalize hV0 : byteW (wHead ⟨kind, ep, view, slot, ⟨rc, rs, ⟨rk, rkey, rx, rid⟩⟩, ⟨cd, rr⟩, text, next, sigs, chs, lks⟩) next.length = V0 at *
      have HV0 := Go.Lib.hid hV0; clear hV0
      go_loopw [80] (fun iv wr => ∃ (i : Nat), i ≤ next.length ∧ iv = .int .i64 i ∧ Hid (PW wr n0 b ((next.take i).foldl byteW V0)) ∧ Hid (Ext Non w wr) ∧ Hid (Bx wr kw [.pointer (some ⟨b, 0, none⟩)] 207) ∧ Hid (Bx wr b0 [.int .i64 kind, .int .i64 ep, .int .i64 view, .int .i64 slot, .int .i64 rc, .int .i64 rs, .int .i64 rk, .string rkey, .float .f64 rx, .int .i64 rid, .int .i64 cd, .float .f64 rr, .string text, .slice na next.length nc, .slice sa sigs.length sc, .slice ca chs.length cc, .slice la lks.length lc] 43) ∧ Hid (MsW (hide (cNw n0) wr) ⟨na, nc, sa, sc, ca, cc, la, lc⟩ ⟨kind, ep, view, slot, ⟨rc, rs, ⟨rk, rkey, rx, rid⟩⟩, ⟨cd, rr⟩, text, next, sigs, chs, lks⟩)) (fun iv _ => next.length - (intOf iv).toNat)
      case atStart => exact ⟨0, Nat.zero_le _, rfl, P, X, BK, B0, HM⟩
      case round =>
        clear P X BK B0 HM
        obtain ⟨i, hi, rfl, P, X, BK, B0, HM⟩ := hrel
        by_cases hlt : i < next.length
        · obtain ⟨mb, mo, rfl, c0, hI⟩ := HM.out.n.at_ i hlt
          have d0 := (hide_cell c0).1
          have HTk := Go.Lib.hid (fold_take byteW V0 next i hlt)
          generalize next[i] = mm at *
          have HI := Go.Lib.hid hI
          clear c0 hI
          have q0 := BK.out.cell (j := 0) rfl
          go_wp2_with fail
          refine (pack_Byte n0 b _ mm HI.out _ P.out P.out.base_le').mono ?_
          rintro e v1 ⟨rfl, y⟩
          clear q0 d0
          replace X := Go.Lib.hid (Wrote.new y X.out HN.out.1 HN.out.2.1)
          replace BK := Go.Lib.hid (BK.out.wr y HN.out.2.2.1 (by decide))
          replace B0 := Go.Lib.hid (B0.out.wrOld P.out y HN.out.2.2.2)
          replace HM := Go.Lib.hid (HM.out.extN (wrote_hide P.out y))
          replace P := Go.Lib.hid y.p
          clear y
          rw [← HTk.out] at P
          go_wp2_with fail
          go_roundw
          case rel => exact ⟨i + 1, hlt, by go_num, P, X, BK, B0, HM⟩
          case measure => simp [intOf]; omega
        · have hil : next.take i = next := List.take_of_length_le (by omega)
          have DN : Hid (wNext ⟨kind, ep, view, slot, ⟨rc, rs, ⟨rk, rkey, rx, rid⟩⟩, ⟨cd, rr⟩, text, next, sigs, chs, lks⟩ = next.foldl byteW (byteW (wHead ⟨kind, ep, view, slot, ⟨rc, rs, ⟨rk, rkey, rx, rid⟩⟩, ⟨cd, rr⟩, text, next, sigs, chs, lks⟩) next.length)) := Go.Lib.hid rfl
          rw [hil, ← HV0.out, ← DN.out] at P
          clear hil DN HV0
          obtain ⟨q0, q1⟩ : _ ∧ _ := ⟨BK.out.cell (j := 0) rfl, B0.out.cell (j := 14) rfl⟩
          go_wp2_with fail
          refine (wire_wsigs n0 b _ sa sc sigs _ P.out HM.out.s).mono ?_
          rintro e u9 ⟨rfl, y⟩
          clear q0 q1
          replace X := Go.Lib.hid (Wrote.new y X.out HN.out.1 HN.out.2.1)
          replace BK := Go.Lib.hid (BK.out.wr y HN.out.2.2.1 (by decide))
          replace B0 := Go.Lib.hid (B0.out.wrOld P.out y HN.out.2.2.2)
          replace HM := Go.Lib.hid (HM.out.extN (wrote_hide P.out y))
          replace P := Go.Lib.hid y.p
          clear y
          have DG : Hid (wSg ⟨kind, ep, view, slot, ⟨rc, rs, ⟨rk, rkey, rx, rid⟩⟩, ⟨cd, rr⟩, text, next, sigs, chs, lks⟩ = wSigs (byteW (wNext ⟨kind, ep, view, slot, ⟨rc, rs, ⟨rk, rkey, rx, rid⟩⟩, ⟨cd, rr⟩, text, next, sigs, chs, lks⟩) sigs.length) sigs) := Go.Lib.hid rfl
          rw [← DG.out] at P
          clear DG
          obtain ⟨q0, q1⟩ : _ ∧ _ := ⟨BK.out.cell (j := 0) rfl, B0.out.cell (j := 15) rfl⟩
          go_wp2_with fail
          refine (pack_Byte n0 b _ chs.length (by unfold I64; omega) _ P.out P.out.base_le').mono ?_
          rintro e u10 ⟨rfl, y⟩
          clear q0 q1
          replace X := Go.Lib.hid (Wrote.new y X.out HN.out.1 HN.out.2.1)
          replace BK := Go.Lib.hid (BK.out.wr y HN.out.2.2.1 (by decide))
          replace B0 := Go.Lib.hid (B0.out.wrOld P.out y HN.out.2.2.2)
          replace HM := Go.Lib.hid (HM.out.extN (wrote_hide P.out y))
          replace P := Go.Lib.hid y.p
          clear y
          have q15 := B0.out.cell (j := 15) rfl
          go_wp2_with fail
          clear q15
          generalize hV0 : byteW (wSg ⟨kind, ep, view, slot, ⟨rc, rs, ⟨rk, rkey, rx, rid⟩⟩, ⟨cd, rr⟩, text, next, sigs, chs, lks⟩) chs.length = V1 at *
          have HV1 := Go.Lib.hid hV0; clear hV0
          go_loopw [102] (fun iv wr => ∃ (i : Nat), i ≤ chs.length ∧ iv = .int .i64 i ∧ Hid (PW wr n0 b ((chs.take i).foldl wChange V1)) ∧ Hid (Ext Non w wr) ∧ Hid (Bx wr kw [.pointer (some ⟨b, 0, none⟩)] 207) ∧ Hid (Bx wr b0 [.int .i64 kind, .int .i64 ep, .int .i64 view, .int .i64 slot, .int .i64 rc, .int .i64 rs, .int .i64 rk, .string rkey, .float .f64 rx, .int .i64 rid, .int .i64 cd, .float .f64 rr, .string text, .slice na next.length nc, .slice sa sigs.length sc, .slice ca chs.length cc, .slice la lks.length lc] 43) ∧ Hid (MsW (hide (cNw n0) wr) ⟨na, nc, sa, sc, ca, cc, la, lc⟩ ⟨kind, ep, view, slot, ⟨rc, rs, ⟨rk, rkey, rx, rid⟩⟩, ⟨cd, rr⟩, text, next, sigs, chs, lks⟩)) (fun iv _ => chs.length - (intOf iv).toNat)
          case atStart => exact ⟨0, Nat.zero_le _, rfl, P, X, BK, B0, HM⟩
          case round =>
            clear P X BK B0 HM
            obtain ⟨i, hi, rfl, P, X, BK, B0, HM⟩ := hrel
            by_cases hlt : i < chs.length
            · obtain ⟨cb, co, xa, xcap, rfl, hcb, hcells, hsg, hfi, hvi, hbi, hti⟩ := HM.out.c.at_ i hlt
              have HTk := Go.Lib.hid (fold_take wChange V1 chs i hlt)
              have HAt := chAt_get hlt
              rw [← HAt] at HTk
              clear HAt
              generalize hct : chAt chs i = ct at *
              obtain ⟨cf, cv, ce, cb_, ctx⟩ := ct
              clear hct
              have z0 : wr.cell? ⟨cb, co + i * 5, none⟩ = some (.int .i64 cf) := (hide_cell (hcells 0 _ rfl)).1
              have z1 : wr.cell? ⟨cb, co + i * 5 + 1, none⟩ = some (.int .i64 cv) := (hide_cell (hcells 1 _ rfl)).1
              have z2 : wr.cell? ⟨cb, co + i * 5 + 2, none⟩ = some (.slice xa ce.length xcap) := (hide_cell (hcells 2 _ rfl)).1
              have z3 : wr.cell? ⟨cb, co + i * 5 + 3, none⟩ = some (.int .i64 cb_) := (hide_cell (hcells 3 _ rfl)).1
              have z4 : wr.cell? ⟨cb, co + i * 5 + 4, none⟩ = some (.string ctx) := (hide_cell (hcells 4 _ rfl)).1
              have HC := Go.Lib.hid (And.intro hsg (And.intro hfi (And.intro hvi (And.intro hbi hti))))
              clear hcells hsg hfi hvi hbi hti hcb
              have x : Ext Non wr (wr.alloc (.cells #[.int .i64 cf, .int .i64 cv, .slice xa ce.length xcap, .int .i64 cb_, .string ctx] 111)) := (Ext.refl _ _).alloc _
              have BC := Go.Lib.hid (Bx.new wr [.int .i64 cf, .int .i64 cv, .slice xa ce.length xcap, .int .i64 cb_, .string ctx] 111)
              have HG := Go.Lib.hid (HC.out.1.extN (hide_extN (col := cNw n0) x))
              go_upto_region 25 with fail
              clear z0 z1 z2 z3 z4
              replace X := Go.Lib.hid (X.out.trans x)
              replace BK := Go.Lib.hid (BK.out.extN x)
              replace B0 := Go.Lib.hid (B0.out.extN x)
              replace HM := Go.Lib.hid (HM.out.extN (hide_extN (col := cNw n0) x))
              replace P := Go.Lib.hid (P.out.extN x)
              clear x
              generalize World.alloc _ _ = W5 at *
              obtain ⟨q0, z0, z1, z2, z3, z4⟩ : _ ∧ _ ∧ _ ∧ _ ∧ _ ∧ _ := ⟨BK.out.cell (j := 0) rfl, BC.out.cell (j := 0) rfl, BC.out.cell (j := 1) rfl, BC.out.cell (j := 2) rfl, BC.out.cell (j := 3) rfl, BC.out.cell (j := 4) rfl⟩
              go_wp2_with fail
              refine (wire_wchange n0 b _ cf cv cb_ ctx xa xcap ce HC.out.2.1 HC.out.2.2.1 HC.out.2.2.2.1 HC.out.2.2.2.2 _ P.out HG.out).mono ?_
              rintro e v1 ⟨rfl, y⟩
              clear q0 z0 z1 z2 z3 z4 BC
              replace X := Go.Lib.hid (Wrote.new y X.out HN.out.1 HN.out.2.1)
              replace BK := Go.Lib.hid (BK.out.wr y HN.out.2.2.1 (by decide))
              replace B0 := Go.Lib.hid (B0.out.wrOld P.out y HN.out.2.2.2)
              replace HM := Go.Lib.hid (HM.out.extN (wrote_hide P.out y))
              replace P := Go.Lib.hid y.p
              clear y
              rw [← HTk.out] at P
              go_wp2_with fail
              go_roundw
              case rel => exact ⟨i + 1, hlt, by go_num, P, X, BK, B0, HM⟩
              case measure => simp [intOf]; omega
            · have hil : chs.take i = chs := List.take_of_length_le (by omega)
              have DN : Hid (wChs ⟨kind, ep, view, slot, ⟨rc, rs, ⟨rk, rkey, rx, rid⟩⟩, ⟨cd, rr⟩, text, next, sigs, chs, lks⟩ = chs.foldl wChange (byteW (wSg ⟨kind, ep, view, slot, ⟨rc, rs, ⟨rk, rkey, rx, rid⟩⟩, ⟨cd, rr⟩, text, next, sigs, chs, lks⟩) chs.length)) := Go.Lib.hid rfl
              rw [hil, ← HV1.out, ← DN.out] at P
              clear hil DN HV1
              obtain ⟨q0, q1⟩ : _ ∧ _ := ⟨BK.out.cell (j := 0) rfl, B0.out.cell (j := 16) rfl⟩
              go_wp2_with fail
              refine (pack_Byte n0 b _ lks.length (by unfold I64; omega) _ P.out P.out.base_le').mono ?_
              rintro e u11 ⟨rfl, y⟩
              clear q0 q1
              replace X := Go.Lib.hid (Wrote.new y X.out HN.out.1 HN.out.2.1)
              replace BK := Go.Lib.hid (BK.out.wr y HN.out.2.2.1 (by decide))
              replace B0 := Go.Lib.hid (B0.out.wrOld P.out y HN.out.2.2.2)
              replace HM := Go.Lib.hid (HM.out.extN (wrote_hide P.out y))
              replace P := Go.Lib.hid y.p
              clear y
              have q16 := B0.out.cell (j := 16) rfl
              go_wp2_with fail
              clear q16
              generalize hV0 : byteW (wChs ⟨kind, ep, view, slot, ⟨rc, rs, ⟨rk, rkey, rx, rid⟩⟩, ⟨cd, rr⟩, text, next, sigs, chs, lks⟩) lks.length = V2 at *
              have HV2 := Go.Lib.hid hV0; clear hV0
              go_loopw [119] (fun iv wr => ∃ (i : Nat), i ≤ lks.length ∧ iv = .int .i64 i ∧ Hid (PW wr n0 b ((lks.take i).foldl wLink V2)) ∧ Hid (Ext Non w wr) ∧ Hid (Bx wr kw [.pointer (some ⟨b, 0, none⟩)] 207) ∧ Hid (Bx wr b0 [.int .i64 kind, .int .i64 ep, .int .i64 view, .int .i64 slot, .int .i64 rc, .int .i64 rs, .int .i64 rk, .string rkey, .float .f64 rx, .int .i64 rid, .int .i64 cd, .float .f64 rr, .string text, .slice na next.length nc, .slice sa sigs.length sc, .slice ca chs.length cc, .slice la lks.length lc] 43) ∧ Hid (MsW (hide (cNw n0) wr) ⟨na, nc, sa, sc, ca, cc, la, lc⟩ ⟨kind, ep, view, slot, ⟨rc, rs, ⟨rk, rkey, rx, rid⟩⟩, ⟨cd, rr⟩, text, next, sigs, chs, lks⟩)) (fun iv _ => lks.length - (intOf iv).toNat)
              case atStart => exact ⟨0, Nat.zero_le _, rfl, P, X, BK, B0, HM⟩
              case round =>
                clear P X BK B0 HM
                obtain ⟨i, hi, rfl, P, X, BK, B0, HM⟩ := hrel
                by_cases hlt : i < lks.length
                · obtain ⟨cb, co, ma, mc, xa, xcap, rfl, hcb, hcells, hmi, hsg, hei⟩ := HM.out.l.at_ i hlt
                  have HTk := Go.Lib.hid (fold_take wLink V2 lks i hlt)
                  have HAt := lkAt_get hlt
                  rw [← HAt] at HTk
                  clear HAt
                  generalize hct : lkAt lks i = ct at *
                  obtain ⟨le, lm, ls⟩ := ct
                  clear hct
                  have z0 : wr.cell? ⟨cb, co + i * 3, none⟩ = some (.int .i64 le) := (hide_cell (hcells 0 _ rfl)).1
                  have z1 : wr.cell? ⟨cb, co + i * 3 + 1, none⟩ = some (.slice ma lm.length mc) := (hide_cell (hcells 1 _ rfl)).1
                  have z2 : wr.cell? ⟨cb, co + i * 3 + 2, none⟩ = some (.slice xa ls.length xcap) := (hide_cell (hcells 2 _ rfl)).1
                  have HC := Go.Lib.hid (And.intro hmi.show hei)
                  have HG := Go.Lib.hid hsg
                  clear hcells hsg hmi hei hcb
                  have x : Ext Non wr (wr.alloc (.cells #[.int .i64 le, .slice ma lm.length mc, .slice xa ls.length xcap] 61)) := (Ext.refl _ _).alloc _
                  have BC := Go.Lib.hid (Bx.new wr [.int .i64 le, .slice ma lm.length mc, .slice xa ls.length xcap] 61)
                  have HKB := Go.Lib.hid (show wr.heap.size ≠ b by have := P.out.lt; omega)
                  replace HG := Go.Lib.hid (HG.out.extN (hide_extN (col := cNw n0) x))
                  have HMI := Go.Lib.hid (HC.out.1.extN x)
                  go_upto_region 31 with fail
                  clear z0 z1 z2
                  replace X := Go.Lib.hid (X.out.trans x)
                  replace BK := Go.Lib.hid (BK.out.extN x)
                  replace B0 := Go.Lib.hid (B0.out.extN x)
                  replace HM := Go.Lib.hid (HM.out.extN (hide_extN (col := cNw n0) x))
                  replace P := Go.Lib.hid (P.out.extN x)
                  clear x
                  generalize World.alloc _ _ = W6 at *
                  obtain ⟨kl, hkl⟩ : ∃ kl, kl = wr.heap.size := ⟨_, rfl⟩
                  rw [← hkl] at BC HKB ⊢
                  clear hkl
                  obtain ⟨z0, z1⟩ := And.intro (BC.out.cell (j := 0) rfl) (BC.out.cell (j := 1) rfl)
                  go_wp2_with fail
                  refine (council_Text le HC.out.2 ma mc lm _ HMI.out).mono ?_
                  rintro e v1 ⟨rfl, x⟩
                  clear z0 z1 HMI
                  replace BC := Go.Lib.hid (BC.out.extN x)
                  replace HG := Go.Lib.hid (HG.out.extN (hide_extN (col := cNw n0) x))
                  replace X := Go.Lib.hid (X.out.trans x)
                  replace BK := Go.Lib.hid (BK.out.extN x)
                  replace B0 := Go.Lib.hid (B0.out.extN x)
                  replace HM := Go.Lib.hid (HM.out.extN (hide_extN (col := cNw n0) x))
                  replace P := Go.Lib.hid (P.out.extN x)
                  clear x
                  have DLk : Hid (wLink ((lks.take i).foldl wLink V2) ⟨le, lm, ls⟩ = wSigs (byteW (textW ((lks.take i).foldl wLink V2) (confS le lm).data.toList) ls.length) ls) := Go.Lib.hid rfl
                  have HCS := Go.Lib.hid (conf_size_le le lm)
                  generalize confS le lm = cS at *
                  generalize confE le lm = cE at *
                  have q0 := BK.out.cell (j := 0) rfl
                  go_wp2_with fail
                  refine (pack_Text n0 b _ cS HCS.out _ P.out P.out.base_le').mono ?_
                  rintro e u12 ⟨rfl, y⟩
                  clear q0
                  replace BC := Go.Lib.hid (BC.out.wr y HKB.out (by decide))
                  replace HG := Go.Lib.hid (HG.out.extN (wrote_hide P.out y))
                  replace X := Go.Lib.hid (Wrote.new y X.out HN.out.1 HN.out.2.1)
                  replace BK := Go.Lib.hid (BK.out.wr y HN.out.2.2.1 (by decide))
                  replace B0 := Go.Lib.hid (B0.out.wrOld P.out y HN.out.2.2.2)
                  replace HM := Go.Lib.hid (HM.out.extN (wrote_hide P.out y))
                  replace P := Go.Lib.hid y.p
                  clear y
                  have z2 := BC.out.cell (j := 2) rfl
                  have q0 := BK.out.cell (j := 0) rfl
                  go_wp2_with fail
                  refine (wire_wsigs n0 b _ xa xcap ls _ P.out HG.out).mono ?_
                  rintro e u13 ⟨rfl, y⟩
                  clear q0 z2
                  replace X := Go.Lib.hid (Wrote.new y X.out HN.out.1 HN.out.2.1)
                  replace BK := Go.Lib.hid (BK.out.wr y HN.out.2.2.1 (by decide))
                  replace B0 := Go.Lib.hid (B0.out.wrOld P.out y HN.out.2.2.2)
                  replace HM := Go.Lib.hid (HM.out.extN (wrote_hide P.out y))
                  replace P := Go.Lib.hid y.p
                  clear y
                  rw [← DLk.out, ← HTk.out] at P
                  go_wp2_with fail
                  go_roundw
                  case rel => exact ⟨i + 1, hlt, by go_num, P, X, BK, B0, HM⟩
                  case measure => simp [intOf]; omega
                · have hil : lks.take i = lks := List.take_of_length_le (by omega)
                  have DN : Hid (wLks ⟨kind, ep, view, slot, ⟨rc, rs, ⟨rk, rkey, rx, rid⟩⟩, ⟨cd, rr⟩, text, next, sigs, chs, lks⟩ = lks.foldl wLink (byteW (wChs ⟨kind, ep, view, slot, ⟨rc, rs, ⟨rk, rkey, rx, rid⟩⟩, ⟨cd, rr⟩, text, next, sigs, chs, lks⟩) lks.length)) := Go.Lib.hid rfl
                  rw [hil, ← HV2.out, ← DN.out] at P
                  clear hil DN HV2
                  have q0 := BK.out.cell (j := 0) rfl
                  go_wp2_with fail
                  refine (pack_Done n0 b _ _ P.out).mono ?_
                  rintro e v9 ⟨rfl, x⟩
                  clear q0
                  have XE := Go.Lib.hid (X.out.trans x)
                  have HDn : Hid ((wLks ⟨kind, ep, view, slot, ⟨rc, rs, ⟨rk, rkey, rx, rid⟩⟩, ⟨cd, rr⟩, text, next, sigs, chs, lks⟩).err ≠ 0 → doneS (wLks ⟨kind, ep, view, slot, ⟨rc, rs, ⟨rk, rkey, rx, rid⟩⟩, ⟨cd, rr⟩, text, next, sigs, chs, lks⟩) = ⟨#[]⟩) := Go.Lib.hid (fun h => by unfold doneS; rw [if_neg h])
                  clear x P X BK B0 HM
                  generalize wLks ⟨kind, ep, view, slot, ⟨rc, rs, ⟨rk, rkey, rx, rid⟩⟩, ⟨cd, rr⟩, text, next, sigs, chs, lks⟩ = WW at *
                  by_cases he : WW.err = 0
                  · have HE := Go.Lib.hid he
                    go_wp2
                    go_returns
                    exact ⟨by rw [DS.out, DE.out, if_pos HK.out, if_pos HK.out, if_pos HF.out, if_pos HF.out, if_pos HE.out]; rfl, XE.out⟩
                  · have HE := Go.Lib.hid he
                    have hb : (WW.err != 0) = true := by rw [bne_iff_ne]; exact he
                    have hb2 : (WW.err == 0) = false := by rw [beq_eq_false_iff_ne]; exact he
                    clear he
                    go_wp2
                    go_returns
                    exact ⟨by rw [DS.out, DE.out, if_pos HK.out, if_pos HK.out, if_pos HF.out, if_pos HF.out, if_neg HE.out, HDn.out HE.out]; rfl, XE.out⟩
    · as_aux_lemma =>
      have HK := Go.Lib.hid (show ¬ kindOk kind = true by rw [DK.out, decide_eq_false k2]; simp)
      go_wp2
      go_returns
      exact ⟨by rw [DS.out, DE.out, if_neg HK.out, if_neg HK.out]; rfl, X.out⟩
  · as_aux_lemma =>
    have HK := Go.Lib.hid (show ¬ kindOk kind = true by rw [DK.out, decide_eq_false k1]; simp)
    go_wp2
    go_returns
    exact ⟨by rw [DS.out, DE.out, if_neg HK.out, if_neg HK.out]; rfl, X.out⟩
end Go.Proofs.YtflpkoafebjfdaaGreat
