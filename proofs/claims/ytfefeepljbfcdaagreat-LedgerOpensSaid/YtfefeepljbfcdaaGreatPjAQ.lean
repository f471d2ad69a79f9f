/- Joined texts: Ew5, Ew6, Rd01, Text22. What each proves stands at its head; no conditions beside those in its theorems. -/
import Derived.Maps.AppendAt
import Derived.Test.YtfefeepljbfcdaaGreatPjAP
/- Footprints: an append writes its own row alone, or a new block. -/
namespace Go.Proofs.YtfefeepljbfcdaaGreat
open Go.RowKit
set_option linter.unusedVariables false
def Row (v : Value) : Nat → Prop := fun k => v.ownBlock = some k
theorem Bx.drew {w : World} {k : Nat} {vs : List Value} {t : TypeId} (h : Bx w k vs t) : Bx w.drew k vs t := ⟨h.h⟩
theorem own_row {w : World} {base : Nat} {e : TypeId} {size : Nat} {v : Value} {n : Nat} {xs : List Value} (h : w.ownsRow base e size v n xs) : ∀ k, Row v k → base ≤ k ∧ k < w.heap.size := fun k hk => h.lt k hk
end Go.Proofs.YtfefeepljbfcdaaGreat

/- Footprints: an append to a row of whatever length that may be. -/
namespace Go.Proofs.YtfefeepljbfcdaaGreat
open Go.RowKit
set_option linter.unusedVariables false
theorem wpList_append_rowB {P : Program} {ops : Array Oper} {rest : List Oper} {o : Oper} {a : Act} {w : World} {Q : Exit → Act → World → Prop} (hgd : o.guard = none) (s x : Operand) (t : TypeId)
  (ho : o.op = .call { callee := .builtin .append, args := #[s, x], argTypes := #[t, t] })
  (base : Nat) (e : TypeId) (size bytes : Nat) (z : Value) (ht : P.underlying t = some (.slice e)) (hi : (P.info? e).map (fun i => (i.zero, i.size, i.bytes)) = some (some z, size, bytes)) (hzs : z.cells.size = size) (hsz : 0 < size)
  (v : Value) (n : Nat) (xs : List Value) (hs : a.eval s = v) (hown : w.ownsRow base e size v n xs)
  (k : Nat) (news : List Value) (t' : TypeId) (hx : a.eval x = .slice (some ⟨k, 0, none⟩) 1 1) (hB : Bx w k news t') (hl : news.length = size) (h1 : ∀ u ∈ news, u.oneCell' = true)
  (hn : (n + 1) * bytes ≤ 140737488355328) (hn2 : n + 1 ≤ 9223372036854775807) (hbase : base ≤ w.heap.size)
  (h : ∀ (v' : Value) (W : EW (Row v) w), W.on.ownsRow base e size v' (n + 1) (xs ++ news) → (∀ k, Row v' k → Row v k ∨ w.heap.size ≤ k) → wpList P ops Q rest (a.put o.dst v') W.on) : wpList P ops Q (o :: rest) a w := by
 obtain ⟨i, hi0, hi1, hi2, hi3⟩ := info_parts hi
 refine wpList_append_own_at w hgd s x t ho base e i z size bytes ht hi0 hi1 hi2 hi3 hzs hsz v n xs hs hown ⟨k, 0, none⟩ 1 1 news hx (by omega) (fun j u hu => ?_) h1 (by unfold maxLen; omega) hn hbase ?_
 ·rw [addr_add, Nat.zero_add]; exact hB.cell hu
 ·intro v' w' ho' hg _ hv
  refine h v' ⟨w', Ext.ofGrown hg fun q hq => .inl hq⟩ ho' (fun k hk => ?_)
  unfold Row at *
  rcases hv with hv | hv
  ·left; rw [← hv]; exact hk
  ·right; rw [hv] at hk; injection hk with hk; omega
end Go.Proofs.YtfefeepljbfcdaaGreat

/- The reference of layer 1 (pack): its reader. -/
namespace Go.Proofs.YtfefeepljbfcdaaGreat
open Go.RowKit Go.Lib
set_option linter.unusedSimpArgs false
set_option linter.unusedVariables false
attribute [local go_sem] run_store_float
attribute [local go_sem low] EW.cellN EW.frozN alloc_cell_or alloc_froz_or EW.cellF EW.frozF EW.cell1 EW.froz1
structure RdW (w : World) (b : Nat) (r : Rd) : Prop where
 box : Bx w b [.string (sB r.s), .bool r.bad] 87
 small : r.s.length ≤ 4611686018427387904
theorem RdW.extN {w w' : World} {b : Nat} {r : Rd} (h : RdW w b r) (x : Ext Non w w') : RdW w' b r := ⟨h.box.extN x, h.small⟩
theorem RdW.ext {S : Nat → Prop} {w w' : World} {b : Nat} {r : Rd} (h : RdW w b r) (x : Ext S w w') (hs : ¬ S b) : RdW w' b r := ⟨h.box.ext x hs, h.small⟩
theorem sB_extract (l : List UInt8) (a b : Nat) : (sB l).extract a b = sB ((l.drop a).take (b - a)) := by
 apply ByteArray.ext
 apply Array.ext'
 rw [sB_toList]
 simp [sB, ByteArray.data_extract]
theorem sB_drop (l : List UInt8) (a : Nat) : (sB l).extract a (sB l).size = sB (l.drop a) := by
 rw [sB_extract, sB_size, List.take_of_length_le (by simp)]
theorem sB_get (l : List UInt8) (i : Nat) (h : i < (sB l).size) : (sB l)[i] = l[i]'(by rw [sB_size] at h; exact h) := by
 unfold sB; rfl
set_option maxHeartbeats 1000000 in
set_option maxRecDepth 100000 in
theorem rd_Bits (b : Nat) (r : Rd) (k : Nat) (hk : k ≤ 8) (w : World) (h : RdW w b r) : Calls Tryz.prog 38 #[.pointer (some ⟨b, 0, none⟩), .int .i64 (k : Int)] w fun e w' =>
  e = .returned (.int .u64 (numV k r : Nat)) ∧ Ext (One b) w w' ∧ RdW w' b (numR k r) := by
 obtain ⟨l, bad⟩ := r
 have HB := hI_ h.box
 have hsm : (sB l).size ≤ 4611686018427387904 := by rw [sB_size]; exact h.small
 have HSM := hI_ h.small
 have HSZ := hI_ (sB_size l)
 have q0 : w.cell? ⟨b, 0, none⟩ = some (.string (sB l)) := h.box.cell rfl
 have q1 : w.cell? ⟨b, 1, none⟩ = some (.bool bad) := h.box.cell rfl
 have z0 : w.frozen? ⟨b, 0, none⟩ = false := froz_of_heap h.box.h
 have z1 : w.frozen? ⟨b, 1, none⟩ = false := froz_of_heap h.box.h
 clear h
 cases hc : canR k ⟨l, bad⟩
 ·have HV : Hid (numV k ⟨l, bad⟩ = 0 ∧ numR k ⟨l, bad⟩ = ⟨l, true⟩) := hI_ (by unfold numV numR; rw [hc]; exact ⟨rfl, rfl⟩)
  have X : Ext (One b) w (w.setCell ⟨b, 1, none⟩ (.bool true)) := (Ext.refl _ _).set1 _
  have HE : Hid (RdW (w.setCell ⟨b, 1, none⟩ (.bool true)) b ⟨l, true⟩) := hI_ ⟨HB.out.set (j := 1) (.bool true), HSM.out⟩
  cases bad
  ·have hlt : (sB l).size < k := by
    rw [sB_size]
    unfold canR at hc
    simpa using hc
   have dd : decide ((sB l).size < k) = true := decide_eq_true hlt
   clear hc hlt
   generalize sB l = s at *
   go_enter Tryz.func38, Tryz.ntmps38
   go_wp2
   go_returns
   exact ⟨by rw [HV.out.1]; rfl, X, by rw [HV.out.2]; exact HE.out⟩
  ·clear hc
   generalize sB l = s at *
   go_enter Tryz.func38, Tryz.ntmps38
   go_wp2
   go_returns
   exact ⟨by rw [HV.out.1]; rfl, X, by rw [HV.out.2]; exact HE.out⟩
 ·have hc2 : bad = false ∧ k ≤ l.length := by unfold canR at hc; simpa using hc
  obtain ⟨rfl, hkl⟩ := hc2
  have HV : Hid (numV k ⟨l, false⟩ = beN (l.take k) ∧ numR k ⟨l, false⟩ = ⟨l.drop k, false⟩) := hI_ (by unfold numV numR; rw [hc]; exact ⟨rfl, rfl⟩)
  have dd : decide ((sB l).size < k) = false := decide_eq_false (by rw [sB_size]; omega)
  have HDR := hI_ (sB_drop l k)
  have hks : k ≤ (sB l).size := by rw [sB_size]; exact hkl
  clear hc
  go_enter Tryz.func38, Tryz.ntmps38
  go_wp2_with fail
  go_loopg [5, 6] k (fun g nv iv wr => ∃ i : Nat, i ≤ k ∧ g = k - i ∧ nv = .int .u64 (beN (l.take i) : Nat) ∧ iv = .int .i64 i ∧ w = wr)
  case atStart => exact ⟨0, Nat.zero_le _, rfl, rfl, rfl, rfl⟩
  case round =>
   obtain ⟨i, hi, hg, rfl, rfl, rfl⟩ := hrel
   have HG := hI_ hg; clear hg
   by_cases hlt : i < k
   ·have hil : i < l.length := by omega
    have his : i < (sB l).size := by omega
    have HT := hI_ (beN_take hil)
    have hge := sB_get l i his
    have hb := beN_lt i (l.take i) (by rw [List.length_take]; omega)
    have hp : 256 ^ i ≤ 256 ^ 7 := Nat.pow_le_pow_right (by decide) (by omega)
    have hp7 : (256 : Nat) ^ 7 = 72057594037927936 := by decide
    generalize beN (l.take i) = n at *
    have hcl : (l[i]).toNat < 256 := UInt8.toNat_lt _
    have hbn : n ≤ 72057594037927936 := by omega
    have HGE := hI_ hge
    have w1 : IntKind.u64.wrap ((n : Int) * 256) = (n : Int) * 256 := by show ((n : Int) * 256) % 18446744073709551616 = _; omega
    have w0 : IntKind.u64.wrap ((sB l)[i].toNat : Int) = ((sB l)[i].toNat : Int) := by rw [hge]; show ((l[i]).toNat : Int) % 18446744073709551616 = _; omega
    have w2 : IntKind.u64.wrap ((n : Int) * 256 + ((sB l)[i].toNat : Int)) = (n : Int) * 256 + ((sB l)[i].toNat : Int) := by rw [hge]; show ((n : Int) * 256 + ((l[i]).toNat : Int)) % 18446744073709551616 = _; omega
    clear hb hp hp7 hge
    go_wp2_with fail
    go_roundg (k - (i + 1))
    case measure => have := HG.out; omega
    case rel => exact ⟨i + 1, hlt, rfl, by rw [HT.out, ← HGE.out]; go_num, by go_num, rfl⟩
   ·obtain rfl : i = k := by omega
    go_wp2
    go_returns
    have X : Ext (One b) w (w.setCell ⟨b, 0, none⟩ (.string (sB (l.drop i)))) := (Ext.refl _ _).set1 _
    rw [HDR.out]
    refine ⟨by rw [HV.out.1]; rfl, X, ?_⟩
    rw [HV.out.2]
    exact ⟨HB.out.set (j := 0) (.string (sB (l.drop i))), by show (l.drop i).length ≤ _; rw [List.length_drop]; have : l.length ≤ 4611686018427387904 := HSM.out; omega⟩
theorem rd_Num (b : Nat) (r : Rd) (k : Nat) (hk : k ≤ 4) (w : World) (h : RdW w b r) : Calls Tryz.prog 35 #[.pointer (some ⟨b, 0, none⟩), .int .i64 (k : Int)] w fun e w' =>
  e = .returned (.int .i64 (numV k r : Nat)) ∧ Ext (One b) w w' ∧ RdW w' b (numR k r) := by
 have HH := hI_ h
 have hv := numV_lt k r
 have hp : 256 ^ k ≤ 256 ^ 4 := Nat.pow_le_pow_right (by decide) hk
 have hp4 : (256 : Nat) ^ 4 = 4294967296 := by decide
 generalize hn : numV k r = n at *
 have HN := hI_ hn
 have hw1 : IntKind.i64.wrap (n : Int) = (n : Int) := IntWalk.i64_in _ (by omega)
 clear h hv hp hp4 hn
 go_enter Tryz.func35, Tryz.ntmps35
 go_wp2_with fail
 refine (rd_Bits b r k (by omega) _ HH.out).mono ?_
 rintro e w2 ⟨rfl, hx, hr⟩
 rw [HN.out]
 go_wp2
 go_returns
 exact ⟨rfl, hx, hr⟩
theorem cut_mid (s : ByteArray) (n : Nat) (h : 2 + n ≤ s.size) (W : World) : (Instr.slice 9 (.string s) (some (.int .i64 2)) (some (.int .i64 (2 + (n : Int)))) none).run Tryz.prog W = .ok (.string (s.extract 2 (2 + n))) W := by
 rw [run_slice_string W 9 s .i64 .i64 2 (2 + (n : Int)) Tryz.underlying9 (by omega) (by omega) (by omega)]
 rw [show ((2 : Int) + (n : Int)).toNat = 2 + n by omega]; rfl
theorem cut_end (s : ByteArray) (n : Nat) (h : 2 + n ≤ s.size) (W : World) : (Instr.slice 9 (.string s) (some (.int .i64 (2 + (n : Int)))) none none).run Tryz.prog W = .ok (.string (s.extract (2 + n) s.size)) W := by
 have := run_slice_string_from_if (P := Tryz.prog) W 9 s .i64 (2 + (n : Int)) Tryz.underlying9
 rw [this, if_pos (by omega)]
 rw [show ((2 : Int) + (n : Int)).toNat = 2 + n by omega]
set_option maxHeartbeats 1000000 in
set_option maxRecDepth 100000 in
theorem rd_Text (b : Nat) (r : Rd) (w : World) (h : RdW w b r) : Calls Tryz.prog 37 #[.pointer (some ⟨b, 0, none⟩)] w fun e w' =>
  e = .returned (.string (sB (textV r))) ∧ Ext (One b) w w' ∧ RdW w' b (textR r) := by
 obtain ⟨l, bad⟩ := r
 have HB := hI_ h.box
 have hsm : (sB l).size ≤ 4611686018427387904 := by rw [sB_size]; exact h.small
 have HSM := hI_ h.small
 have q0 : w.cell? ⟨b, 0, none⟩ = some (.string (sB l)) := h.box.cell rfl
 have q1 : w.cell? ⟨b, 1, none⟩ = some (.bool bad) := h.box.cell rfl
 have z0 : w.frozen? ⟨b, 0, none⟩ = false := froz_of_heap h.box.h
 have z1 : w.frozen? ⟨b, 1, none⟩ = false := froz_of_heap h.box.h
 clear h
 have X1 : Ext (One b) w (w.setCell ⟨b, 1, none⟩ (.bool true)) := (Ext.refl _ _).set1 _
 have HE : Hid (RdW (w.setCell ⟨b, 1, none⟩ (.bool true)) b ⟨l, true⟩) := hI_ ⟨HB.out.set (j := 1) (.bool true), HSM.out⟩
 have HX1 := hI_ X1
 clear X1
 have hem : Hid (sB [] = (⟨#[]⟩ : ByteArray)) := hI_ rfl
 cases hc : canT ⟨l, bad⟩
 ·have HV : Hid (textV ⟨l, bad⟩ = [] ∧ textR ⟨l, bad⟩ = ⟨l, true⟩) := hI_ (by unfold textV textR; rw [hc]; exact ⟨rfl, rfl⟩)
  cases bad
  ·by_cases h2 : (sB l).size < 2
   ·have dd : decide (((sB l).size : Int) < 2) = true := decide_eq_true (by omega)
    clear hc h2
    generalize sB l = s at *
    go_enter Tryz.func37, Tryz.ntmps37
    go_wp2
    go_returns
    exact ⟨by rw [HV.out.1]; rfl, HX1.out, by rw [HV.out.2]; exact HE.out⟩
   ·have h2' : 2 ≤ l.length := by rw [sB_size] at h2; omega
    have hn : (sB l).size - 2 < txtN ⟨l, false⟩ := by
     rw [sB_size]
     unfold canT canR at hc
     simp at hc
     exact hc h2'
    have htx : txtN ⟨l, false⟩ = (l[0]).toNat * 256 + (l[1]).toNat := by
     match l, h2' with
     | a :: c :: t, _ => unfold txtN beN; simp
    have hg0 := sB_get l 0 (by rw [sB_size]; omega)
    have hg1 := sB_get l 1 (by rw [sB_size]; omega)
    have c0 : (l[0]).toNat < 256 := UInt8.toNat_lt _
    have c1 : (l[1]).toNat < 256 := UInt8.toNat_lt _
    rw [← hg0, ← hg1] at htx
    rw [← hg0] at c0
    rw [← hg1] at c1
    have d2 : decide (((sB l).size : Int) < 2) = false := decide_eq_false (by rw [sB_size]; omega)
    have hs0 : 0 < (sB l).size := by rw [sB_size]; omega
    have hs1 : 1 < (sB l).size := by rw [sB_size]; omega
    have hs2 : (1 : Int) < ((sB l).size : Int) := by omega
    have hs3 : (2 : Int) ≤ ((sB l).size : Int) := by omega
    have hs4 : 2 ≤ (sB l).size := by omega
    generalize txtN ⟨l, false⟩ = n at *
    have w1 : IntKind.i64.wrap (((sB l)[0].toNat : Int) * (256 : Int)) = ((sB l)[0].toNat : Int) * (256 : Int) := IntWalk.i64_in _ (by omega)
    have w2 : IntKind.i64.wrap (((sB l)[0].toNat : Int) * (256 : Int) + ((sB l)[1].toNat : Int)) = (n : Int) := (IntWalk.i64_in _ (by omega)).trans (by omega)
    have W2 : Hid (wrap64 (((sB l)[0].toNat : Int) * (256 : Int) + ((sB l)[1].toNat : Int)) = (n : Int)) := hI_ ((IntWalk.wrap64_in _ (by omega)).trans (by omega))
    have w3 : IntKind.i64.wrap (((sB l)[0].toNat : Int)) = ((sB l)[0].toNat : Int) := IntWalk.i64_in _ (by omega)
    have w4 : IntKind.i64.wrap (((sB l)[1].toNat : Int)) = ((sB l)[1].toNat : Int) := IntWalk.i64_in _ (by omega)
    have w5 : IntKind.i64.wrap (((sB l).size : Int) - 2) = ((sB l).size : Int) - 2 := IntWalk.i64_in _ (by omega)
    have dn : decide (((sB l).size : Int) - 2 < (n : Int)) = true := decide_eq_true (by omega)
    clear hc htx hg0 hg1 c0 c1 hn h2
    generalize sB l = s at *
    go_enter Tryz.func37, Tryz.ntmps37
    go_wp2_with fail
    go_quiet (fail)
    go_wp2
    go_returns
    exact ⟨by rw [HV.out.1]; rfl, HX1.out.drewN _, by rw [HV.out.2]; exact HE.out.extN ((Ext.refl _ _).drewN _)⟩
  ·clear hc
   generalize sB l = s at *
   go_enter Tryz.func37, Tryz.ntmps37
   go_wp2
   go_returns
   exact ⟨by rw [HV.out.1]; rfl, HX1.out, by rw [HV.out.2]; exact HE.out⟩
 ·have hc2 : bad = false ∧ 2 ≤ l.length ∧ txtN ⟨l, bad⟩ ≤ l.length - 2 := by unfold canT canR at hc; simp at hc; exact ⟨hc.1.1, hc.1.2, hc.2⟩
  obtain ⟨rfl, h2', hn⟩ := hc2
  have HV : Hid (textV ⟨l, false⟩ = (l.drop 2).take (txtN ⟨l, false⟩) ∧ textR ⟨l, false⟩ = ⟨l.drop (2 + txtN ⟨l, false⟩), false⟩) := hI_ (by unfold textV textR; rw [hc]; exact ⟨rfl, rfl⟩)
  have htx : txtN ⟨l, false⟩ = (l[0]).toNat * 256 + (l[1]).toNat := by
   match l, h2' with
   | a :: c :: t, _ => unfold txtN beN; simp
  have hg0 := sB_get l 0 (by rw [sB_size]; omega)
  have hg1 := sB_get l 1 (by rw [sB_size]; omega)
  have c0 : (l[0]).toNat < 256 := UInt8.toNat_lt _
  have c1 : (l[1]).toNat < 256 := UInt8.toNat_lt _
  rw [← hg0, ← hg1] at htx
  rw [← hg0] at c0
  rw [← hg1] at c1
  have d2 : decide (((sB l).size : Int) < 2) = false := decide_eq_false (by rw [sB_size]; omega)
  have hs0 : 0 < (sB l).size := by rw [sB_size]; omega
  have hs1 : 1 < (sB l).size := by rw [sB_size]; omega
  have hs2 : (1 : Int) < ((sB l).size : Int) := by omega
  have hs3 : (2 : Int) ≤ ((sB l).size : Int) := by omega
  have hs4 : 2 ≤ (sB l).size := by omega
  generalize txtN ⟨l, false⟩ = n at *
  have w1 : IntKind.i64.wrap (((sB l)[0].toNat : Int) * (256 : Int)) = ((sB l)[0].toNat : Int) * (256 : Int) := IntWalk.i64_in _ (by omega)
  have w2 : IntKind.i64.wrap (((sB l)[0].toNat : Int) * (256 : Int) + ((sB l)[1].toNat : Int)) = (n : Int) := (IntWalk.i64_in _ (by omega)).trans (by omega)
  have W2 : Hid (wrap64 (((sB l)[0].toNat : Int) * (256 : Int) + ((sB l)[1].toNat : Int)) = (n : Int)) := hI_ ((IntWalk.wrap64_in _ (by omega)).trans (by omega))
  have w3 : IntKind.i64.wrap (((sB l)[0].toNat : Int)) = ((sB l)[0].toNat : Int) := IntWalk.i64_in _ (by omega)
  have w4 : IntKind.i64.wrap (((sB l)[1].toNat : Int)) = ((sB l)[1].toNat : Int) := IntWalk.i64_in _ (by omega)
  have w5 : IntKind.i64.wrap (((sB l).size : Int) - 2) = ((sB l).size : Int) - 2 := IntWalk.i64_in _ (by omega)
  have hsz := sB_size l
  have dn : decide (((sB l).size : Int) - 2 < (n : Int)) = false := decide_eq_false (by omega)
  have w6 : IntKind.i64.wrap (2 + (n : Int)) = ((2 + n : Nat) : Int) := (IntWalk.i64_in _ (by omega)).trans (by omega)
  have hn2 : 2 + n ≤ (sB l).size := by omega
  have hn3 : (2 : Int) + (n : Int) ≤ ((sB l).size : Int) := by omega
  have hcm := cut_mid (sB l) n hn2
  have hce := cut_end (sB l) n hn2
  have HE1 : Hid ((sB l).extract 2 (2 + n) = sB ((l.drop 2).take n)) := hI_ (by rw [sB_extract, Nat.add_sub_cancel_left])
  have HE2 : Hid ((sB l).extract (2 + n) (sB l).size = sB (l.drop (2 + n))) := hI_ (sB_drop l (2 + n))
  clear hc htx hg0 hg1 c0 c1 hn hsz HE hem HX1
  generalize sB l = s at *
  go_enter Tryz.func37, Tryz.ntmps37
  go_wp2_with fail
  go_quiet (fail)
  go_wp2
  go_returns
  rw [HE2.out]
  refine ⟨by rw [HV.out.1, ← HE1.out]; rfl, ((Ext.refl _ _).drewN _).set1 _, ?_⟩
  rw [HV.out.2]
  exact ⟨(HB.out.extN ((Ext.refl _ _).drewN _)).set (j := 0) (.string (sB (l.drop (2 + n)))), by show (l.drop (2 + n)).length ≤ _; rw [List.length_drop]; have : l.length ≤ 4611686018427387904 := HSM.out; omega⟩
theorem rd_End (b : Nat) (r : Rd) (w : World) (h : RdW w b r) : Calls Tryz.prog 40 #[.pointer (some ⟨b, 0, none⟩)] w fun e w' => e = .returned (.int .i64 (endE r)) ∧ w = w' := by
 obtain ⟨l, bad⟩ := r
 have q0 : w.cell? ⟨b, 0, none⟩ = some (.string (sB l)) := h.box.cell rfl
 have q1 : w.cell? ⟨b, 1, none⟩ = some (.bool bad) := h.box.cell rfl
 have hsm : (sB l).size ≤ 4611686018427387904 := by rw [sB_size]; exact h.small
 clear h
 cases bad
 ·by_cases hl : l = []
  ·have HV : Hid (endE ⟨l, false⟩ = 0) := hI_ (by unfold endE; simp [hl])
   have hz : (sB l).size = 0 := by rw [sB_size, hl]; rfl
   have dd : decide (0 < (sB l).size) = false := decide_eq_false (by omega)
   clear hz hl
   generalize sB l = s at *
   go_enter Tryz.func40, Tryz.ntmps40
   go_wp2
   go_returns
   exact ⟨by rw [HV.out]; rfl, rfl⟩
  ·have HV : Hid (endE ⟨l, false⟩ = 5) := hI_ (by unfold endE; simp [hl])
   have dd : decide (0 < (sB l).size) = true := decide_eq_true (by rw [sB_size]; exact List.length_pos_iff.2 hl)
   clear hl
   generalize sB l = s at *
   go_enter Tryz.func40, Tryz.ntmps40
   go_wp2
   go_returns
   exact ⟨by rw [HV.out]; rfl, rfl⟩
 ·have HV : Hid (endE ⟨l, true⟩ = 2) := hI_ rfl
  go_enter Tryz.func40, Tryz.ntmps40
  go_wp2
  go_returns
  exact ⟨by rw [HV.out]; rfl, rfl⟩
end Go.Proofs.YtfefeepljbfcdaaGreat

/- Layers 7, 11: the texts of configurations and of results. -/
namespace Go.Proofs.YtfefeepljbfcdaaGreat
open Go.RowKit Go.Lib F64
set_option linter.unusedSimpArgs false
set_option linter.unusedVariables false
attribute [local go_sem] run_store_float
attribute [local go_sem low] EW.cellN EW.frozN alloc_cell_or alloc_froz_or EW.cellF EW.frozF EW.cell1 EW.froz1
theorem wrote_ew {w0 w' : World} {z : EW Non w0} {n0 b : Nat} {W' : Wr} (h : Wrote z.on w' n0 b W') (h0 : w0.heap.size ≤ n0) : ∃ y : EW Non w0, w' = y.on ∧ PW y.on n0 b W' ∧ z.on.heap.size ≤ y.on.heap.size :=
 ⟨⟨w', Wrote.new h z.ext h0 h.p.nb⟩, rfl, h.p, h.x.size⟩
def confW (ep : Int) (xs : List Int) : Wr := xs.foldl byteW (byteW (wordW (byteW (newW (4 + xs.length)) 67) ep) xs.length)
def confS (ep : Int) (xs : List Int) : ByteArray := if confB ep xs = true then doneS (confW ep xs) else ⟨#[]⟩
def confE (ep : Int) (xs : List Int) : Int := if confB ep xs = true then (confW ep xs).err else 1
theorem fold_take {α β : Type} (f : β → α → β) (s : β) (l : List α) (i : Nat) (h : i < l.length) : (l.take (i + 1)).foldl f s = f ((l.take i).foldl f s) l[i] := by
 rw [List.take_succ_eq_append_getElem h, List.foldl_append]; rfl
set_option maxHeartbeats 2000000 in
set_option maxRecDepth 100000 in
theorem council_Text (ep : Int) (hep : I64 ep) (a : Option Addr) (cap : Nat) (xs : List Int) (w : World) (h : Ints w a cap xs) : Calls Tryz.prog 44 #[.agg #[.int .i64 ep, .slice a xs.length cap]] w fun e w' =>
  e = .returned (.tuple #[.string (confS ep xs), .int .i64 (confE ep xs)]) ∧ Ext Non w w' := by
 have HI := hI_ h
 clear h
 go_enter Tryz.func44, Tryz.ntmps44
 go_wp2_with fail
 refine Calls.ew (council_Right ep a cap xs _ (HI.out.extN (exG0))) ?_
 rintro e x1 rfl
 cases hc : confB ep xs
 ·have E1 : Hid (confS ep xs = ⟨#[]⟩ ∧ confE ep xs = 1) := hI_ ⟨by unfold confS; rw [hc]; rfl, by unfold confE; rw [hc]; rfl⟩
  clear hc
  go_wp2
  go_returns
  exact ⟨by rw [E1.out.1, E1.out.2]; rfl, exG0⟩
 ·have hm : membersB xs = true := by unfold confB at hc; simp only [Bool.and_eq_true] at hc; exact hc.2
  obtain ⟨-, -, hl1, hl2⟩ := members_facts hm
  have E1 : Hid (confS ep xs = doneS (confW ep xs) ∧ confE ep xs = (confW ep xs).err) := hI_ ⟨by unfold confS; rw [hc]; rfl, by unfold confE; rw [hc]; rfl⟩
  have HW : Hid (confW ep xs = xs.foldl byteW (byteW (wordW (byteW (newW ((4 + xs.length : Nat) : Int)) 67) ep) xs.length)) := hI_ (by unfold confW; congr 5)
  clear hc hm
  have hw : IntKind.i64.wrap (4 + (xs.length : Int)) = ((4 + xs.length : Nat) : Int) := (IntWalk.i64_in _ (by omega)).trans (by omega)
  have HL := hI_ (Nat.le_refl x1.on.heap.size)
  go_wp2_with fail
  refine (pack_New ((4 + xs.length : Nat) : Int) (by omega) x1.on.heap.size x1.on HL.out).mono ?_
  rintro e _ ⟨b, rfl, hx, hP, hb⟩
  obtain ⟨z0, rfl⟩ := hx.ew
  have P0 := hI_ hP
  clear hP hx hb
  go_wp2_with fail
  refine (pack_Byte x1.on.heap.size b _ 67 (by unfold I64; omega) _ P0.out z0.ext.size).mono ?_
  rintro e _ ⟨rfl, hw1⟩
  obtain ⟨z1, rfl, hP, hs1⟩ := wrote_ew hw1 HL.out
  have P1 := hI_ hP
  clear hP hw1 P0
  go_wp2_with fail
  refine (pack_Word x1.on.heap.size b _ ep hep _ P1.out z1.ext.size).mono ?_
  rintro e _ ⟨rfl, hw1⟩
  obtain ⟨z2, rfl, hP, hs2⟩ := wrote_ew hw1 HL.out
  have P2 := hI_ hP
  clear hP hw1 P1
  go_wp2_with fail
  refine (pack_Byte x1.on.heap.size b _ (xs.length : Int) (by unfold I64; omega) _ P2.out z2.ext.size).mono ?_
  rintro e _ ⟨rfl, hw1⟩
  obtain ⟨z3, rfl, hP, hs3⟩ := wrote_ew hw1 HL.out
  obtain ⟨W0, hW0⟩ : ∃ W0, W0 = byteW (wordW (byteW (newW ((4 + xs.length : Nat) : Int)) 67) ep) xs.length := ⟨_, rfl⟩
  rw [← hW0] at hP HW
  have P3 : Hid (PW z3.on x1.on.heap.size b ((xs.take 0).foldl byteW W0)) := hI_ hP
  clear hP hw1 P2 hW0 hs1 hs2 hs3 hw
  go_wp2_with fail
  go_loopg [29] xs.length (fun n iv wr => ∃ (i : Nat) (z : EW Non x1.on), i ≤ xs.length ∧ n = xs.length - i ∧ iv = .int .i64 i ∧ wr = z.on ∧ Hid (PW wr x1.on.heap.size b ((xs.take i).foldl byteW W0)))
  case atStart => exact ⟨0, ⟨_, exG0⟩, Nat.zero_le _, rfl, rfl, rfl, P3⟩
  case round =>
   clear P3
   obtain ⟨i, z, hi, hn, rfl, rfl, HP⟩ := hrel
   have HN := hI_ hn; clear hn
   by_cases hlt : i < xs.length
   ·obtain ⟨ab, ao, rfl, hcell, hx64⟩ := (HI.out.extN (exG0 : Ext Non w x1.on)).at_ i hlt
    have HT := hI_ (fold_take byteW W0 xs i hlt)
    have HX := hI_ hx64
    clear hx64
    generalize xs[i] = x at *
    go_wp2_with fail
    refine (pack_Byte x1.on.heap.size b _ x HX.out _ HP.out z.ext.size).mono ?_
    rintro e _ ⟨rfl, hw1⟩
    obtain ⟨z4, rfl, hP, hs1⟩ := wrote_ew hw1 HL.out
    rw [← HT.out] at hP
    have P4 := hI_ hP
    clear hP hw1 hs1
    go_wp2_with fail
    go_roundg (xs.length - (i + 1))
    case measure => have := HN.out; omega
    case rel => exact ⟨i + 1, ⟨_, exG0⟩, hlt, rfl, by go_num, rfl, P4⟩
   ·obtain rfl : i = xs.length := by omega
    have hp := HP.out
    rw [List.take_length, ← HW.out] at hp
    have P5 := hI_ hp
    clear hp
    go_wp2_with fail
    refine Calls.ew (pack_Done x1.on.heap.size b _ _ P5.out) ?_
    rintro e x2 rfl
    go_wp2
    go_returns
    exact ⟨by rw [E1.out.1, E1.out.2]; rfl, exG0⟩
def resW (cd : Int) (x : Nat) : Wr := bitsW (byteW (newW 64) cd) (canonN x)
def resS (cd : Int) (x : Nat) : ByteArray := if withinB cd 0 8 = true then doneS (resW cd x) else ⟨#[]⟩
def resE (cd : Int) (x : Nat) : Int := if withinB cd 0 8 = true then (resW cd x).err else 1
set_option maxHeartbeats 2000000 in
set_option maxRecDepth 100000 in
theorem deeds_ResultText (cd : Int) (hcd : I64 cd) (x : Nat) (hx : x < 18446744073709551616) (w : World) : Calls Tryz.prog 51 #[.agg #[.int .i64 cd, .float .f64 x]] w fun e w' =>
  e = .returned (.tuple #[.string (resS cd x), .int .i64 (resE cd x)]) ∧ Ext Non w w' := by
 go_enter Tryz.func51, Tryz.ntmps51
 go_wp2_with fail
 refine (deeds_within cd 0 8 _).mono ?_
 rintro e _ ⟨rfl, rfl⟩
 cases hc : withinB cd 0 8
 ·have E1 : Hid (resS cd x = ⟨#[]⟩ ∧ resE cd x = 1) := hI_ ⟨by unfold resS; rw [hc]; rfl, by unfold resE; rw [hc]; rfl⟩
  clear hc
  go_wp2
  go_returns
  exact ⟨by rw [E1.out.1, E1.out.2]; rfl, exG0⟩
 ·have E1 : Hid (resS cd x = doneS (resW cd x) ∧ resE cd x = (resW cd x).err) := hI_ ⟨by unfold resS; rw [hc]; rfl, by unfold resE; rw [hc]; rfl⟩
  clear hc
  have hcan : canonN x < 18446744073709551616 := canon_lt hx
  have B := hI_ (Bx.newAt w [.int .i64 cd, .float .f64 x] 48 _ rfl)
  have XA : Ext Non w (w.alloc (.cells [Value.int .i64 cd, .float .f64 x].toArray 48)) := (Ext.refl _ _).alloc _
  go_upto_region 3 with fail
  generalize w.alloc (.cells #[Value.int .i64 cd, .float .f64 x] 48) = wA at *
  have c0 : wA.cell? ⟨w.heap.size, 0, none⟩ = some (.int .i64 cd) := B.out.cell rfl
  have c1 : wA.cell? ⟨w.heap.size, 1, none⟩ = some (.float .f64 x) := B.out.cell rfl
  have HL := hI_ (Nat.le_refl wA.heap.size)
  have XB := hI_ XA
  clear XA
  go_wp2_with fail
  refine (pack_New 64 (by decide) wA.heap.size wA HL.out).mono ?_
  rintro e _ ⟨b, rfl, hx1, hP, hb⟩
  obtain ⟨z0, rfl⟩ := hx1.ew
  have P0 := hI_ hP
  clear hP hx1 hb
  go_wp2_with fail
  refine (pack_Byte wA.heap.size b _ cd hcd _ P0.out z0.ext.size).mono ?_
  rintro e _ ⟨rfl, hw1⟩
  obtain ⟨z1, rfl, hP, hs1⟩ := wrote_ew hw1 HL.out
  have P1 := hI_ hP
  clear hP hw1 P0 hs1
  go_wp2_with fail
  refine (reals_Bits x _).mono ?_
  rintro e _ ⟨rfl, rfl⟩
  go_wp2_with fail
  refine (pack_Bits wA.heap.size b _ (canonN x) hcan _ P1.out z1.ext.size).mono ?_
  rintro e _ ⟨rfl, hw1⟩
  obtain ⟨z2, rfl, hP, hs2⟩ := wrote_ew hw1 HL.out
  have P2 : Hid (PW z2.on wA.heap.size b (resW cd x)) := hI_ hP
  clear hP hw1 P1 hs2
  go_wp2_with fail
  refine Calls.ew (pack_Done wA.heap.size b _ _ P2.out) ?_
  rintro e x2 rfl
  have XC := XB.out
  go_wp2
  go_returns
  exact ⟨by rw [E1.out.1, E1.out.2]; rfl, XC.trans (z2.ext.trans x2.ext)⟩
end Go.Proofs.YtfefeepljbfcdaaGreat
