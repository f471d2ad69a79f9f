/- Joined texts: Council, Reals, Deeds. What each proves stands at its head; no conditions beside those in its theorems. -/
import Derived.Test.YtfefeepljbfcdaaGreatProg
import Derived.Test.YtfefeepljbfcdaaGreatPjAA
import Derived.Test.YtfefeepljbfcdaaGreatPjAC
/- Contracts of layer 7 (council): which configurations are right; coming and going. -/
namespace Go.Proofs.YtfefeepljbfcdaaGreat
open Go.RowKit
set_option linter.unusedSimpArgs false
set_option linter.unusedVariables false
structure Ints (w : World) (a : Option Addr) (cap : Nat) (xs : List Int) : Prop where
 le : xs.length ≤ cap
 small : cap ≤ 9223372036854775807
 nil : a = none → cap = 0
 at_ : ∀ j (h : j < xs.length), ∃ b o, a = some ⟨b, o, none⟩ ∧ w.cell? ⟨b, o + j, none⟩ = some (.int .i64 xs[j]) ∧ I64 xs[j]
theorem Ints.ext {S : Nat → Prop} {w w' : World} {a : Option Addr} {cap : Nat} {xs : List Int} (h : Ints w a cap xs) (x : Ext S w w') (hs : ∀ b o, a = some ⟨b, o, none⟩ → ¬ S b) : Ints w' a cap xs :=
 ⟨h.le, h.small, h.nil, fun j hj => by
  obtain ⟨b, o, e, c, i⟩ := h.at_ j hj
  exact ⟨b, o, e, (x.cell (lt_of_cell c) (hs b o e)).trans c, i⟩⟩
theorem Ints.extN {w w' : World} {a : Option Addr} {cap : Nat} {xs : List Int} (h : Ints w a cap xs) (x : Ext Non w w') : Ints w' a cap xs := h.ext x fun _ _ _ f => f
theorem Ints.nil' (w : World) : Ints w none 0 [] := ⟨by decide, by decide, fun _ => rfl, fun j h => absurd h (Nat.not_lt_zero _)⟩
theorem Ints.drewN {w : World} {a : Option Addr} {cap : Nat} {xs : List Int} (h : Ints w a cap xs) (n : Nat) : Ints (w.drewN n) a cap xs := ⟨h.le, h.small, h.nil, h.at_⟩
theorem council_rising (a : Option Addr) (cap : Nat) (xs : List Int) (w : World) (h : Ints w a cap xs) : Calls Tryz.prog 56 #[.slice a xs.length cap] w fun e w' => e = .returned (.bool (membersB xs)) ∧ w = w' := by
 have hm := h.small
 have hm2 := h.le
 have HH := hI_ h; clear h
 go_enter Tryz.func56, Tryz.ntmps56
 go_wp2
 go_loop [3, 8] (fun lv iv => ∃ (i : Nat) (last : Int), i ≤ xs.length ∧ iv = .int .i64 i ∧ lv = .int .i64 last ∧ risingB (-1) xs = risingB last (xs.drop i)) (fun _ iv => xs.length - (intOf iv).toNat)
 case atStart => exact ⟨0, -1, Nat.zero_le _, rfl, rfl, rfl⟩
 case round =>
  obtain ⟨i, last, hi, rfl, rfl, hR⟩ := hrel
  have HR := hI_ hR; clear hR
  by_cases hlt : i < xs.length
  ·obtain ⟨b, o, rfl, hc, hx⟩ := HH.out.at_ i hlt
   have hd := risingB_drop xs last i hlt
   generalize hxi : xs[i] = x at *
   have HD := hI_ hd; clear hd
   have HX := hI_ hxi; clear hxi
   by_cases h1 : last < x
   ·by_cases h2 : x < 16
    ·have e : risingB (-1) xs = risingB x (xs.drop (i + 1)) := by rw [HR.out, HD.out]; simp [h1, h2]
     have E := hI_ e; clear e
     go_wp2
     go_round
     case rel => exact ⟨i + 1, _, hlt, by go_num, rfl, E.out⟩
     case measure => simp [intOf]; omega
    ·have e : membersB xs = false := by unfold membersB; rw [HR.out, HD.out]; simp [h2]
     have E := hI_ e; clear e
     go_wp2
     go_ret
     exact ⟨ret_bool E.out.symm, rfl⟩
   ·have e : membersB xs = false := by unfold membersB; rw [HR.out, HD.out]; simp [h1]
    have E := hI_ e; clear e
    go_wp2
    go_ret
    exact ⟨ret_bool E.out.symm, rfl⟩
  ·have e : membersB xs = (decide (4 ≤ xs.length) && decide (xs.length ≤ 10)) := by
    unfold membersB; rw [HR.out, List.drop_eq_nil_of_le (by omega)]; simp [risingB]
   have E := hI_ e; clear e
   by_cases h4 : 4 ≤ xs.length
   ·go_wp2
    go_ret
    exact ⟨ret_bool (by rw [E.out, Bool.eq_iff_iff]; simp; omega), rfl⟩
   ·go_wp2
    go_ret
    exact ⟨ret_bool (by rw [E.out, Bool.eq_iff_iff]; simp; omega), rfl⟩
theorem council_fits (a : Option Addr) (cap : Nat) (xs : List Int) (id : Int) (w : World) (h : Ints w a cap xs) : Calls Tryz.prog 114 #[.slice a xs.length cap, .int .i64 id] w fun e w' => e = .returned (.bool (membersB xs && decide (0 ≤ id) && decide (id < 16))) ∧ w = w' := by
 have HH := hI_ h; clear h
 cases hm : membersB xs
 ·go_enter Tryz.func114, Tryz.ntmps114
  go_wp2_with (go_at_call 56; refine (council_rising _ _ _ _ HH.out).mono ?_; rintro e w' ⟨rfl, rfl⟩)
  go_ret
  exact ⟨ret_bool rfl, rfl⟩
 ·by_cases h0 : 0 ≤ id
  ·go_enter Tryz.func114, Tryz.ntmps114
   go_wp2_with (go_at_call 56; refine (council_rising _ _ _ _ HH.out).mono ?_; rintro e w' ⟨rfl, rfl⟩)
   go_ret
   exact ⟨ret_bool (by simp [h0]), rfl⟩
  ·go_enter Tryz.func114, Tryz.ntmps114
   go_wp2_with (go_at_call 56; refine (council_rising _ _ _ _ HH.out).mono ?_; rintro e w' ⟨rfl, rfl⟩)
   go_ret
   exact ⟨ret_bool (by rw [decide_eq_false (by omega : ¬ 0 ≤ id)]; rfl), rfl⟩
theorem council_Right (ep : Int) (a : Option Addr) (cap : Nat) (xs : List Int) (w : World) (h : Ints w a cap xs) : Calls Tryz.prog 16 #[.agg #[.int .i64 ep, .slice a xs.length cap]] w fun e w' => e = .returned (.bool (confB ep xs)) ∧ Ext Non w w' := by
 have HE : Hid (confB ep xs = (decide (0 ≤ ep) && decide (ep ≤ 60) && membersB xs)) := hI_ rfl
 have HH : Hid (Ints (w.alloc (.cells #[.int .i64 ep, .slice a xs.length cap] 24)) a cap xs) := hI_ (h.extN ((Ext.refl _ _).alloc _))
 clear h
 by_cases h0 : 0 ≤ ep
 ·by_cases h1 : ep ≤ 60
  ·go_enter Tryz.func16, Tryz.ntmps16
   go_wp2_with (go_at_call 56; refine (council_rising _ _ _ _ HH.out).mono ?_; rintro e w' ⟨rfl, rfl⟩)
   go_ret
   exact ⟨ret_bool (by rw [HE.out, decide_eq_true h0, decide_eq_true h1]; rfl), (Ext.refl _ _).alloc _⟩
  ·go_enter Tryz.func16, Tryz.ntmps16
   go_wp2
   go_ret
   exact ⟨ret_bool (by rw [HE.out, decide_eq_false (by omega : ¬ ep ≤ 60)]; simp), (Ext.refl _ _).alloc _⟩
 ·go_enter Tryz.func16, Tryz.ntmps16
  go_wp2
  go_ret
  exact ⟨ret_bool (by rw [HE.out, decide_eq_false (by omega : ¬ 0 ≤ ep)]; simp), (Ext.refl _ _).alloc _⟩
def intT (w : World) (a : Option Addr) : Prop := ∀ k o, a = some ⟨k, o, none⟩ → ∃ vs fr, w.heap[k]? = some (.cells vs 3 fr)
def fresh (n : Nat) (w : World) (a : Option Addr) : Prop := ∀ k o, a = some ⟨k, o, none⟩ → n ≤ k ∧ ∃ vs fr, w.heap[k]? = some (.cells vs 3 fr)
theorem fresh.typed {n : Nat} {w : World} {a : Option Addr} (h : fresh n w a) : intT w a := fun k o e => (h k o e).2
theorem intT.lt {w : World} {a : Option Addr} (h : intT w a) {k o : Nat} (e : a = some ⟨k, o, none⟩) : k < w.heap.size := by
 obtain ⟨_, _, h⟩ := h k o e
 exact (Array.getElem?_eq_some_iff.1 h).1
def NoInts (S : Nat → Prop) (w : World) : Prop := ∀ k, S k → ∀ vs fr, w.heap[k]? ≠ some (.cells vs 3 fr)
theorem intT.ext {S : Nat → Prop} {w w' : World} {a : Option Addr} (h : intT w a) (x : Ext S w w') (hs : NoInts S w) : intT w' a := fun k o e => by
 obtain ⟨vs, fr, hh⟩ := h k o e
 exact ⟨vs, fr, (x.block k (h.lt e) (fun s => hs k s vs fr hh)).trans hh⟩
theorem NoInts.non (w : World) : NoInts Non w := fun _ h => h.elim
theorem Ints.extT {S : Nat → Prop} {w w' : World} {a : Option Addr} {cap : Nat} {xs : List Int} (h : Ints w a cap xs) (t : intT w a) (x : Ext S w w') (hs : NoInts S w) : Ints w' a cap xs :=
 h.ext x fun k o e s => by obtain ⟨vs, fr, hh⟩ := t k o e; exact hs k s vs fr hh
theorem Ints.ofOwn {w : World} {base : Nat} {v : Value} {xs : List Int} (h : w.ownsRow base 3 1 v xs.length (xs.map (Value.int .i64))) (hi : ∀ x ∈ xs, I64 x) :
  ∃ a cap, v = .slice a xs.length cap ∧ Ints w a cap xs ∧ fresh base w a := by
 rcases h.2 with ⟨rfl, h0⟩ | ⟨g, cap, cur, rfl, hb, hg, hl, hm, hs, ht⟩
 ·have : xs = [] := List.eq_nil_of_length_eq_zero h0
  subst this
  exact ⟨none, 0, rfl, Ints.nil' w, fun _ _ e => by cases e⟩
 ·refine ⟨some ⟨g, 0, none⟩, cap, rfl, ⟨hl, hm, fun e => (by cases e), fun j hj => ⟨g, 0, rfl, ?_, hi _ (List.getElem_mem hj)⟩⟩, fun b o e => by cases e; exact ⟨hb, _, _, hg⟩⟩
  have := h.cells (g := g) rfl j (.int .i64 xs[j]) (by simp [hj])
  rw [addr_add] at this
  exact this
theorem info_int : (Tryz.prog.info? 3).map (fun i => (i.zero, i.size, i.bytes)) = some (some (.int .i64 0), 1, 8) := by kernel_rfl
set_option maxRecDepth 100000 in
theorem slices_Clone (a : Option Addr) (cap : Nat) (xs : List Int) (hb : xs.length * 8 ≤ 140737488355328) (w : World) (h : Ints w a cap xs) : Calls Tryz.prog 17 #[.slice a xs.length cap] w fun e w' =>
  ∃ a' cap', e = .returned (.slice a' xs.length cap') ∧ Ext Non w w' ∧ Ints w' a' cap' xs ∧ fresh w.heap.size w' a' := by
 have HH := hI_ h
 have HB := hI_ hb; clear hb
 have q : ∀ (w : World) (a : Option Addr) (n c n' c' : Nat), (binOp .eql 22 (.slice a n c) (.slice none n' c')).run Tryz.prog w = .ok (.bool a.isNone) w := fun w a n c n' c' => Go.Lib.run_eql_slice_nil w _ _ a n c n' c' Tryz.underlying22
 cases a with
 | none =>
  have hc := h.nil rfl
  have hx : xs = [] := List.eq_nil_of_length_eq_zero (by have := h.le; omega)
  subst hc; subst hx
  clear h
  go_enter Tryz.func17, Tryz.ntmps17
  go_wp2
  go_returns
  exact ⟨none, 0, rfl, Ext.refl _ _, HH.out, fun _ _ e => by cases e⟩
 | some x =>
  have hsm : xs.length ≤ 9223372036854775807 := by have := h.le; have := h.small; omega
  clear h
  obtain ⟨i0, hi, hz0, hz1, hz2⟩ := info_parts info_int
  go_enter Tryz.func17, Tryz.ntmps17
  go_wp2_with (at_builtin; refine wpList_append_own _ rfl _ _ 22 rfl w.heap.size 3 i0 (.int .i64 0) 1 8 Tryz.underlying22 hi hz0 hz1 hz2 rfl (by decide) _ _ _ rfl (World.ownsRow_made w #[] 0 (Nat.le_refl _) (Nat.zero_le _) rfl) x xs.length cap (xs.map (Value.int .i64)) rfl ?qc1 ?qc2 ?qc3 ?qc4 ?qc5 ?qc6 ?_)
  case qc1 => simp
  case qc2 =>
   intro j u hj
   have hjn : j < xs.length := by have := (List.getElem?_eq_some_iff.1 hj).1; simpa using this
   obtain ⟨b, o, e, hc, _⟩ := HH.out.at_ j hjn
   cases e
   rw [addr_add]
   have hu : u = .int .i64 xs[j] := by simpa [hjn] using hj.symm
   rw [hu]
   exact (((Ext.refl Non w).alloc _).cell (lt_of_cell hc) id).trans hc
  case qc3 => intro u hu; obtain ⟨x, _, rfl⟩ := List.mem_map.1 hu; rfl
  case qc4 => unfold maxLen; omega
  case qc5 => have := HB.out; omega
  case qc6 => simp
  intro v' w1 hown hgrow hnil
  have hown : w1.ownsRow w.heap.size 3 1 v' xs.length (xs.map (Value.int .i64)) := by simpa using hown
  obtain ⟨a', cap', rfl, hI, hf⟩ := Ints.ofOwn hown (fun x hx => by obtain ⟨j, hj, rfl⟩ := List.getElem_of_mem hx; obtain ⟨_, _, _, _, i⟩ := HH.out.at_ j hj; exact i)
  go_wp2
  go_returns
  refine ⟨a', cap', rfl, ?_, hI, hf⟩
  exact ((Ext.refl Non w).alloc _).step (Ext.ofGrown (S := fun k => k = w.heap.size) hgrow (fun k hk => .inl (by simp [Value.ownBlock] at hk; omega))) (fun i hi hS => by omega)
set_option maxHeartbeats 1000000 in
theorem slices_BinarySearch (a : Option Addr) (cap : Nat) (xs : List Int) (t : Int) (p : xs.Pairwise (· < ·)) (hb : xs.length ≤ 4611686018427387903) (w : World) (h : Ints w a cap xs) : Calls Tryz.prog 115 #[.slice a xs.length cap, .int .i64 t] w fun e w' =>
  e = .returned (.tuple #[.int .i64 (placeI xs t), .bool (hasB xs t)]) ∧ w = w' := by
 have HH := hI_ h; clear h
 have HP := hI_ p; clear p
 go_enter Tryz.func115, Tryz.ntmps115
 go_wp2
 go_loop [7, 8] (fun iv jv => ∃ (i j : Nat), i ≤ j ∧ j ≤ xs.length ∧ iv = .int .i64 i ∧ jv = .int .i64 j ∧ (∀ k (h : k < xs.length), k < i → xs[k] < t) ∧ (∀ k (h : k < xs.length), j ≤ k → t ≤ xs[k])) (fun iv jv => (intOf jv).toNat - (intOf iv).toNat)
 case atStart => exact ⟨0, xs.length, Nat.zero_le _, Nat.le_refl _, rfl, rfl, fun k _ h => absurd h (Nat.not_lt_zero _), fun k h h' => absurd h (by omega)⟩
 case round =>
  obtain ⟨i, j, hij, hj, rfl, rfl, hlo, hhi⟩ := hrel
  have HLO := hI_ hlo; have HHI := hI_ hhi; clear hlo hhi
  by_cases hlt : i < j
  ·have hm : (i + j) / 2 < xs.length := by omega
   obtain ⟨b, o, rfl, hc, hx⟩ := HH.out.at_ _ hm
   obtain ⟨x, hxe⟩ : ∃ x, x = xs[(i + j) / 2] := ⟨_, rfl⟩
   rw [← hxe] at hc
   have HX := hI_ hxe; clear hxe hx
   have HPs := HP.out
   have lo : x < t → ∀ k (h : k < xs.length), k < (i + j) / 2 + 1 → xs[k] < t := by
    intro hx k hk hlt'
    rcases Nat.lt_or_eq_of_le (Nat.lt_succ_iff.1 hlt') with h | h
    ·have := List.pairwise_iff_getElem.1 HPs k ((i + j) / 2) hk hm h
     rw [← HX.out] at this; omega
    ·subst h; rw [← HX.out]; exact hx
   have hi : ¬ x < t → ∀ k (h : k < xs.length), (i + j) / 2 ≤ k → t ≤ xs[k] := by
    intro hx k hk hle
    rcases Nat.lt_or_eq_of_le hle with h | h
    ·have := List.pairwise_iff_getElem.1 HPs ((i + j) / 2) k hm hk h
     rw [← HX.out] at this; omega
    ·subst h; rw [← HX.out]; omega
   have LO := hI_ lo; have HI := hI_ hi; clear lo hi HPs
   by_cases hxt : x < t
   ·have HT := hI_ hxt
    go_wp2
    go_round
    case rel => exact ⟨(i + j) / 2 + 1, j, by omega, hj, by go_num, rfl, LO.out HT.out, HHI.out⟩
    case measure => simp [intOf]; omega
   ·have HT := hI_ hxt
    go_wp2
    go_round
    case rel => exact ⟨i, (i + j) / 2, by omega, by omega, rfl, by go_num, HLO.out, HI.out HT.out⟩
    case measure => simp [intOf]; omega
  ·obtain rfl : i = j := by omega
   have hp := place_of hj HLO.out HHI.out
   have hc := place_contains HP.out HLO.out HHI.out
   have HPl := hI_ hp; have HC := hI_ hc; clear hp hc
   by_cases hl : i < xs.length
   ·obtain ⟨b, o, rfl, hcell, _⟩ := HH.out.at_ i hl
    obtain ⟨x, hxe⟩ : ∃ x, x = xs[i] := ⟨_, rfl⟩
    rw [← hxe] at hcell
    have HX := hI_ hxe; clear hxe
    by_cases hxt : x = t
    ·have HT := hI_ hxt
     have e1 : (x == t) = true := by rw [beq_iff_eq]; exact hxt
     clear hxt
     have E : Hid (hasB xs t = true) := hI_ (HC.out.2 ⟨hl, HX.out ▸ HT.out⟩)
     go_wp2
     go_ret2
     exact ⟨by rw [HPl.out, E.out]; rfl, rfl⟩
    ·have HT := hI_ hxt
     have e1 : (x == t) = false := by rw [beq_eq_false_iff_ne]; exact hxt
     clear hxt
     have E : Hid (hasB xs t = false) := hI_ (by rw [Bool.eq_false_iff]; intro h; obtain ⟨_, e⟩ := HC.out.1 h; exact HT.out (HX.out.trans e))
     go_wp2
     go_ret2
     exact ⟨by rw [HPl.out, E.out]; rfl, rfl⟩
   ·have E : Hid (hasB xs t = false) := hI_ (by rw [Bool.eq_false_iff]; intro h; obtain ⟨h, _⟩ := HC.out.1 h; exact hl h)
    go_wp2
    go_ret2
    exact ⟨by rw [HPl.out, E.out]; rfl, rfl⟩
end Go.Proofs.YtfefeepljbfcdaaGreat

/- Contracts of layer 2 (reals), and of its reference. -/
namespace Go.Proofs.YtfefeepljbfcdaaGreat
open Go.RowKit F64
set_option linter.unusedSimpArgs false
set_option linter.unusedVariables false
@[go_sem] theorem run_frombits (n : Int) (w : World) : (callFunc 58 #[.int .u64 n]).run Tryz.prog w = .ok (.value (.float .f64 n.toNat)) w := by kernel_rfl
@[go_sem] theorem run_bits (n : Nat) (w : World) : (callFunc 70 #[.float .f64 n]).run Tryz.prog w = .ok (.value (.int .u64 n)) w := by kernel_rfl
@[go_sem] theorem sp_feq (a b : Nat) : (FloatKind.f64.format.order a b == some Ordering.eq) = feq a b := rfl
@[go_sem] theorem sp_fneq (a b : Nat) : (FloatKind.f64.format.order a b != some Ordering.eq) = !feq a b := rfl
@[go_sem] theorem sp_flt (a b : Nat) : (FloatKind.f64.format.order a b == some Ordering.lt) = flt a b := rfl
theorem reals_Canon (x : Nat) (w : World) : Calls Tryz.prog 87 #[.float .f64 x] w fun e w' => e = .returned (.float .f64 (canonN x)) ∧ w = w' := by
 have H := feq_self x
 cases hw : wild x
 ·have hc : canonN x = x := by simp [canonN, hw]
  rw [hc]
  rw [hw] at H; clear hw hc
  go_enter Tryz.func87, Tryz.ntmps87
  go_wp2
  go_ret
  exact ⟨rfl, rfl⟩
 ·have hc : canonN x = nanN := by simp [canonN, hw]
  rw [hc]
  rw [hw] at H; clear hw hc
  go_enter Tryz.func87, Tryz.ntmps87
  go_wp2
  go_ret
  exact ⟨rfl, rfl⟩
theorem reals_Bits (x : Nat) (w : World) : Calls Tryz.prog 50 #[.float .f64 x] w fun e w' => e = .returned (.int .u64 (canonN x)) ∧ w = w' := by
 go_enter Tryz.func50, Tryz.ntmps50
 go_wp2_with (go_at_call 87; refine (reals_Canon _ _).mono ?_; rintro e w' ⟨rfl, rfl⟩)
 go_ret
 exact ⟨rfl, rfl⟩
theorem reals_From (n : Nat) (w : World) : Calls Tryz.prog 77 #[.int .u64 n] w fun e w' => e = .returned (.tuple #[.float .f64 (fromN n), .bool (fromB n)]) ∧ w = w' := by
 have H := feq_self n
 cases hw : wild n
 ·have e1 : fromB n = true := by simp [fromB, hw]
  have e2 : fromN n = n := by simp [fromN, e1]
  rw [e1, e2]; rw [hw] at H; clear hw e1 e2
  go_enter Tryz.func77, Tryz.ntmps77
  go_wp2
  go_ret2
  exact ⟨rfl, rfl⟩
 ·by_cases h2 : n = nanN
  ·have e1 : fromB n = true := by simp [fromB, h2]
   have e2 : fromN n = n := by simp [fromN, e1]
   rw [e1, e2]; rw [hw] at H; clear hw e1 e2
   have h3 : ((n : Int) == 9221120237041090560) = true := by unfold nanN at h2; rw [beq_iff_eq]; omega
   have h4 : ((n : Int) != 9221120237041090560) = false := by unfold nanN at h2; rw [bne_eq_false_iff_eq]; omega
   clear h2
   go_enter Tryz.func77, Tryz.ntmps77
   go_wp2
   go_ret2
   exact ⟨rfl, rfl⟩
  ·have e1 : fromB n = false := by simp [fromB, hw, h2]
   have e2 : fromN n = 0 := by simp [fromN, e1]
   rw [e1, e2]; rw [hw] at H; clear hw e1 e2
   have h3 : ((n : Int) == 9221120237041090560) = false := by unfold nanN at h2; rw [beq_eq_false_iff_ne]; omega
   have h4 : ((n : Int) != 9221120237041090560) = true := by unfold nanN at h2; rw [bne_iff_ne]; omega
   clear h2
   go_enter Tryz.func77, Tryz.ntmps77
   go_wp2
   go_ret2
   exact ⟨rfl, rfl⟩
theorem math_Signbit (x : Nat) (hx : x < 18446744073709551616) (w : World) : Calls Tryz.prog 134 #[.float .f64 x] w fun e w' => e = .returned (.bool (negB x)) ∧ w = w' := by
 go_enter Tryz.func134, Tryz.ntmps134
 go_wp2
 go_ret
 exact ⟨ret_bool (by rw [negB_iff hx, Bool.eq_iff_iff]; unfold wrap64; simp; omega), rfl⟩
theorem reals_Less (x y : Nat) (hx : x < 18446744073709551616) (hy : y < 18446744073709551616) (w : World) : Calls Tryz.prog 116 #[.float .f64 x, .float .f64 y] w fun e w' => e = .returned (.bool (lessN x y)) ∧ w = w' := by
 have L := less_cases x y hx hy
 have H1 := feq_self x
 have H2 := feq_self y
 cases hw : wild x
 ·cases hv : wild y
  ·rw [hw, hv] at L; rw [hw] at H1; rw [hv] at H2; clear hw hv
   cases h3 : feq x y
   ·rw [h3] at L; simp only [Bool.false_eq_true, if_false] at L; rw [L]; clear L
    go_enter Tryz.func116, Tryz.ntmps116
    go_wp2
    go_ret
    exact ⟨rfl, rfl⟩
   ·rw [h3] at L; simp only [Bool.false_eq_true, if_false, if_true] at L; rw [L]; clear L
    cases hn : negB x
    all_goals
     go_enter Tryz.func116, Tryz.ntmps116
     go_wp2_with (go_at_call 134; refine (math_Signbit _ (by with_reducible first | exact hx | exact hy) _).mono ?_; rintro e w' ⟨rfl, rfl⟩)
     go_ret
     exact ⟨rfl, rfl⟩
  ·rw [hw, hv] at L; rw [hw] at H1; rw [hv] at H2; clear hw hv
   simp only [Bool.false_eq_true, if_false, if_true] at L; rw [L]; clear L
   go_enter Tryz.func116, Tryz.ntmps116
   go_wp2
   go_ret
   exact ⟨rfl, rfl⟩
 ·rw [hw] at L; rw [hw] at H1; clear hw H2
  simp only [if_true] at L; rw [L]; clear L
  go_enter Tryz.func116, Tryz.ntmps116
  go_wp2
  go_ret
  exact ⟨rfl, rfl⟩
theorem reals_Add (x y : Nat) (w : World) : Calls Tryz.prog 93 #[.float .f64 x, .float .f64 y] w fun e w' => e = .returned (.float .f64 (addN x y)) ∧ ∃ n, w' = w.drewN n := by
 cases h : Ieee.double.add x y with
 | some r =>
  have e1 : addN x y = canonN r := by unfold addN; rw [h]
  rw [e1]
  have hr : ∀ t (w : World), (binOp .add t (.float .f64 x) (.float .f64 y)).run Tryz.prog w = .ok (.float .f64 r) w := fun t w => run_float_arith w .add t .f64 x y r h
  clear h e1
  go_enter Tryz.func93, Tryz.ntmps93
  go_wp2_with (go_at_call 87; refine (reals_Canon _ _).mono ?_; rintro e w' ⟨rfl, rfl⟩)
  go_ret
  exact ⟨rfl, 0, rfl⟩
 | none =>
  rw [addN_none h]
  have hr : ∀ t (w : World), ∃ r, wild r = true ∧ (binOp .add t (.float .f64 x) (.float .f64 y)).run Tryz.prog w = .ok (.float .f64 r) w.drew := by
   intro t w
   refine ⟨Question.cut (.nanBits .f64 x y) (w.tape w.drawn (.nanBits .f64 x y)), ?_, ?_⟩
   ·exact cut_wild _
   ·have h' : Ieee.Format.add FloatKind.f64.format x y = none := h
    simp [binOp, Op.floatArith, h', Question.forced]
  obtain ⟨r, h1, h2⟩ := hr 46 w
  have e1 : canonN r = nanN := by simp [canonN, h1]
  clear hr h h1
  go_enter Tryz.func93, Tryz.ntmps93
  go_wp2_with (go_at_call 87; refine (reals_Canon _ _).mono ?_; rintro e w' ⟨rfl, rfl⟩)
  go_ret
  exact ⟨by rw [← e1]; rfl, 1, rfl⟩
theorem ref_Wild (n : Nat) (w : World) : Calls Tryz.prog 71 #[.int .u64 n] w fun e w' => e = .returned (.bool (wild n)) ∧ w = w' := by
 go_enter Tryz.func71, Tryz.ntmps71
 go_wp2
 all_goals
  go_ret
  exact ⟨ret_bool (by unfold wild; rw [Bool.eq_iff_iff]; simp; omega), rfl⟩
theorem ref_Bits (x : Nat) (w : World) : Calls Tryz.prog 31 #[.float .f64 x] w fun e w' => e = .returned (.int .u64 (canonN x)) ∧ w = w' := by
 unfold canonN
 cases hw : wild x
 all_goals
  go_enter Tryz.func31, Tryz.ntmps31
  go_wp2_with (go_at_call 71; refine (ref_Wild _ _).mono ?_; rintro e w' ⟨rfl, rfl⟩)
  go_ret
  exact ⟨rfl, rfl⟩
theorem ref_From (n : Nat) (w : World) : Calls Tryz.prog 80 #[.int .u64 n] w fun e w' => e = .returned (.tuple #[.float .f64 (fromN n), .bool (fromB n)]) ∧ w = w' := by
 cases hw : wild n
 ·have e1 : fromB n = true := by simp [fromB, hw]
  have e2 : fromN n = n := by simp [fromN, e1]
  rw [e1, e2]; clear e1 e2
  go_enter Tryz.func80, Tryz.ntmps80
  go_wp2_with (go_at_call 71; refine (ref_Wild _ _).mono ?_; rintro e w' ⟨rfl, rfl⟩)
  go_ret2
  exact ⟨rfl, rfl⟩
 ·by_cases h2 : n = nanN
  ·have e1 : fromB n = true := by simp [fromB, h2]
   have e2 : fromN n = n := by simp [fromN, e1]
   rw [e1, e2]; clear e1 e2
   have h3 : ((n : Int) == 9221120237041090560) = true := by unfold nanN at h2; rw [beq_iff_eq]; omega
   have h4 : ((n : Int) != 9221120237041090560) = false := by unfold nanN at h2; rw [bne_eq_false_iff_eq]; omega
   clear h2
   go_enter Tryz.func80, Tryz.ntmps80
   go_wp2_with (go_at_call 71; refine (ref_Wild _ _).mono ?_; rintro e w' ⟨rfl, rfl⟩)
   go_ret2
   exact ⟨rfl, rfl⟩
  ·have e1 : fromB n = false := by simp [fromB, hw, h2]
   have e2 : fromN n = 0 := by simp [fromN, e1]
   rw [e1, e2]; clear e1 e2
   have h3 : ((n : Int) == 9221120237041090560) = false := by unfold nanN at h2; rw [beq_eq_false_iff_ne]; omega
   have h4 : ((n : Int) != 9221120237041090560) = true := by unfold nanN at h2; rw [bne_iff_ne]; omega
   clear h2
   go_enter Tryz.func80, Tryz.ntmps80
   go_wp2_with (go_at_call 71; refine (ref_Wild _ _).mono ?_; rintro e w' ⟨rfl, rfl⟩)
   go_ret2
   exact ⟨rfl, rfl⟩
set_option maxRecDepth 100000 in
theorem ref_Place (n : Nat) (hn : n < 18446744073709551616) (w : World) : Calls Tryz.prog 119 #[.int .u64 n] w fun e w' => e = .returned (.int .u64 (placeN n)) ∧ w = w' := by
 cases hw : wild n
 ·by_cases h2 : 9223372036854775808 ≤ n
  ·have e1 : (placeN n : Int) = 9223372036854775807 - (n : Int) % 9223372036854775808 := by simp [placeN, hw, h2]; omega
   have t1 : decide ((9223372036854775808 : Int) ≤ (n : Int)) = true := by simp; omega
   have H := hI_ e1; clear e1 h2 hn
   go_enter Tryz.func119, Tryz.ntmps119
   go_wp2_with (go_at_call 71; refine (ref_Wild _ _).mono ?_; rintro e w' ⟨rfl, rfl⟩)
   go_ret
   exact ⟨ret_int (by rw [H.out]), rfl⟩
  ·have e1 : (placeN n : Int) = 9223372036854775808 + (n : Int) := by simp [placeN, hw, h2]
   have t1 : decide ((9223372036854775808 : Int) ≤ (n : Int)) = false := by simp; omega
   have H := hI_ e1; clear e1
   have Hn := hI_ h2; clear h2 hn
   go_enter Tryz.func119, Tryz.ntmps119
   go_wp2_with (go_at_call 71; refine (ref_Wild _ _).mono ?_; rintro e w' ⟨rfl, rfl⟩)
   go_ret
   exact ⟨ret_int (by rw [H.out]; have := Hn.out; simp only [IntKind.wrap_u64]; omega), rfl⟩
 ·have e1 : (placeN n : Int) = 18446744073709551615 := by simp [placeN, hw]
  rw [e1]; clear e1
  go_enter Tryz.func119, Tryz.ntmps119
  go_wp2_with (go_at_call 71; refine (ref_Wild _ _).mono ?_; rintro e w' ⟨rfl, rfl⟩)
  go_ret
  exact ⟨rfl, rfl⟩
theorem reals_Most (x y : Nat) (hx : x < 18446744073709551616) (hy : y < 18446744073709551616) (w : World) : Calls Tryz.prog 94 #[.float .f64 x, .float .f64 y] w fun e w' => e = .returned (.float .f64 (mostN x y)) ∧ w = w' := by
 cases h : lessN x y
 all_goals
  have e1 : mostN x y = if lessN x y = true then canonN y else canonN x := rfl
  rw [h] at e1
  simp only [Bool.false_eq_true, if_false, if_true] at e1
  rw [e1]; clear e1
  go_enter Tryz.func94, Tryz.ntmps94
  go_wp2_with (first | (go_at_call 116; refine (reals_Less _ _ hx hy _).mono ?_; rintro e w' ⟨rfl, rfl⟩) | (go_at_call 87; refine (reals_Canon _ _).mono ?_; rintro e w' ⟨rfl, rfl⟩))
  go_ret
  exact ⟨rfl, rfl⟩
theorem ref_Add (x y : Nat) (w : World) : Calls Tryz.prog 102 #[.float .f64 x, .float .f64 y] w fun e w' => e = .returned (.int .u64 (addN x y)) ∧ ∃ n, w' = w.drewN n := by
 cases h : Ieee.double.add x y with
 | some r =>
  have e1 : addN x y = canonN r := by unfold addN; rw [h]
  rw [e1]
  have hr : ∀ t (w : World), (binOp .add t (.float .f64 x) (.float .f64 y)).run Tryz.prog w = .ok (.float .f64 r) w := fun t w => run_float_arith w .add t .f64 x y r h
  clear h e1
  go_enter Tryz.func102, Tryz.ntmps102
  go_wp2_with (go_at_call 31; refine (ref_Bits _ _).mono ?_; rintro e w' ⟨rfl, rfl⟩)
  go_ret
  exact ⟨rfl, 0, rfl⟩
 | none =>
  rw [addN_none h]
  have hr : ∀ t (w : World), ∃ r, wild r = true ∧ (binOp .add t (.float .f64 x) (.float .f64 y)).run Tryz.prog w = .ok (.float .f64 r) w.drew := by
   intro t w
   refine ⟨Question.cut (.nanBits .f64 x y) (w.tape w.drawn (.nanBits .f64 x y)), ?_, ?_⟩
   ·exact cut_wild _
   ·have h' : Ieee.Format.add FloatKind.f64.format x y = none := h
    simp [binOp, Op.floatArith, h', Question.forced]
  obtain ⟨r, h1, h2⟩ := hr 46 w
  have e1 : canonN r = nanN := by simp [canonN, h1]
  clear hr h h1
  go_enter Tryz.func102, Tryz.ntmps102
  go_wp2_with (go_at_call 31; refine (ref_Bits _ _).mono ?_; rintro e w' ⟨rfl, rfl⟩)
  go_ret
  exact ⟨by rw [← e1]; rfl, 1, rfl⟩
theorem ref_Most (x y : Nat) (hx : x < 18446744073709551616) (hy : y < 18446744073709551616) (w : World) : Calls Tryz.prog 103 #[.float .f64 x, .float .f64 y] w fun e w' => e = .returned (.int .u64 (mostN x y)) ∧ w = w' := by
 have cx := canon_lt hx
 have cy := canon_lt hy
 have px := place_canon x
 have py := place_canon y
 have e1 : mostN x y = if lessN x y = true then canonN y else canonN x := rfl
 cases h : lessN x y
 all_goals
  rw [h] at e1
  simp only [Bool.false_eq_true, if_false, if_true] at e1
  rw [e1]; clear e1
  have t1 : decide (placeN x < placeN y) = lessN x y := rfl
  rw [h] at t1; clear h
  have C := hI_ cx; have D := hI_ cy; clear cx cy
  go_enter Tryz.func103, Tryz.ntmps103
  go_wp2_with (first | (go_at_call 31; refine (ref_Bits _ _).mono ?_; rintro e w' ⟨rfl, rfl⟩) | (go_at_call 119; refine (ref_Place _ (by with_reducible first | exact C.out | exact D.out) _).mono ?_; rintro e w' ⟨rfl, rfl⟩))
  go_ret
  exact ⟨rfl, rfl⟩
end Go.Proofs.YtfefeepljbfcdaaGreat

/- Contracts of layer 11 (deeds): which requests are right, and null. -/
namespace Go.Proofs.YtfefeepljbfcdaaGreat
open Go.RowKit F64
set_option linter.unusedSimpArgs false
set_option linter.unusedVariables false
theorem deeds_within (n lo hi : Int) (w : World) : Calls Tryz.prog 88 #[.int .i64 n, .int .i64 lo, .int .i64 hi] w fun e w' => e = .returned (.bool (withinB n lo hi)) ∧ w = w' := by
 go_enter Tryz.func88, Tryz.ntmps88
 go_wp2
 all_goals
  go_ret
  exact ⟨ret_bool (by unfold withinB; rw [Bool.eq_iff_iff]; simp; omega), rfl⟩
theorem deeds_right (k : Int) (key : ByteArray) (x : Nat) (id : Int) (w : World) : Calls Tryz.prog 89 #[.agg #[.int .i64 k, .string key, .float .f64 x, .int .i64 id]] w fun e w' => e = .returned (.bool (opB ⟨k, key, x, id⟩)) ∧ Ext Non w w' := by
 go_enter Tryz.func89, Tryz.ntmps89
 go_upto_region 1 with fail
 go_cut [3] (fun s wx => s = .bool (keyB ⟨k, key, x, id⟩) ∧ wx = w.alloc (.cells #[.int .i64 k, .string key, .float .f64 x, .int .i64 id] 52))
 case first =>
  go_wp2_with fail
  all_goals
   go_meet
   case rel => exact ⟨by congr 1; unfold keyB; rw [Bool.eq_iff_iff]; simp; omega, rfl⟩
 case rest =>
  obtain ⟨rfl, rfl⟩ := hcut
  have t1 : (((canonN x : Nat) : Int) == 0) = noneB x := by unfold noneB; rw [Bool.eq_iff_iff]; simp
  have Hn : Hid (noneB x = true ∨ noneB x = false) := hI_ (by cases noneB x <;> simp)
  by_cases h45 : k = 4 ∨ k = 5
  ·have HE : Hid (opB ⟨k, key, x, id⟩ = (noneB x && keyB ⟨k, key, x, id⟩)) := hI_ (by unfold opB; rw [if_pos h45])
   rcases Hn.out with hn | hn
   all_goals
    have HN := hI_ hn
    rw [hn] at t1; clear hn
    rcases h45 with h | h
    all_goals
     have HK := hI_ h
     have k4 : (k == 4) = decide (k = 4) := rfl
     subst h
     clear k4
     go_wp2_with (go_at_call 50; refine (reals_Bits _ _).mono ?_; rintro e w' ⟨rfl, rfl⟩)
     go_ret
     exact ⟨ret_bool (by rw [HE.out, HN.out]; simp), (Ext.refl _ _).alloc _⟩
  ·by_cases h123 : k = 1 ∨ k = 2 ∨ k = 3
   ·have HE : Hid (opB ⟨k, key, x, id⟩ = keyB ⟨k, key, x, id⟩) := hI_ (by unfold opB; rw [if_neg h45, if_pos h123])
    clear h45 Hn
    rcases h123 with h | h | h
    all_goals
     subst h
     go_wp2_with (go_at_call 50; refine (reals_Bits _ _).mono ?_; rintro e w' ⟨rfl, rfl⟩)
     go_ret
     exact ⟨ret_bool (by rw [HE.out]), (Ext.refl _ _).alloc _⟩
   ·by_cases h67 : k = 6 ∨ k = 7
    ·have HE : Hid (opB ⟨k, key, x, id⟩ = (decide (key.size = 0) && noneB x && decide (0 ≤ id) && decide (id < 16))) := hI_ (by unfold opB; rw [if_neg h45, if_neg h123, if_pos h67])
     clear h45 h123
     by_cases hk : key.toList = []
     ·have hs := (toList_nil key).1 hk
      rcases Hn.out with hn | hn
      ·by_cases h0 : 0 ≤ id
       ·by_cases h16 : id < 16
        ·have CL : Hid ((decide (key.size = 0) && noneB x && decide (0 ≤ id) && decide (id < 16)) = true) := hI_ (by simp [hs, hn, h0, h16])
         rw [hn] at t1; clear hs hn
         rcases h67 with h | h
         all_goals
          subst h
          go_wp2_with (go_at_call 50; refine (reals_Bits _ _).mono ?_; rintro e w' ⟨rfl, rfl⟩)
          go_ret
          exact ⟨ret_bool (by rw [HE.out, CL.out] <;> first | rfl | exact decide_eq_false (by omega) | exact decide_eq_true (by omega)), (Ext.refl _ _).alloc _⟩
        ·have CL : Hid ((decide (key.size = 0) && noneB x && decide (0 ≤ id) && decide (id < 16)) = false) := hI_ (by simp [h16])
         rw [hn] at t1; clear hs hn
         rcases h67 with h | h
         all_goals
          subst h
          go_wp2_with (go_at_call 50; refine (reals_Bits _ _).mono ?_; rintro e w' ⟨rfl, rfl⟩)
          go_ret
          exact ⟨ret_bool (by rw [HE.out, CL.out] <;> first | rfl | exact decide_eq_false (by omega) | exact decide_eq_true (by omega)), (Ext.refl _ _).alloc _⟩
       ·have CL : Hid ((decide (key.size = 0) && noneB x && decide (0 ≤ id) && decide (id < 16)) = false) := hI_ (by simp [h0])
        rw [hn] at t1; clear hs hn
        rcases h67 with h | h
        all_goals
         subst h
         go_wp2_with (go_at_call 50; refine (reals_Bits _ _).mono ?_; rintro e w' ⟨rfl, rfl⟩)
         go_ret
         exact ⟨ret_bool (by rw [HE.out, CL.out] <;> first | rfl | exact decide_eq_false (by omega) | exact decide_eq_true (by omega)), (Ext.refl _ _).alloc _⟩
      ·have CL : Hid ((decide (key.size = 0) && noneB x && decide (0 ≤ id) && decide (id < 16)) = false) := hI_ (by simp [hn])
       rw [hn] at t1; clear hs hn
       rcases h67 with h | h
       all_goals
        subst h
        go_wp2_with (go_at_call 50; refine (reals_Bits _ _).mono ?_; rintro e w' ⟨rfl, rfl⟩)
        go_ret
        exact ⟨ret_bool (by rw [HE.out, CL.out] <;> first | rfl | exact decide_eq_false (by omega) | exact decide_eq_true (by omega)), (Ext.refl _ _).alloc _⟩
     ·have CL : Hid ((decide (key.size = 0) && noneB x && decide (0 ≤ id) && decide (id < 16)) = false) := hI_ (by rw [toList_nil] at hk; simp [hk])
      rcases h67 with h | h
      all_goals
       subst h
       go_wp2_with (go_at_call 50; refine (reals_Bits _ _).mono ?_; rintro e w' ⟨rfl, rfl⟩)
       go_ret
       exact ⟨ret_bool (by rw [HE.out, CL.out] <;> first | rfl | exact decide_eq_false (by omega) | exact decide_eq_true (by omega)), (Ext.refl _ _).alloc _⟩
    ·have HE : Hid (opB ⟨k, key, x, id⟩ = false) := hI_ (by unfold opB; rw [if_neg h45, if_neg h123, if_neg h67])
     have k1 : (k == 1) = false := by rw [beq_eq_false_iff_ne]; omega
     have k2 : (k == 2) = false := by rw [beq_eq_false_iff_ne]; omega
     have k3 : (k == 3) = false := by rw [beq_eq_false_iff_ne]; omega
     have k4 : (k == 4) = false := by rw [beq_eq_false_iff_ne]; omega
     have k5 : (k == 5) = false := by rw [beq_eq_false_iff_ne]; omega
     have k6 : (k == 6) = false := by rw [beq_eq_false_iff_ne]; omega
     have k7 : (k == 7) = false := by rw [beq_eq_false_iff_ne]; omega
     clear h45 h123 h67
     go_wp2_with (go_at_call 50; refine (reals_Bits _ _).mono ?_; rintro e w' ⟨rfl, rfl⟩)
     go_ret
     exact ⟨ret_bool (by rw [HE.out]), (Ext.refl _ _).alloc _⟩
theorem deeds_Right (c s k : Int) (key : ByteArray) (x : Nat) (id : Int) (w : World) : Calls Tryz.prog 53 #[.agg #[.int .i64 c, .int .i64 s, .int .i64 k, .string key, .float .f64 x, .int .i64 id]] w fun e w' => e = .returned (.bool (rightB ⟨c, s, ⟨k, key, x, id⟩⟩)) ∧ Ext Non w w' := by
 have HE : Hid (rightB ⟨c, s, ⟨k, key, x, id⟩⟩ = (withinB c 1 8 && withinB s 1 1048576 && opB ⟨k, key, x, id⟩)) := hI_ rfl
 cases h1 : withinB c 1 8
 ·have H1 := hI_ h1
  go_enter Tryz.func53, Tryz.ntmps53
  go_wp2_with (go_at_call 88; refine (deeds_within _ _ _ _).mono ?_; rintro e w' ⟨rfl, rfl⟩)
  go_ret
  exact ⟨ret_bool (by rw [HE.out, H1.out]; rfl), (Ext.refl _ _).alloc _⟩
 ·cases h2 : withinB s 1 1048576
  ·have H2 := hI_ h2
   go_enter Tryz.func53, Tryz.ntmps53
   go_wp2_with (go_at_call 88; refine (deeds_within _ _ _ _).mono ?_; rintro e w' ⟨rfl, rfl⟩)
   go_ret
   exact ⟨ret_bool (by rw [HE.out, H2.out]; simp), ((Ext.refl _ _).alloc _)⟩
  ·have H1 := hI_ h1
   have H2 := hI_ h2
   go_enter Tryz.func53, Tryz.ntmps53
   go_wp2_with (first | (go_at_call 88; refine (deeds_within _ _ _ _).mono ?_; rintro e w' ⟨rfl, rfl⟩) | (go_at_call 89; refine (deeds_right _ _ _ _ _).mono ?_; rintro e w' ⟨rfl, y⟩))
   go_ret
   exact ⟨ret_bool (by rw [HE.out, H1.out, H2.out]; simp), ((Ext.refl _ _).alloc _).trans y⟩
theorem deeds_Null (c s k : Int) (key : ByteArray) (x : Nat) (id : Int) (hc : I64 c) (hs : I64 s) (hk : I64 k) (hid : I64 id) (w : World) : Calls Tryz.prog 54 #[.agg #[.int .i64 c, .int .i64 s, .int .i64 k, .string key, .float .f64 x, .int .i64 id]] w fun e w' => e = .returned (.bool (nullB ⟨c, s, ⟨k, key, x, id⟩⟩)) ∧ Ext Non w w' := by
 have o1 := or_i64 c s hc hs
 have o2 := or_i64 _ k o1.2 hk
 have o3 := or_i64 _ id o2.2 hid
 have hor : bits .or .i64 (bits .or .i64 (bits .or .i64 c s) k) id = 0 ↔ c = 0 ∧ s = 0 ∧ k = 0 ∧ id = 0 := by
  rw [o3.1, o2.1, o1.1]; exact ⟨fun ⟨⟨⟨a, b⟩, c⟩, d⟩ => ⟨a, b, c, d⟩, fun ⟨a, b, c, d⟩ => ⟨⟨⟨a, b⟩, c⟩, d⟩⟩
 have t1 : (((canonN x : Nat) : Int) == 0) = noneB x := by unfold noneB; rw [Bool.eq_iff_iff]; simp
 have HE : Hid (nullB ⟨c, s, ⟨k, key, x, id⟩⟩ = (decide (c = 0) && decide (s = 0) && decide (k = 0) && decide (id = 0) && decide (key.size = 0) && noneB x)) := hI_ rfl
 generalize hB : bits .or .i64 (bits .or .i64 (bits .or .i64 c s) k) id = B at hor
 clear o1 o2 o3
 by_cases hB0 : B = 0
 ·have h0 := hI_ (hor.1 hB0)
  subst hB0; clear hor
  by_cases hke : key.toList = []
  ·have hs0 := hI_ ((toList_nil key).1 hke)
   go_enter Tryz.func54, Tryz.ntmps54
   go_wp2_with (go_at_call 50; refine (reals_Bits _ _).mono ?_; rintro e w' ⟨rfl, rfl⟩)
   go_ret
   exact ⟨ret_bool (by rw [HE.out]; obtain ⟨q1, q2, q3, q4⟩ := h0.out; have q5 := hs0.out; simp [q1, q2, q3, q4, q5]), (Ext.refl _ _).alloc _⟩
  ·have hs0 := hI_ (fun h => hke ((toList_nil key).2 h))
   go_enter Tryz.func54, Tryz.ntmps54
   go_wp2
   go_ret
   exact ⟨ret_bool (by rw [HE.out, decide_eq_false hs0.out]; simp), (Ext.refl _ _).alloc _⟩
 ·have h0 := hI_ (fun h => hB0 (hor.2 h))
  have hb0 : (B == 0) = false := by rw [beq_eq_false_iff_ne]; exact hB0
  clear hor hB0
  go_enter Tryz.func54, Tryz.ntmps54
  go_wp2
  go_ret
  refine ⟨ret_bool ?_, (Ext.refl _ _).alloc _⟩
  rw [HE.out]
  have q := h0.out
  have : (decide (c = 0) && decide (s = 0) && decide (k = 0) && decide (id = 0)) = false := by
   rw [Bool.eq_false_iff]; intro h; simp only [Bool.and_eq_true, decide_eq_true_eq] at h; exact q ⟨h.1.1.1, h.1.1.2, h.1.2, h.2⟩
  rw [this]; rfl
end Go.Proofs.YtfefeepljbfcdaaGreat
