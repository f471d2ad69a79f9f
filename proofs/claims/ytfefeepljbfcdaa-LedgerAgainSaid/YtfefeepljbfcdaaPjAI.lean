/- Joined texts: Council. What each proves stands at its head; no conditions beside those in its theorems. -/
import Derived.Test.YtfefeepljbfcdaaProg
import Derived.Test.YtfefeepljbfcdaaPjAA
import Derived.Test.YtfefeepljbfcdaaPjAB
import Derived.Test.YtfefeepljbfcdaaPjAE
/- Contracts of layer 7 (council): which configurations are right; coming and going. -/
namespace Go.Proofs.Ytfefeepljbfcdaa
open Go.RowKit
set_option linter.unusedSimpArgs false
set_option linter.unusedVariables false

/-- A row of ints that can be read behind an address. -/
structure Ints (w : World) (a : Option Addr) (cap : Nat) (xs : List Int) : Prop where
  le : xs.length ≤ cap
  small : cap ≤ 9223372036854775807
  nil : a = none → cap = 0
  at_ : ∀ j (h : j < xs.length), ∃ b o, a = some ⟨b, o, none⟩ ∧ w.cell? ⟨b, o + j, none⟩ = some (.int .i64 xs[j]) ∧ I64 xs[j]
theorem Ints.ext {S : Nat → Prop} {w w' : World} {a : Option Addr} {cap : Nat} {xs : List Int} (h : Ints w a cap xs) (x : Ext S w w') (hs : ∀ b o, a = some ⟨b, o, none⟩ → ¬ S b) : Ints w' a cap xs :=
  ⟨h.le, h.small, h.nil, fun j hj => by
    obtain ⟨b, o, e, c, i⟩ := h.at_ j hj
    exact ⟨b, o, e, (x.cell (lt_of_cell c) (hs b o e)).trans c, i⟩⟩
theorem Ints.extN {w w' : World} {a : Option Addr} {cap : Nat} {xs : List Int} (h : Ints w a cap xs) (x : Ext Non w w') : Ints w' a cap xs := h.ext x fun _ _ _ f => f
theorem Ints.nil' (w : World) : Ints w none 0 [] := ⟨by decide, by decide, fun _ => rfl, fun j h => absurd h (Nat.not_lt_zero _)⟩
theorem Ints.drewN {w : World} {a : Option Addr} {cap : Nat} {xs : List Int} (h : Ints w a cap xs) (n : Nat) : Ints (w.drewN n) a cap xs := ⟨h.le, h.small, h.nil, h.at_⟩

theorem council_rising (a : Option Addr) (cap : Nat) (xs : List Int) (w : World) (h : Ints w a cap xs) : Calls Try.prog 35 #[.slice a xs.length cap] w fun e w' => e = .returned (.bool (membersB xs)) ∧ w = w' := by
  have hm := h.small
  have hm2 := h.le
  have HH := Go.Lib.hid h; clear h
  go_enter Try.func35, Try.ntmps35
  go_wp2
  go_loop [3, 8] (fun lv iv => ∃ (i : Nat) (last : Int), i ≤ xs.length ∧ iv = .int .i64 i ∧ lv = .int .i64 last ∧ risingB (-1) xs = risingB last (xs.drop i)) (fun _ iv => xs.length - (intOf iv).toNat)
  case atStart => exact ⟨0, -1, Nat.zero_le _, rfl, rfl, rfl⟩
  case round =>
    obtain ⟨i, last, hi, rfl, rfl, hR⟩ := hrel
    have HR := Go.Lib.hid hR; clear hR
    by_cases hlt : i < xs.length
    · obtain ⟨b, o, rfl, hc, hx⟩ := HH.out.at_ i hlt
      have hd := risingB_drop xs last i hlt
      generalize hxi : xs[i] = x at *
      have HD := Go.Lib.hid hd; clear hd
      have HX := Go.Lib.hid hxi; clear hxi
      by_cases h1 : last < x
      · by_cases h2 : x < 16
        · have e : risingB (-1) xs = risingB x (xs.drop (i + 1)) := by rw [HR.out, HD.out]; simp [h1, h2]
          have E := Go.Lib.hid e; clear e
          go_wp2
          go_round
          case rel => exact ⟨i + 1, _, hlt, by go_num, rfl, E.out⟩
          case measure => simp [intOf]; omega
        · have e : membersB xs = false := by unfold membersB; rw [HR.out, HD.out]; simp [h2]
          have E := Go.Lib.hid e; clear e
          go_wp2
          go_ret
          exact ⟨ret_bool E.out.symm, rfl⟩
      · have e : membersB xs = false := by unfold membersB; rw [HR.out, HD.out]; simp [h1]
        have E := Go.Lib.hid e; clear e
        go_wp2
        go_ret
        exact ⟨ret_bool E.out.symm, rfl⟩
    · have e : membersB xs = (decide (4 ≤ xs.length) && decide (xs.length ≤ 10)) := by
        unfold membersB; rw [HR.out, List.drop_eq_nil_of_le (by omega)]; simp [risingB]
      have E := Go.Lib.hid e; clear e
      by_cases h4 : 4 ≤ xs.length
      · go_wp2
        go_ret
        exact ⟨ret_bool (by rw [E.out, Bool.eq_iff_iff]; simp; omega), rfl⟩
      · go_wp2
        go_ret
        exact ⟨ret_bool (by rw [E.out, Bool.eq_iff_iff]; simp; omega), rfl⟩

theorem council_fits (a : Option Addr) (cap : Nat) (xs : List Int) (id : Int) (w : World) (h : Ints w a cap xs) : Calls Try.prog 88 #[.slice a xs.length cap, .int .i64 id] w fun e w' => e = .returned (.bool (membersB xs && decide (0 ≤ id) && decide (id < 16))) ∧ w = w' := by
  have HH := Go.Lib.hid h; clear h
  cases hm : membersB xs
  · go_enter Try.func88, Try.ntmps88
    go_wp2_with (go_at_call 35; refine (council_rising _ _ _ _ HH.out).mono ?_; rintro e w' ⟨rfl, rfl⟩)
    go_ret
    exact ⟨ret_bool rfl, rfl⟩
  · by_cases h0 : 0 ≤ id
    · go_enter Try.func88, Try.ntmps88
      go_wp2_with (go_at_call 35; refine (council_rising _ _ _ _ HH.out).mono ?_; rintro e w' ⟨rfl, rfl⟩)
      go_ret
      exact ⟨ret_bool (by simp [h0]), rfl⟩
    · go_enter Try.func88, Try.ntmps88
      go_wp2_with (go_at_call 35; refine (council_rising _ _ _ _ HH.out).mono ?_; rintro e w' ⟨rfl, rfl⟩)
      go_ret
      exact ⟨ret_bool (by rw [decide_eq_false (by omega : ¬ 0 ≤ id)]; rfl), rfl⟩

theorem council_Right (ep : Int) (a : Option Addr) (cap : Nat) (xs : List Int) (w : World) (h : Ints w a cap xs) : Calls Try.prog 18 #[.agg #[.int .i64 ep, .slice a xs.length cap]] w fun e w' => e = .returned (.bool (confB ep xs)) ∧ Ext Non w w' := by
  have HE : Hid (confB ep xs = (decide (0 ≤ ep) && decide (ep ≤ 60) && membersB xs)) := Go.Lib.hid rfl
  have HH : Hid (Ints (w.alloc (.cells #[.int .i64 ep, .slice a xs.length cap] 24)) a cap xs) := Go.Lib.hid (h.extN ((Ext.refl _ _).alloc _))
  clear h
  by_cases h0 : 0 ≤ ep
  · by_cases h1 : ep ≤ 60
    · go_enter Try.func18, Try.ntmps18
      go_wp2_with (go_at_call 35; refine (council_rising _ _ _ _ HH.out).mono ?_; rintro e w' ⟨rfl, rfl⟩)
      go_ret
      exact ⟨ret_bool (by rw [HE.out, decide_eq_true h0, decide_eq_true h1]; rfl), (Ext.refl _ _).alloc _⟩
    · go_enter Try.func18, Try.ntmps18
      go_wp2
      go_ret
      exact ⟨ret_bool (by rw [HE.out, decide_eq_false (by omega : ¬ ep ≤ 60)]; simp), (Ext.refl _ _).alloc _⟩
  · go_enter Try.func18, Try.ntmps18
    go_wp2
    go_ret
    exact ⟨ret_bool (by rw [HE.out, decide_eq_false (by omega : ¬ 0 ≤ ep)]; simp), (Ext.refl _ _).alloc _⟩

/-- A slice's block (if it has one) is a row of ints. -/
def intT (w : World) (a : Option Addr) : Prop := ∀ k o, a = some ⟨k, o, none⟩ → ∃ vs fr, w.heap[k]? = some (.cells vs 3 fr)
/-- It is new besides. -/
def fresh (n : Nat) (w : World) (a : Option Addr) : Prop := ∀ k o, a = some ⟨k, o, none⟩ → n ≤ k ∧ ∃ vs fr, w.heap[k]? = some (.cells vs 3 fr)
theorem fresh.typed {n : Nat} {w : World} {a : Option Addr} (h : fresh n w a) : intT w a := fun k o e => (h k o e).2
theorem intT.lt {w : World} {a : Option Addr} (h : intT w a) {k o : Nat} (e : a = some ⟨k, o, none⟩) : k < w.heap.size := by
  obtain ⟨_, _, h⟩ := h k o e
  exact (Array.getElem?_eq_some_iff.1 h).1
/-- Blocks that are no rows of ints. -/
def NoInts (S : Nat → Prop) (w : World) : Prop := ∀ k, S k → ∀ vs fr, w.heap[k]? ≠ some (.cells vs 3 fr)
theorem intT.ext {S : Nat → Prop} {w w' : World} {a : Option Addr} (h : intT w a) (x : Ext S w w') (hs : NoInts S w) : intT w' a := fun k o e => by
  obtain ⟨vs, fr, hh⟩ := h k o e
  exact ⟨vs, fr, (x.block k (h.lt e) (fun s => hs k s vs fr hh)).trans hh⟩
theorem NoInts.non (w : World) : NoInts Non w := fun _ h => h.elim
theorem Ints.extT {S : Nat → Prop} {w w' : World} {a : Option Addr} {cap : Nat} {xs : List Int} (h : Ints w a cap xs) (t : intT w a) (x : Ext S w w') (hs : NoInts S w) : Ints w' a cap xs :=
  h.ext x fun k o e s => by obtain ⟨vs, fr, hh⟩ := t k o e; exact hs k s vs fr hh
/-- What the call owns, as a row of ints. -/
theorem Ints.ofOwn {w : World} {base : Nat} {v : Value} {xs : List Int} (h : w.ownsRow base 3 1 v xs.length (xs.map (Value.int .i64))) (hi : ∀ x ∈ xs, I64 x) :
    ∃ a cap, v = .slice a xs.length cap ∧ Ints w a cap xs ∧ fresh base w a := by
  rcases h.2 with ⟨rfl, h0⟩ | ⟨g, cap, cur, rfl, hb, hg, hl, hm, hs, ht⟩
  · have : xs = [] := List.eq_nil_of_length_eq_zero h0
    subst this
    exact ⟨none, 0, rfl, Ints.nil' w, fun _ _ e => by cases e⟩
  · refine ⟨some ⟨g, 0, none⟩, cap, rfl, ⟨hl, hm, fun e => (by cases e), fun j hj => ⟨g, 0, rfl, ?_, hi _ (List.getElem_mem hj)⟩⟩, fun b o e => by cases e; exact ⟨hb, _, _, hg⟩⟩
    have := h.cells (g := g) rfl j (.int .i64 xs[j]) (by simp [hj])
    rw [addr_add] at this
    exact this

theorem info_int : (Try.prog.info? 3).map (fun i => (i.zero, i.size, i.bytes)) = some (some (.int .i64 0), 1, 8) := by kernel_rfl

set_option maxRecDepth 100000 in
theorem slices_Clone (a : Option Addr) (cap : Nat) (xs : List Int) (hb : xs.length * 8 ≤ 140737488355328) (w : World) (h : Ints w a cap xs) : Calls Try.prog 30 #[.slice a xs.length cap] w fun e w' =>
    ∃ a' cap', e = .returned (.slice a' xs.length cap') ∧ Ext Non w w' ∧ Ints w' a' cap' xs ∧ fresh w.heap.size w' a' := by
  have HH := Go.Lib.hid h
  have HB := Go.Lib.hid hb; clear hb
  have q : ∀ (w : World) (a : Option Addr) (n c n' c' : Nat), (binOp .eql 22 (.slice a n c) (.slice none n' c')).run Try.prog w = .ok (.bool a.isNone) w := fun w a n c n' c' => Go.Lib.run_eql_slice_nil w _ _ a n c n' c' Try.underlying22
  cases a with
  | none =>
    have hc := h.nil rfl
    have hx : xs = [] := List.eq_nil_of_length_eq_zero (by have := h.le; omega)
    subst hc; subst hx
    clear h
    go_enter Try.func30, Try.ntmps30
    go_wp2
    go_returns
    exact ⟨none, 0, rfl, Ext.refl _ _, HH.out, fun _ _ e => by cases e⟩
  | some x =>
    have hsm : xs.length ≤ 9223372036854775807 := by have := h.le; have := h.small; omega
    clear h
    obtain ⟨i0, hi, hz0, hz1, hz2⟩ := info_parts info_int
    go_enter Try.func30, Try.ntmps30
    go_wp2_with (at_builtin; refine wpList_append_own _ rfl _ _ 22 rfl w.heap.size 3 i0 (.int .i64 0) 1 8 Try.underlying22 hi hz0 hz1 hz2 rfl (by decide) _ _ _ rfl (World.ownsRow_made w #[] 0 (Nat.le_refl _) (Nat.zero_le _) rfl) x xs.length cap (xs.map (Value.int .i64)) rfl ?qc1 ?qc2 ?qc3 ?qc4 ?qc5 ?qc6 ?_)
    case qc1 => simp
    case qc2 =>
      intro j u hj
      have hjn : j < xs.length := by have := (List.getElem?_eq_some_iff.1 hj).1; simpa using this
      obtain ⟨b, o, e, hc, _⟩ := HH.out.at_ j hjn
      cases e
      rw [addr_add]
      have hu : u = .int .i64 xs[j] := by simpa [hjn] using hj.symm
      rw [hu]
      exact (((Ext.refl Non w).alloc _).cell (lt_of_cell hc) id).trans hc
    case qc3 => intro u hu; obtain ⟨x, _, rfl⟩ := List.mem_map.1 hu; rfl
    case qc4 => unfold maxLen; omega
    case qc5 => have := HB.out; omega
    case qc6 => simp
    intro v' w1 hown hgrow hnil
    have hown : w1.ownsRow w.heap.size 3 1 v' xs.length (xs.map (Value.int .i64)) := by simpa using hown
    obtain ⟨a', cap', rfl, hI, hf⟩ := Ints.ofOwn hown (fun x hx => by obtain ⟨j, hj, rfl⟩ := List.getElem_of_mem hx; obtain ⟨_, _, _, _, i⟩ := HH.out.at_ j hj; exact i)
    go_wp2
    go_returns
    refine ⟨a', cap', rfl, ?_, hI, hf⟩
    exact ((Ext.refl Non w).alloc _).step (Ext.ofGrown (S := fun k => k = w.heap.size) hgrow (fun k hk => .inl (by simp [Value.ownBlock] at hk; omega))) (fun i hi hS => by omega)

set_option maxHeartbeats 1000000 in
theorem slices_BinarySearch (a : Option Addr) (cap : Nat) (xs : List Int) (t : Int) (p : xs.Pairwise (· < ·)) (hb : xs.length ≤ 4611686018427387903) (w : World) (h : Ints w a cap xs) : Calls Try.prog 89 #[.slice a xs.length cap, .int .i64 t] w fun e w' =>
    e = .returned (.tuple #[.int .i64 (placeI xs t), .bool (hasB xs t)]) ∧ w = w' := by
  have HH := Go.Lib.hid h; clear h
  have HP := Go.Lib.hid p; clear p
  go_enter Try.func89, Try.ntmps89
  go_wp2
  go_loop [7, 8] (fun iv jv => ∃ (i j : Nat), i ≤ j ∧ j ≤ xs.length ∧ iv = .int .i64 i ∧ jv = .int .i64 j ∧ (∀ k (h : k < xs.length), k < i → xs[k] < t) ∧ (∀ k (h : k < xs.length), j ≤ k → t ≤ xs[k])) (fun iv jv => (intOf jv).toNat - (intOf iv).toNat)
  case atStart => exact ⟨0, xs.length, Nat.zero_le _, Nat.le_refl _, rfl, rfl, fun k _ h => absurd h (Nat.not_lt_zero _), fun k h h' => absurd h (by omega)⟩
  case round =>
    obtain ⟨i, j, hij, hj, rfl, rfl, hlo, hhi⟩ := hrel
    have HLO := Go.Lib.hid hlo; have HHI := Go.Lib.hid hhi; clear hlo hhi
    by_cases hlt : i < j
    · have hm : (i + j) / 2 < xs.length := by omega
      obtain ⟨b, o, rfl, hc, hx⟩ := HH.out.at_ _ hm
      obtain ⟨x, hxe⟩ : ∃ x, x = xs[(i + j) / 2] := ⟨_, rfl⟩
      rw [← hxe] at hc
      have HX := Go.Lib.hid hxe; clear hxe hx
      have HPs := HP.out
      have lo : x < t → ∀ k (h : k < xs.length), k < (i + j) / 2 + 1 → xs[k] < t := by
        intro hx k hk hlt'
        rcases Nat.lt_or_eq_of_le (Nat.lt_succ_iff.1 hlt') with h | h
        · have := List.pairwise_iff_getElem.1 HPs k ((i + j) / 2) hk hm h
          rw [← HX.out] at this; omega
        · subst h; rw [← HX.out]; exact hx
      have hi : ¬ x < t → ∀ k (h : k < xs.length), (i + j) / 2 ≤ k → t ≤ xs[k] := by
        intro hx k hk hle
        rcases Nat.lt_or_eq_of_le hle with h | h
        · have := List.pairwise_iff_getElem.1 HPs ((i + j) / 2) k hm hk h
          rw [← HX.out] at this; omega
        · subst h; rw [← HX.out]; omega
      have LO := Go.Lib.hid lo; have HI := Go.Lib.hid hi; clear lo hi HPs
      by_cases hxt : x < t
      · have HT := Go.Lib.hid hxt
        go_wp2
        go_round
        case rel => exact ⟨(i + j) / 2 + 1, j, by omega, hj, by go_num, rfl, LO.out HT.out, HHI.out⟩
        case measure => simp [intOf]; omega
      · have HT := Go.Lib.hid hxt
        go_wp2
        go_round
        case rel => exact ⟨i, (i + j) / 2, by omega, by omega, rfl, by go_num, HLO.out, HI.out HT.out⟩
        case measure => simp [intOf]; omega
    · obtain rfl : i = j := by omega
      have hp := place_of hj HLO.out HHI.out
      have hc := place_contains HP.out HLO.out HHI.out
      have HPl := Go.Lib.hid hp; have HC := Go.Lib.hid hc; clear hp hc
      by_cases hl : i < xs.length
      · obtain ⟨b, o, rfl, hcell, _⟩ := HH.out.at_ i hl
        obtain ⟨x, hxe⟩ : ∃ x, x = xs[i] := ⟨_, rfl⟩
        rw [← hxe] at hcell
        have HX := Go.Lib.hid hxe; clear hxe
        by_cases hxt : x = t
        · have HT := Go.Lib.hid hxt
          have e1 : (x == t) = true := by rw [beq_iff_eq]; exact hxt
          clear hxt
          have E : Hid (hasB xs t = true) := Go.Lib.hid (HC.out.2 ⟨hl, HX.out ▸ HT.out⟩)
          go_wp2
          go_ret2
          exact ⟨by rw [HPl.out, E.out]; rfl, rfl⟩
        · have HT := Go.Lib.hid hxt
          have e1 : (x == t) = false := by rw [beq_eq_false_iff_ne]; exact hxt
          clear hxt
          have E : Hid (hasB xs t = false) := Go.Lib.hid (by rw [Bool.eq_false_iff]; intro h; obtain ⟨_, e⟩ := HC.out.1 h; exact HT.out (HX.out.trans e))
          go_wp2
          go_ret2
          exact ⟨by rw [HPl.out, E.out]; rfl, rfl⟩
      · have E : Hid (hasB xs t = false) := Go.Lib.hid (by rw [Bool.eq_false_iff]; intro h; obtain ⟨h, _⟩ := HC.out.1 h; exact hl h)
        go_wp2
        go_ret2
        exact ⟨by rw [HPl.out, E.out]; rfl, rfl⟩
end Go.Proofs.Ytfefeepljbfcdaa
