/- Joined texts: Council, Reals, Deeds, RefR. What each proves stands at its head; no conditions beside those in its theorems. -/
import Derived.Test.YtflpkoafebjfdaaGreatProg
import Derived.Test.YtflpkoafebjfdaaGreatPjAA
import Derived.Test.YtflpkoafebjfdaaGreatPjAB
/- Contracts of layer 7 (council): which configurations are right; coming and going. -/
namespace Go.Proofs.YtflpkoafebjfdaaGreat
open Go.RowKit
set_option linter.unusedSimpArgs false
set_option linter.unusedVariables false

/-- A row of ints that can be read behind an address. -/
structure Ints (w : World) (a : Option Addr) (cap : Nat) (xs : List Int) : Prop where
  le : xs.length ≤ cap
  small : cap ≤ 9223372036854775807
  nil : a = none → cap = 0
  at_ : ∀ j (h : j < xs.length), ∃ b o, a = some ⟨b, o, none⟩ ∧ w.cell? ⟨b, o + j, none⟩ = some (.int .i64 xs[j]) ∧ I64 xs[j]
theorem Ints.ext {S : Nat → Prop} {w w' : World} {a : Option Addr} {cap : Nat} {xs : List Int} (h : Ints w a cap xs) (x : Ext S w w') (hs : ∀ b o, a = some ⟨b, o, none⟩ → ¬ S b) : Ints w' a cap xs :=
  ⟨h.le, h.small, h.nil, fun j hj => by
    obtain ⟨b, o, e, c, i⟩ := h.at_ j hj
    exact ⟨b, o, e, (x.cell (lt_of_cell c) (hs b o e)).trans c, i⟩⟩
theorem Ints.extN {w w' : World} {a : Option Addr} {cap : Nat} {xs : List Int} (h : Ints w a cap xs) (x : Ext Non w w') : Ints w' a cap xs := h.ext x fun _ _ _ f => f
theorem Ints.nil' (w : World) : Ints w none 0 [] := ⟨by decide, by decide, fun _ => rfl, fun j h => absurd h (Nat.not_lt_zero _)⟩
theorem Ints.drewN {w : World} {a : Option Addr} {cap : Nat} {xs : List Int} (h : Ints w a cap xs) (n : Nat) : Ints (w.drewN n) a cap xs := ⟨h.le, h.small, h.nil, h.at_⟩

theorem council_rising (a : Option Addr) (cap : Nat) (xs : List Int) (w : World) (h : Ints w a cap xs) : Calls Tryz.prog 52 #[.slice a xs.length cap] w fun e w' => e = .returned (.bool (membersB xs)) ∧ w = w' := by
  have hm := h.small
  have hm2 := h.le
  have HH := Go.Lib.hid h; clear h
  go_enter Tryz.func52, Tryz.ntmps52
  go_wp2
  go_loop [3, 8] (fun lv iv => ∃ (i : Nat) (last : Int), i ≤ xs.length ∧ iv = .int .i64 i ∧ lv = .int .i64 last ∧ risingB (-1) xs = risingB last (xs.drop i)) (fun _ iv => xs.length - (intOf iv).toNat)
  case atStart => exact ⟨0, -1, Nat.zero_le _, rfl, rfl, rfl⟩
  case round =>
    obtain ⟨i, last, hi, rfl, rfl, hR⟩ := hrel
    have HR := Go.Lib.hid hR; clear hR
    by_cases hlt : i < xs.length
    · obtain ⟨b, o, rfl, hc, hx⟩ := HH.out.at_ i hlt
      have hd := risingB_drop xs last i hlt
      generalize hxi : xs[i] = x at *
      have HD := Go.Lib.hid hd; clear hd
      have HX := Go.Lib.hid hxi; clear hxi
      by_cases h1 : last < x
      · by_cases h2 : x < 16
        · have e : risingB (-1) xs = risingB x (xs.drop (i + 1)) := by rw [HR.out, HD.out]; simp [h1, h2]
          have E := Go.Lib.hid e; clear e
          go_wp2
          go_round
          case rel => exact ⟨i + 1, _, hlt, by go_num, rfl, E.out⟩
          case measure => simp [intOf]; omega
        · have e : membersB xs = false := by unfold membersB; rw [HR.out, HD.out]; simp [h2]
          have E := Go.Lib.hid e; clear e
          go_wp2
          go_ret
          exact ⟨ret_bool E.out.symm, rfl⟩
      · have e : membersB xs = false := by unfold membersB; rw [HR.out, HD.out]; simp [h1]
        have E := Go.Lib.hid e; clear e
        go_wp2
        go_ret
        exact ⟨ret_bool E.out.symm, rfl⟩
    · have e : membersB xs = (decide (4 ≤ xs.length) && decide (xs.length ≤ 10)) := by
        unfold membersB; rw [HR.out, List.drop_eq_nil_of_le (by omega)]; simp [risingB]
      have E := Go.Lib.hid e; clear e
      by_cases h4 : 4 ≤ xs.length
      · go_wp2
        go_ret
        exact ⟨ret_bool (by rw [E.out, Bool.eq_iff_iff]; simp; omega), rfl⟩
      · go_wp2
        go_ret
        exact ⟨ret_bool (by rw [E.out, Bool.eq_iff_iff]; simp; omega), rfl⟩

theorem council_Right (ep : Int) (a : Option Addr) (cap : Nat) (xs : List Int) (w : World) (h : Ints w a cap xs) : Calls Tryz.prog 22 #[.agg #[.int .i64 ep, .slice a xs.length cap]] w fun e w' => e = .returned (.bool (confB ep xs)) ∧ Ext Non w w' := by
  have HE : Hid (confB ep xs = (decide (0 ≤ ep) && decide (ep ≤ 60) && membersB xs)) := Go.Lib.hid rfl
  have HH : Hid (Ints (w.alloc (.cells #[.int .i64 ep, .slice a xs.length cap] 24)) a cap xs) := Go.Lib.hid (h.extN ((Ext.refl _ _).alloc _))
  clear h
  by_cases h0 : 0 ≤ ep
  · by_cases h1 : ep ≤ 60
    · go_enter Tryz.func22, Tryz.ntmps22
      go_wp2_with (go_at_call 52; refine (council_rising _ _ _ _ HH.out).mono ?_; rintro e w' ⟨rfl, rfl⟩)
      go_ret
      exact ⟨ret_bool (by rw [HE.out, decide_eq_true h0, decide_eq_true h1]; rfl), (Ext.refl _ _).alloc _⟩
    · go_enter Tryz.func22, Tryz.ntmps22
      go_wp2
      go_ret
      exact ⟨ret_bool (by rw [HE.out, decide_eq_false (by omega : ¬ ep ≤ 60)]; simp), (Ext.refl _ _).alloc _⟩
  · go_enter Tryz.func22, Tryz.ntmps22
    go_wp2
    go_ret
    exact ⟨ret_bool (by rw [HE.out, decide_eq_false (by omega : ¬ 0 ≤ ep)]; simp), (Ext.refl _ _).alloc _⟩

/-- A slice's block (if it has one) is a row of ints. -/
def intT (w : World) (a : Option Addr) : Prop := ∀ k o, a = some ⟨k, o, none⟩ → ∃ vs fr, w.heap[k]? = some (.cells vs 3 fr)
/-- It is new besides. -/
def fresh (n : Nat) (w : World) (a : Option Addr) : Prop := ∀ k o, a = some ⟨k, o, none⟩ → n ≤ k ∧ ∃ vs fr, w.heap[k]? = some (.cells vs 3 fr)
theorem fresh.typed {n : Nat} {w : World} {a : Option Addr} (h : fresh n w a) : intT w a := fun k o e => (h k o e).2
theorem intT.lt {w : World} {a : Option Addr} (h : intT w a) {k o : Nat} (e : a = some ⟨k, o, none⟩) : k < w.heap.size := by
  obtain ⟨_, _, h⟩ := h k o e
  exact (Array.getElem?_eq_some_iff.1 h).1
/-- Blocks that are no rows of ints. -/
def NoInts (S : Nat → Prop) (w : World) : Prop := ∀ k, S k → ∀ vs fr, w.heap[k]? ≠ some (.cells vs 3 fr)
theorem intT.ext {S : Nat → Prop} {w w' : World} {a : Option Addr} (h : intT w a) (x : Ext S w w') (hs : NoInts S w) : intT w' a := fun k o e => by
  obtain ⟨vs, fr, hh⟩ := h k o e
  exact ⟨vs, fr, (x.block k (h.lt e) (fun s => hs k s vs fr hh)).trans hh⟩
theorem NoInts.non (w : World) : NoInts Non w := fun _ h => h.elim
theorem Ints.extT {S : Nat → Prop} {w w' : World} {a : Option Addr} {cap : Nat} {xs : List Int} (h : Ints w a cap xs) (t : intT w a) (x : Ext S w w') (hs : NoInts S w) : Ints w' a cap xs :=
  h.ext x fun k o e s => by obtain ⟨vs, fr, hh⟩ := t k o e; exact hs k s vs fr hh
/-- What the call owns, as a row of ints. -/
theorem Ints.ofOwn {w : World} {base : Nat} {v : Value} {xs : List Int} (h : w.ownsRow base 3 1 v xs.length (xs.map (Value.int .i64))) (hi : ∀ x ∈ xs, I64 x) :
    ∃ a cap, v = .slice a xs.length cap ∧ Ints w a cap xs ∧ fresh base w a := by
  rcases h.2 with ⟨rfl, h0⟩ | ⟨g, cap, cur, rfl, hb, hg, hl, hm, hs, ht⟩
  · have : xs = [] := List.eq_nil_of_length_eq_zero h0
    subst this
    exact ⟨none, 0, rfl, Ints.nil' w, fun _ _ e => by cases e⟩
  · refine ⟨some ⟨g, 0, none⟩, cap, rfl, ⟨hl, hm, fun e => (by cases e), fun j hj => ⟨g, 0, rfl, ?_, hi _ (List.getElem_mem hj)⟩⟩, fun b o e => by cases e; exact ⟨hb, _, _, hg⟩⟩
    have := h.cells (g := g) rfl j (.int .i64 xs[j]) (by simp [hj])
    rw [addr_add] at this
    exact this

theorem info_int : (Tryz.prog.info? 3).map (fun i => (i.zero, i.size, i.bytes)) = some (some (.int .i64 0), 1, 8) := by kernel_rfl

set_option maxRecDepth 100000 in
theorem slices_Clone (a : Option Addr) (cap : Nat) (xs : List Int) (hb : xs.length * 8 ≤ 140737488355328) (w : World) (h : Ints w a cap xs) : Calls Tryz.prog 87 #[.slice a xs.length cap] w fun e w' =>
    ∃ a' cap', e = .returned (.slice a' xs.length cap') ∧ Ext Non w w' ∧ Ints w' a' cap' xs ∧ fresh w.heap.size w' a' := by
  have HH := Go.Lib.hid h
  have HB := Go.Lib.hid hb; clear hb
  have q : ∀ (w : World) (a : Option Addr) (n c n' c' : Nat), (binOp .eql 22 (.slice a n c) (.slice none n' c')).run Tryz.prog w = .ok (.bool a.isNone) w := fun w a n c n' c' => Go.Lib.run_eql_slice_nil w _ _ a n c n' c' Tryz.underlying22
  cases a with
  | none =>
    have hc := h.nil rfl
    have hx : xs = [] := List.eq_nil_of_length_eq_zero (by have := h.le; omega)
    subst hc; subst hx
    clear h
    go_enter Tryz.func87, Tryz.ntmps87
    go_wp2
    go_returns
    exact ⟨none, 0, rfl, Ext.refl _ _, HH.out, fun _ _ e => by cases e⟩
  | some x =>
    have hsm : xs.length ≤ 9223372036854775807 := by have := h.le; have := h.small; omega
    clear h
    obtain ⟨i0, hi, hz0, hz1, hz2⟩ := info_parts info_int
    go_enter Tryz.func87, Tryz.ntmps87
    go_wp2_with (at_builtin; refine wpList_append_own _ rfl _ _ 22 rfl w.heap.size 3 i0 (.int .i64 0) 1 8 Tryz.underlying22 hi hz0 hz1 hz2 rfl (by decide) _ _ _ rfl (World.ownsRow_made w #[] 0 (Nat.le_refl _) (Nat.zero_le _) rfl) x xs.length cap (xs.map (Value.int .i64)) rfl ?qc1 ?qc2 ?qc3 ?qc4 ?qc5 ?qc6 ?_)
    case qc1 => simp
    case qc2 =>
      intro j u hj
      have hjn : j < xs.length := by have := (List.getElem?_eq_some_iff.1 hj).1; simpa using this
      obtain ⟨b, o, e, hc, _⟩ := HH.out.at_ j hjn
      cases e
      rw [addr_add]
      have hu : u = .int .i64 xs[j] := by simpa [hjn] using hj.symm
      rw [hu]
      exact (((Ext.refl Non w).alloc _).cell (lt_of_cell hc) id).trans hc
    case qc3 => intro u hu; obtain ⟨x, _, rfl⟩ := List.mem_map.1 hu; rfl
    case qc4 => unfold maxLen; omega
    case qc5 => have := HB.out; omega
    case qc6 => simp
    intro v' w1 hown hgrow hnil
    have hown : w1.ownsRow w.heap.size 3 1 v' xs.length (xs.map (Value.int .i64)) := by simpa using hown
    obtain ⟨a', cap', rfl, hI, hf⟩ := Ints.ofOwn hown (fun x hx => by obtain ⟨j, hj, rfl⟩ := List.getElem_of_mem hx; obtain ⟨_, _, _, _, i⟩ := HH.out.at_ j hj; exact i)
    go_wp2
    go_returns
    refine ⟨a', cap', rfl, ?_, hI, hf⟩
    exact ((Ext.refl Non w).alloc _).step (Ext.ofGrown (S := fun k => k = w.heap.size) hgrow (fun k hk => .inl (by simp [Value.ownBlock] at hk; omega))) (fun i hi hS => by omega)

end Go.Proofs.YtflpkoafebjfdaaGreat

/- Contracts of layer 2 (reals), and of its reference. -/
namespace Go.Proofs.YtflpkoafebjfdaaGreat
open Go.RowKit F64
set_option linter.unusedSimpArgs false
set_option linter.unusedVariables false

@[go_sem] theorem run_frombits (n : Int) (w : World) : (callFunc 262 #[.int .u64 n]).run Tryz.prog w = .ok (.value (.float .f64 n.toNat)) w := by kernel_rfl
@[go_sem] theorem run_bits (n : Nat) (w : World) : (callFunc 173 #[.float .f64 n]).run Tryz.prog w = .ok (.value (.int .u64 n)) w := by kernel_rfl
@[go_sem] theorem sp_feq (a b : Nat) : (FloatKind.f64.format.order a b == some Ordering.eq) = feq a b := rfl
@[go_sem] theorem sp_fneq (a b : Nat) : (FloatKind.f64.format.order a b != some Ordering.eq) = !feq a b := rfl
@[go_sem] theorem sp_flt (a b : Nat) : (FloatKind.f64.format.order a b == some Ordering.lt) = flt a b := rfl

theorem reals_Canon (x : Nat) (w : World) : Calls Tryz.prog 181 #[.float .f64 x] w fun e w' => e = .returned (.float .f64 (canonN x)) ∧ w = w' := by
  have H := feq_self x
  cases hw : wild x
  · have hc : canonN x = x := by simp [canonN, hw]
    rw [hc]
    rw [hw] at H; clear hw hc
    go_enter Tryz.func181, Tryz.ntmps181
    go_wp2
    go_ret
    exact ⟨rfl, rfl⟩
  · have hc : canonN x = nanN := by simp [canonN, hw]
    rw [hc]
    rw [hw] at H; clear hw hc
    go_enter Tryz.func181, Tryz.ntmps181
    go_wp2
    go_ret
    exact ⟨rfl, rfl⟩
theorem reals_Bits (x : Nat) (w : World) : Calls Tryz.prog 108 #[.float .f64 x] w fun e w' => e = .returned (.int .u64 (canonN x)) ∧ w = w' := by
  go_enter Tryz.func108, Tryz.ntmps108
  go_wp2_with (go_at_call 181; refine (reals_Canon _ _).mono ?_; rintro e w' ⟨rfl, rfl⟩)
  go_ret
  exact ⟨rfl, rfl⟩


/-- Wild, of the reference. -/
theorem ref_Wild (n : Nat) (w : World) : Calls Tryz.prog 174 #[.int .u64 n] w fun e w' => e = .returned (.bool (wild n)) ∧ w = w' := by
  go_enter Tryz.func174, Tryz.ntmps174
  go_wp2
  all_goals
    go_ret
    exact ⟨ret_bool (by unfold wild; rw [Bool.eq_iff_iff]; simp; omega), rfl⟩
theorem ref_Bits (x : Nat) (w : World) : Calls Tryz.prog 96 #[.float .f64 x] w fun e w' => e = .returned (.int .u64 (canonN x)) ∧ w = w' := by
  unfold canonN
  cases hw : wild x
  all_goals
    go_enter Tryz.func96, Tryz.ntmps96
    go_wp2_with (go_at_call 174; refine (ref_Wild _ _).mono ?_; rintro e w' ⟨rfl, rfl⟩)
    go_ret
    exact ⟨rfl, rfl⟩
end Go.Proofs.YtflpkoafebjfdaaGreat

/- Contracts of layer 11 (deeds): which requests are right, and null. -/
namespace Go.Proofs.YtflpkoafebjfdaaGreat
open Go.RowKit F64
set_option linter.unusedSimpArgs false
set_option linter.unusedVariables false

theorem deeds_within (n lo hi : Int) (w : World) : Calls Tryz.prog 182 #[.int .i64 n, .int .i64 lo, .int .i64 hi] w fun e w' => e = .returned (.bool (withinB n lo hi)) ∧ w = w' := by
  go_enter Tryz.func182, Tryz.ntmps182
  go_wp2
  all_goals
    go_ret
    exact ⟨ret_bool (by unfold withinB; rw [Bool.eq_iff_iff]; simp; omega), rfl⟩

theorem deeds_right (k : Int) (key : ByteArray) (x : Nat) (id : Int) (w : World) : Calls Tryz.prog 263 #[.agg #[.int .i64 k, .string key, .float .f64 x, .int .i64 id]] w fun e w' => e = .returned (.bool (opB ⟨k, key, x, id⟩)) ∧ Ext Non w w' := by
  go_enter Tryz.func263, Tryz.ntmps263
  go_upto_region 1 with fail
  go_cut [3] (fun s wx => s = .bool (keyB ⟨k, key, x, id⟩) ∧ wx = w.alloc (.cells #[.int .i64 k, .string key, .float .f64 x, .int .i64 id] 35))
  case first =>
    go_wp2_with fail
    all_goals
      go_meet
      case rel => exact ⟨by congr 1; unfold keyB; rw [Bool.eq_iff_iff]; simp; omega, rfl⟩
  case rest =>
    obtain ⟨rfl, rfl⟩ := hcut
    have t1 : (((canonN x : Nat) : Int) == 0) = noneB x := by unfold noneB; rw [Bool.eq_iff_iff]; simp
    have Hn : Hid (noneB x = true ∨ noneB x = false) := Go.Lib.hid (by cases noneB x <;> simp)
    by_cases h45 : k = 4 ∨ k = 5
    · have HE : Hid (opB ⟨k, key, x, id⟩ = (noneB x && keyB ⟨k, key, x, id⟩)) := Go.Lib.hid (by unfold opB; rw [if_pos h45])
      rcases Hn.out with hn | hn
      all_goals
        have HN := Go.Lib.hid hn
        rw [hn] at t1; clear hn
        rcases h45 with h | h
        all_goals
          have HK := Go.Lib.hid h
          have k4 : (k == 4) = decide (k = 4) := rfl
          subst h
          clear k4
          go_wp2_with (go_at_call 108; refine (reals_Bits _ _).mono ?_; rintro e w' ⟨rfl, rfl⟩)
          go_ret
          exact ⟨ret_bool (by rw [HE.out, HN.out]; simp), (Ext.refl _ _).alloc _⟩
    · by_cases h123 : k = 1 ∨ k = 2 ∨ k = 3
      · have HE : Hid (opB ⟨k, key, x, id⟩ = keyB ⟨k, key, x, id⟩) := Go.Lib.hid (by unfold opB; rw [if_neg h45, if_pos h123])
        clear h45 Hn
        rcases h123 with h | h | h
        all_goals
          subst h
          go_wp2_with (go_at_call 108; refine (reals_Bits _ _).mono ?_; rintro e w' ⟨rfl, rfl⟩)
          go_ret
          exact ⟨ret_bool (by rw [HE.out]), (Ext.refl _ _).alloc _⟩
      · by_cases h67 : k = 6 ∨ k = 7
        · have HE : Hid (opB ⟨k, key, x, id⟩ = (decide (key.size = 0) && noneB x && decide (0 ≤ id) && decide (id < 16))) := Go.Lib.hid (by unfold opB; rw [if_neg h45, if_neg h123, if_pos h67])
          clear h45 h123
          by_cases hk : key.toList = []
          · have hs := (toList_nil key).1 hk
            rcases Hn.out with hn | hn
            · by_cases h0 : 0 ≤ id
              · by_cases h16 : id < 16
                · have CL : Hid ((decide (key.size = 0) && noneB x && decide (0 ≤ id) && decide (id < 16)) = true) := Go.Lib.hid (by simp [hs, hn, h0, h16])
                  rw [hn] at t1; clear hs hn
                  rcases h67 with h | h
                  all_goals
                    subst h
                    go_wp2_with (go_at_call 108; refine (reals_Bits _ _).mono ?_; rintro e w' ⟨rfl, rfl⟩)
                    go_ret
                    exact ⟨ret_bool (by rw [HE.out, CL.out] <;> first | rfl | exact decide_eq_false (by omega) | exact decide_eq_true (by omega)), (Ext.refl _ _).alloc _⟩
                · have CL : Hid ((decide (key.size = 0) && noneB x && decide (0 ≤ id) && decide (id < 16)) = false) := Go.Lib.hid (by simp [h16])
                  rw [hn] at t1; clear hs hn
                  rcases h67 with h | h
                  all_goals
                    subst h
                    go_wp2_with (go_at_call 108; refine (reals_Bits _ _).mono ?_; rintro e w' ⟨rfl, rfl⟩)
                    go_ret
                    exact ⟨ret_bool (by rw [HE.out, CL.out] <;> first | rfl | exact decide_eq_false (by omega) | exact decide_eq_true (by omega)), (Ext.refl _ _).alloc _⟩
              · have CL : Hid ((decide (key.size = 0) && noneB x && decide (0 ≤ id) && decide (id < 16)) = false) := Go.Lib.hid (by simp [h0])
                rw [hn] at t1; clear hs hn
                rcases h67 with h | h
                all_goals
                  subst h
                  go_wp2_with (go_at_call 108; refine (reals_Bits _ _).mono ?_; rintro e w' ⟨rfl, rfl⟩)
                  go_ret
                  exact ⟨ret_bool (by rw [HE.out, CL.out] <;> first | rfl | exact decide_eq_false (by omega) | exact decide_eq_true (by omega)), (Ext.refl _ _).alloc _⟩
            · have CL : Hid ((decide (key.size = 0) && noneB x && decide (0 ≤ id) && decide (id < 16)) = false) := Go.Lib.hid (by simp [hn])
              rw [hn] at t1; clear hs hn
              rcases h67 with h | h
              all_goals
                subst h
                go_wp2_with (go_at_call 108; refine (reals_Bits _ _).mono ?_; rintro e w' ⟨rfl, rfl⟩)
                go_ret
                exact ⟨ret_bool (by rw [HE.out, CL.out] <;> first | rfl | exact decide_eq_false (by omega) | exact decide_eq_true (by omega)), (Ext.refl _ _).alloc _⟩
          · have CL : Hid ((decide (key.size = 0) && noneB x && decide (0 ≤ id) && decide (id < 16)) = false) := Go.Lib.hid (by rw [toList_nil] at hk; simp [hk])
            rcases h67 with h | h
            all_goals
              subst h
              go_wp2_with (go_at_call 108; refine (reals_Bits _ _).mono ?_; rintro e w' ⟨rfl, rfl⟩)
              go_ret
              exact ⟨ret_bool (by rw [HE.out, CL.out] <;> first | rfl | exact decide_eq_false (by omega) | exact decide_eq_true (by omega)), (Ext.refl _ _).alloc _⟩
        · have HE : Hid (opB ⟨k, key, x, id⟩ = false) := Go.Lib.hid (by unfold opB; rw [if_neg h45, if_neg h123, if_neg h67])
          have k1 : (k == 1) = false := by rw [beq_eq_false_iff_ne]; omega
          have k2 : (k == 2) = false := by rw [beq_eq_false_iff_ne]; omega
          have k3 : (k == 3) = false := by rw [beq_eq_false_iff_ne]; omega
          have k4 : (k == 4) = false := by rw [beq_eq_false_iff_ne]; omega
          have k5 : (k == 5) = false := by rw [beq_eq_false_iff_ne]; omega
          have k6 : (k == 6) = false := by rw [beq_eq_false_iff_ne]; omega
          have k7 : (k == 7) = false := by rw [beq_eq_false_iff_ne]; omega
          clear h45 h123 h67
          go_wp2_with (go_at_call 108; refine (reals_Bits _ _).mono ?_; rintro e w' ⟨rfl, rfl⟩)
          go_ret
          exact ⟨ret_bool (by rw [HE.out]), (Ext.refl _ _).alloc _⟩

theorem deeds_Right (c s k : Int) (key : ByteArray) (x : Nat) (id : Int) (w : World) : Calls Tryz.prog 185 #[.agg #[.int .i64 c, .int .i64 s, .int .i64 k, .string key, .float .f64 x, .int .i64 id]] w fun e w' => e = .returned (.bool (rightB ⟨c, s, ⟨k, key, x, id⟩⟩)) ∧ Ext Non w w' := by
  have HE : Hid (rightB ⟨c, s, ⟨k, key, x, id⟩⟩ = (withinB c 1 8 && withinB s 1 1048576 && opB ⟨k, key, x, id⟩)) := Go.Lib.hid rfl
  cases h1 : withinB c 1 8
  · have H1 := Go.Lib.hid h1
    go_enter Tryz.func185, Tryz.ntmps185
    go_wp2_with (go_at_call 182; refine (deeds_within _ _ _ _).mono ?_; rintro e w' ⟨rfl, rfl⟩)
    go_ret
    exact ⟨ret_bool (by rw [HE.out, H1.out]; rfl), (Ext.refl _ _).alloc _⟩
  · cases h2 : withinB s 1 1048576
    · have H2 := Go.Lib.hid h2
      go_enter Tryz.func185, Tryz.ntmps185
      go_wp2_with (go_at_call 182; refine (deeds_within _ _ _ _).mono ?_; rintro e w' ⟨rfl, rfl⟩)
      go_ret
      exact ⟨ret_bool (by rw [HE.out, H2.out]; simp), ((Ext.refl _ _).alloc _)⟩
    · have H1 := Go.Lib.hid h1
      have H2 := Go.Lib.hid h2
      go_enter Tryz.func185, Tryz.ntmps185
      go_wp2_with (first | (go_at_call 182; refine (deeds_within _ _ _ _).mono ?_; rintro e w' ⟨rfl, rfl⟩) | (go_at_call 263; refine (deeds_right _ _ _ _ _).mono ?_; rintro e w' ⟨rfl, y⟩))
      go_ret
      exact ⟨ret_bool (by rw [HE.out, H1.out, H2.out]; simp), ((Ext.refl _ _).alloc _).trans y⟩
theorem deeds_Null (c s k : Int) (key : ByteArray) (x : Nat) (id : Int) (hc : I64 c) (hs : I64 s) (hk : I64 k) (hid : I64 id) (w : World) : Calls Tryz.prog 197 #[.agg #[.int .i64 c, .int .i64 s, .int .i64 k, .string key, .float .f64 x, .int .i64 id]] w fun e w' => e = .returned (.bool (nullB ⟨c, s, ⟨k, key, x, id⟩⟩)) ∧ Ext Non w w' := by
  have o1 := or_i64 c s hc hs
  have o2 := or_i64 _ k o1.2 hk
  have o3 := or_i64 _ id o2.2 hid
  have hor : bits .or .i64 (bits .or .i64 (bits .or .i64 c s) k) id = 0 ↔ c = 0 ∧ s = 0 ∧ k = 0 ∧ id = 0 := by
    rw [o3.1, o2.1, o1.1]; exact ⟨fun ⟨⟨⟨a, b⟩, c⟩, d⟩ => ⟨a, b, c, d⟩, fun ⟨a, b, c, d⟩ => ⟨⟨⟨a, b⟩, c⟩, d⟩⟩
  have t1 : (((canonN x : Nat) : Int) == 0) = noneB x := by unfold noneB; rw [Bool.eq_iff_iff]; simp
  have HE : Hid (nullB ⟨c, s, ⟨k, key, x, id⟩⟩ = (decide (c = 0) && decide (s = 0) && decide (k = 0) && decide (id = 0) && decide (key.size = 0) && noneB x)) := Go.Lib.hid rfl
  generalize hB : bits .or .i64 (bits .or .i64 (bits .or .i64 c s) k) id = B at hor
  clear o1 o2 o3
  by_cases hB0 : B = 0
  · have h0 := Go.Lib.hid (hor.1 hB0)
    subst hB0; clear hor
    by_cases hke : key.toList = []
    · have hs0 := Go.Lib.hid ((toList_nil key).1 hke)
      go_enter Tryz.func197, Tryz.ntmps197
      go_wp2_with (go_at_call 108; refine (reals_Bits _ _).mono ?_; rintro e w' ⟨rfl, rfl⟩)
      go_ret
      exact ⟨ret_bool (by rw [HE.out]; obtain ⟨q1, q2, q3, q4⟩ := h0.out; have q5 := hs0.out; simp [q1, q2, q3, q4, q5]), (Ext.refl _ _).alloc _⟩
    · have hs0 := Go.Lib.hid (fun h => hke ((toList_nil key).2 h))
      go_enter Tryz.func197, Tryz.ntmps197
      go_wp2
      go_ret
      exact ⟨ret_bool (by rw [HE.out, decide_eq_false hs0.out]; simp), (Ext.refl _ _).alloc _⟩
  · have h0 := Go.Lib.hid (fun h => hB0 (hor.2 h))
    have hb0 : (B == 0) = false := by rw [beq_eq_false_iff_ne]; exact hB0
    clear hor hB0
    go_enter Tryz.func197, Tryz.ntmps197
    go_wp2
    go_ret
    refine ⟨ret_bool ?_, (Ext.refl _ _).alloc _⟩
    rw [HE.out]
    have q := h0.out
    have : (decide (c = 0) && decide (s = 0) && decide (k = 0) && decide (id = 0)) = false := by
      rw [Bool.eq_false_iff]; intro h; simp only [Bool.and_eq_true, decide_eq_true_eq] at h; exact q ⟨h.1.1.1, h.1.1.2, h.1.2, h.2⟩
    rw [this]; rfl
end Go.Proofs.YtflpkoafebjfdaaGreat

/- Contracts of the reference of layer 11: which requests are right. -/
namespace Go.Proofs.YtflpkoafebjfdaaGreat
open Go.RowKit F64
set_option linter.unusedSimpArgs false
set_option linter.unusedVariables false

theorem cell_new' (w : World) (vs : Array Value) (t : TypeId) {k : Nat} {v : Value} (h : vs[k]? = some v) : (w.alloc (.cells vs t)).cell? ⟨w.heap.size, k, none⟩ = some v := by
  have e := heap_alloc_new w (.cells vs t)
  unfold World.cell?; rw [e]; exact h
theorem ref_plain (k : Int) (key : ByteArray) (x : Nat) (id : Int) (w : World) : Calls Tryz.prog 113 #[.agg #[.int .i64 k, .string key, .float .f64 x, .int .i64 id]] w fun e w' => e = .returned (.bool (noneB x)) ∧ Ext Non w w' := by
  have t1 : (((canonN x : Nat) : Int) == 0) = noneB x := by unfold noneB; rw [Bool.eq_iff_iff]; simp
  go_enter Tryz.func113, Tryz.ntmps113
  go_wp2_with (go_at_call 96; refine (ref_Bits _ _).mono ?_; rintro e w' ⟨rfl, rfl⟩)
  go_returns
  exact ⟨by rw [← t1]; rfl, (Ext.refl _ _).alloc _⟩
theorem ref_keyed (k : Int) (key : ByteArray) (x : Nat) (id : Int) (w : World) : Calls Tryz.prog 183 #[.agg #[.int .i64 k, .string key, .float .f64 x, .int .i64 id]] w fun e w' => e = .returned (.bool (keyB ⟨k, key, x, id⟩)) ∧ Ext Non w w' := by
  go_enter Tryz.func183, Tryz.ntmps183
  go_wp2
  all_goals
    go_returns
    exact ⟨ret_bool (by unfold keyB; rw [Bool.eq_iff_iff]; simp; omega), (Ext.refl _ _).alloc _⟩
theorem ref_Op (k : Int) (key : ByteArray) (x : Nat) (id : Int) (w : World) : Calls Tryz.prog 111 #[.agg #[.int .i64 k, .string key, .float .f64 x, .int .i64 id]] w fun e w' => e = .returned (.bool (opB ⟨k, key, x, id⟩)) ∧ Ext Non w w' := by
  have B0 : Ext Non w (w.alloc (.cells #[.int .i64 k, .string key, .float .f64 x, .int .i64 id] 35)) := (Ext.refl _ _).alloc _
  by_cases h45 : k = 4 ∨ k = 5
  · have HE : Hid (opB ⟨k, key, x, id⟩ = (noneB x && keyB ⟨k, key, x, id⟩)) := Go.Lib.hid (by unfold opB; rw [if_pos h45])
    cases hkb : keyB ⟨k, key, x, id⟩
    all_goals
      have HK := Go.Lib.hid hkb
      clear hkb
      rcases h45 with h | h
      all_goals
        have KK := Go.Lib.hid h
        subst h
        go_enter Tryz.func111, Tryz.ntmps111
        go_wp2_with fail
        refine (ref_keyed _ _ _ _ _).mono ?_
        rintro e w1 ⟨rfl, y⟩
        rw [HK.out]
        have cc : ∀ j v, (#[Value.int .i64 _, .string key, .float .f64 x, .int .i64 id] : Array Value)[j]? = some v → w1.cell? ⟨w.heap.size, j, none⟩ = some v := fun j v hv => (y.cell (p := ⟨w.heap.size, j, none⟩) (by simp) (fun f => f)).trans (cell_new' w _ _ hv)
        have c0 := cc 0 _ rfl; have c1 := cc 1 _ rfl; have c2 := cc 2 _ rfl; have c3 := cc 3 _ rfl
        clear cc
        first
        | (go_wp2_with fail
           refine (ref_plain _ _ _ _ _).mono ?_
           rintro e w2 ⟨rfl, y2⟩
           go_wp2
           go_returns
           exact ⟨ret_bool (by rw [HE.out, HK.out]; simp), (B0.trans y).trans y2⟩)
        | (go_wp2
           go_returns
           exact ⟨ret_bool (by rw [HE.out, HK.out]; simp), B0.trans y⟩)
  · by_cases h123 : k = 1 ∨ k = 2 ∨ k = 3
    · have HE : Hid (opB ⟨k, key, x, id⟩ = keyB ⟨k, key, x, id⟩) := Go.Lib.hid (by unfold opB; rw [if_neg h45, if_pos h123])
      clear h45
      rcases h123 with h | h | h
      all_goals
        subst h
        go_enter Tryz.func111, Tryz.ntmps111
        go_wp2_with fail
        refine (ref_keyed _ _ _ _ _).mono ?_
        rintro e w1 ⟨rfl, y⟩
        go_wp2
        go_returns
        exact ⟨ret_bool (by rw [HE.out]), B0.trans y⟩
    · by_cases h67 : k = 6 ∨ k = 7
      · have HE : Hid (opB ⟨k, key, x, id⟩ = (decide (key.size = 0) && noneB x && decide (0 ≤ id) && decide (id < 16))) := Go.Lib.hid (by unfold opB; rw [if_neg h45, if_neg h123, if_pos h67])
        clear h45 h123
        by_cases hk : key.toList = []
        · have HS := Go.Lib.hid ((toList_nil key).1 hk)
          cases hn : noneB x
          all_goals
            have HN := Go.Lib.hid hn
            clear hn
            rcases h67 with h | h
            all_goals
              subst h
              go_enter Tryz.func111, Tryz.ntmps111
              go_wp2_with fail
              refine (ref_plain _ _ _ _ _).mono ?_
              rintro e w1 ⟨rfl, y⟩
              rw [HN.out]
              have c3 : w1.cell? ⟨w.heap.size, 3, none⟩ = some (.int .i64 id) := (y.cell (p := ⟨w.heap.size, 3, none⟩) (by simp) (fun f => f)).trans (cell_new' w _ _ rfl)
              go_wp2
              all_goals
                go_returns
                exact ⟨ret_bool (by rw [HE.out, HN.out, HS.out, Bool.eq_iff_iff]; simp; try omega), B0.trans y⟩
        · have HS := Go.Lib.hid (fun h => hk ((toList_nil key).2 h))
          rcases h67 with h | h
          all_goals
            subst h
            go_enter Tryz.func111, Tryz.ntmps111
            go_wp2
            go_returns
            exact ⟨ret_bool (by rw [HE.out, decide_eq_false HS.out]; simp), B0⟩
      · have HE : Hid (opB ⟨k, key, x, id⟩ = false) := Go.Lib.hid (by unfold opB; rw [if_neg h45, if_neg h123, if_neg h67])
        have k1 : (k == 1) = false := by rw [beq_eq_false_iff_ne]; omega
        have k2 : (k == 2) = false := by rw [beq_eq_false_iff_ne]; omega
        have k3 : (k == 3) = false := by rw [beq_eq_false_iff_ne]; omega
        have k4 : (k == 4) = false := by rw [beq_eq_false_iff_ne]; omega
        have k5 : (k == 5) = false := by rw [beq_eq_false_iff_ne]; omega
        have k6 : (k == 6) = false := by rw [beq_eq_false_iff_ne]; omega
        have k7 : (k == 7) = false := by rw [beq_eq_false_iff_ne]; omega
        clear h45 h123 h67
        go_enter Tryz.func111, Tryz.ntmps111
        go_wp2
        go_returns
        exact ⟨ret_bool (by rw [HE.out]), B0⟩
theorem ref_Right (c s k : Int) (key : ByteArray) (x : Nat) (id : Int) (w : World) : Calls Tryz.prog 59 #[.agg #[.int .i64 c, .int .i64 s, .int .i64 k, .string key, .float .f64 x, .int .i64 id]] w fun e w' => e = .returned (.bool (rightB ⟨c, s, ⟨k, key, x, id⟩⟩)) ∧ Ext Non w w' := by
  have HE : Hid (rightB ⟨c, s, ⟨k, key, x, id⟩⟩ = (decide (1 ≤ c) && decide (c ≤ 8) && (decide (1 ≤ s) && decide (s ≤ 1048576)) && opB ⟨k, key, x, id⟩)) := Go.Lib.hid rfl
  by_cases hg : 1 ≤ c ∧ c ≤ 8 ∧ 1 ≤ s ∧ s ≤ 1048576
  · obtain ⟨h1, h2, h3, h4⟩ := hg
    have d1 := decide_eq_true h1; have d2 := decide_eq_true h2; have d3 := decide_eq_true h3; have d4 := decide_eq_true h4
    have HD := Go.Lib.hid (And.intro d1 (And.intro d2 (And.intro d3 d4)))
    clear d1 d2 d3 d4
    go_enter Tryz.func59, Tryz.ntmps59
    go_wp2_with fail
    refine (ref_Op _ _ _ _ _).mono ?_
    rintro e w1 ⟨rfl, y⟩
    go_wp2
    go_returns
    exact ⟨ret_bool (by obtain ⟨d1, d2, d3, d4⟩ := HD.out; rw [HE.out, d1, d2, d3, d4]; rfl), ((Ext.refl _ _).alloc _).trans y⟩
  · have HG : Hid ((decide (1 ≤ c) && decide (c ≤ 8) && (decide (1 ≤ s) && decide (s ≤ 1048576)) && opB ⟨k, key, x, id⟩) = false) := Go.Lib.hid (by
      rw [Bool.eq_false_iff]; intro h; simp only [Bool.and_eq_true, decide_eq_true_eq] at h; exact hg ⟨h.1.1.1, h.1.1.2, h.1.2.1, h.1.2.2⟩)
    by_cases h1 : 1 ≤ c
    · by_cases h2 : c ≤ 8
      · by_cases h3 : 1 ≤ s
        · have h4 : ¬ s ≤ 1048576 := fun h => hg ⟨h1, h2, h3, h⟩
          go_enter Tryz.func59, Tryz.ntmps59
          go_wp2
          go_returns
          exact ⟨ret_bool (by rw [HE.out, HG.out]), (Ext.refl _ _).alloc _⟩
        · go_enter Tryz.func59, Tryz.ntmps59
          go_wp2
          go_returns
          exact ⟨ret_bool (by rw [HE.out, HG.out]), (Ext.refl _ _).alloc _⟩
      · go_enter Tryz.func59, Tryz.ntmps59
        go_wp2
        go_returns
        exact ⟨ret_bool (by rw [HE.out, HG.out]), (Ext.refl _ _).alloc _⟩
    · go_enter Tryz.func59, Tryz.ntmps59
      go_wp2
      go_returns
      exact ⟨ret_bool (by rw [HE.out, HG.out]), (Ext.refl _ _).alloc _⟩
end Go.Proofs.YtflpkoafebjfdaaGreat
