/- Joined texts: F64. What each proves stands at its head; no conditions beside those in its theorems. -/
import Ieee.Arith
/- Plain arithmetic of the reals of layer 2: the order of two words of 64 bits, the one NaN, sums. No program in sight. -/
namespace Go.Proofs.Ytfefeepljbfcdaa.F64
open Ieee

/-- The bits of a NaN. -/
def wild (n : Nat) : Bool := decide (n % 9223372036854775808 > 9218868437227405312)
def nanN : Nat := 9221120237041090560
def canonN (n : Nat) : Nat := if wild n = true then nanN else n
def placeN (n : Nat) : Nat :=
  if wild n = true then 18446744073709551615
  else if 9223372036854775808 ≤ n then 9223372036854775807 - n % 9223372036854775808 else 9223372036854775808 + n
def fromB (n : Nat) : Bool := !(wild n && decide (n ≠ nanN))
def fromN (n : Nat) : Nat := if fromB n = true then n else 0
def lessN (a b : Nat) : Bool := decide (placeN a < placeN b)
def mostN (a b : Nat) : Nat := if lessN a b = true then canonN b else canonN a
def addN (a b : Nat) : Nat := match double.add a b with | some r => canonN r | none => nanN
def feq (a b : Nat) : Bool := double.order a b == some .eq
def flt (a b : Nat) : Bool := double.order a b == some .lt

def mag (r : Nat) : Nat := if r < 4503599627370496 then r else (4503599627370496 + r % 4503599627370496) * 2 ^ (r / 4503599627370496 - 1)

theorem mag_mono {r s : Nat} (h : r < s) : mag r < mag s := by
  unfold mag
  by_cases hr : r < 4503599627370496
  · by_cases hs : s < 4503599627370496
    · simp [hr, hs, h]
    · rw [if_pos hr, if_neg hs]
      have := Nat.two_pow_pos (s / 4503599627370496 - 1)
      have h2 : 4503599627370496 * 1 ≤ (4503599627370496 + s % 4503599627370496) * 2 ^ (s / 4503599627370496 - 1) := Nat.mul_le_mul (by omega) this
      omega
  · have hs : ¬ s < 4503599627370496 := by omega
    rw [if_neg hr, if_neg hs]
    by_cases he : r / 4503599627370496 = s / 4503599627370496
    · rw [he]
      exact Nat.mul_lt_mul_of_pos_right (by omega) (Nat.two_pow_pos _)
    · obtain ⟨d, hd⟩ : ∃ d, s / 4503599627370496 - 1 = (r / 4503599627370496 - 1) + 1 + d := ⟨s / 4503599627370496 - 1 - (r / 4503599627370496 - 1) - 1, by omega⟩
      have hp0 : 0 < 2 ^ (r / 4503599627370496 - 1) := Nat.two_pow_pos _
      rw [hd, Nat.pow_add, Nat.pow_succ]
      generalize 2 ^ (r / 4503599627370496 - 1) = p at *
      have hp : 1 ≤ 2 ^ d := Nat.two_pow_pos d
      have h1 : (4503599627370496 + r % 4503599627370496) * p < 9007199254740992 * p := Nat.mul_lt_mul_of_pos_right (by omega) hp0
      have h2 : 4503599627370496 * (p * 2 * 1) ≤ (4503599627370496 + s % 4503599627370496) * (p * 2 * 2 ^ d) := Nat.mul_le_mul (by omega) (Nat.mul_le_mul_left _ hp)
      omega

theorem mag_zero : mag 0 = 0 := rfl

def negB (x : Nat) : Bool := x / 9223372036854775808 % 2 == 1
def rung (x : Nat) : Nat := x % 9223372036854775808
def sval (x : Nat) : Int := if negB x = true then -(mag (rung x) : Int) else (mag (rung x) : Int)

theorem two63 : (2 : Nat) ^ 63 = 9223372036854775808 := by decide
theorem two52 : (2 : Nat) ^ 52 = 4503599627370496 := by decide
theorem sw : double.signWeight = 9223372036854775808 := by decide +kernel
theorem bn : double.binade = 4503599627370496 := by decide +kernel
theorem ir : double.infRung = 9218868437227405312 := by decide +kernel
theorem lp : double.leastPlace = -1074 := by decide +kernel

theorem read_eq (x : Nat) : double.read x =
    if rung x < 4503599627370496 then .number (negB x) (rung x) (-1074)
    else if rung x < 9218868437227405312 then .number (negB x) (4503599627370496 + rung x % 4503599627370496) (-1074 + (rung x / 4503599627370496 - 1 : Nat))
    else if rung x = 9218868437227405312 then .infinity (negB x) else .nan (negB x) (rung x - 9218868437227405312) := by
  unfold Format.read
  simp only [sw, bn, ir, lp]
  rfl

theorem compare_scale (a b : Int) (k : Int) (h : 0 < k) : compare (a * k) (b * k) = compare a b := by
  simp only [compare, compareOfLessAndEq]
  have h1 : a * k < b * k ↔ a < b := Int.mul_lt_mul_right h
  have h2 : a * k = b * k ↔ a = b := Int.mul_eq_mul_right_iff (by omega)
  simp only [h1, h2]

theorem signed_eq (s : Bool) (m e : Nat) : signed s m e = (if s = true then -1 else 1) * ((m : Int) * 2 ^ e) := by
  unfold signed
  cases s <;> simp [Nat.shiftLeft_eq]

theorem signed_add (s : Bool) (m e k : Nat) : signed s m (e + k) = signed s m e * 2 ^ k := by
  simp only [signed_eq, Int.pow_add]; simp only [Int.mul_assoc]

theorem order_num (s t : Bool) (m n e f : Nat) :
    Datum.order (.number s m (-1074 + e)) (.number t n (-1074 + f)) = some (compare (signed s m e) (signed t n f)) := by
  simp only [Datum.order]
  congr 1
  rcases Nat.le_total e f with h | h
  · have hm : min (-1074 + (e : Int)) (-1074 + f) = -1074 + e := by omega
    rw [hm]
    have h1 : (-1074 + (e : Int) - (-1074 + e)).toNat = 0 := by omega
    have h2 : (-1074 + (f : Int) - (-1074 + e)).toNat = f - e := by omega
    rw [h1, h2]
    have g1 := signed_add s m 0 e
    have g2 := signed_add t n (f - e) e
    rw [Nat.zero_add] at g1
    rw [show f - e + e = f by omega] at g2
    rw [g1, g2]
    exact (compare_scale _ _ _ (Int.pow_pos (by decide))).symm
  · have hm : min (-1074 + (e : Int)) (-1074 + f) = -1074 + f := by omega
    rw [hm]
    have h1 : (-1074 + (e : Int) - (-1074 + f)).toNat = e - f := by omega
    have h2 : (-1074 + (f : Int) - (-1074 + f)).toNat = 0 := by omega
    rw [h1, h2]
    have g1 := signed_add s m (e - f) f
    have g2 := signed_add t n 0 f
    rw [Nat.zero_add] at g2
    rw [show e - f + f = e by omega] at g1
    rw [g1, g2]
    exact (compare_scale _ _ _ (Int.pow_pos (by decide))).symm

theorem not_wild {x : Nat} (h : wild x = false) : rung x ≤ 9218868437227405312 := by
  unfold wild at h; unfold rung; simpa using h

/-- A finite word, as a number at its place. -/
theorem read_fin {x : Nat} (h : rung x < 9218868437227405312) :
    ∃ m e : Nat, double.read x = .number (negB x) m (-1074 + e) ∧ m * 2 ^ e = mag (rung x) := by
  rw [read_eq]
  by_cases h1 : rung x < 4503599627370496
  · rw [if_pos h1]
    exact ⟨rung x, 0, by simp, by simp [mag, h1]⟩
  · rw [if_neg h1, if_pos h]
    exact ⟨_, _, rfl, by simp [mag, h1]⟩

theorem read_inf {x : Nat} (h : rung x = 9218868437227405312) : double.read x = .infinity (negB x) := by
  rw [read_eq, if_neg (by omega), if_neg (by omega), if_pos h]

theorem read_nan {x : Nat} (h : wild x = true) : ∃ f, double.read x = .nan (negB x) f := by
  have h' : 9218868437227405312 < rung x := by unfold wild at h; unfold rung; simpa using h
  rw [read_eq, if_neg (by omega), if_neg (by omega), if_neg (by omega)]
  exact ⟨_, rfl⟩

theorem sval_signed (x m e : Nat) (h : m * 2 ^ e = mag (rung x)) : signed (negB x) m e = sval x := by
  rw [signed_eq, sval, ← h]
  cases negB x <;> simp

theorem compare_lt {a b : Int} (h : a < b) : compare a b = .lt := by simp [compare, compareOfLessAndEq, h]
theorem compare_gt {a b : Int} (h : b < a) : compare a b = .gt := by
  have h1 : ¬ a < b := by omega
  have h2 : ¬ a = b := by omega
  simp [compare, compareOfLessAndEq, h1, h2]
theorem compare_eq {a b : Int} (h : a = b) : compare a b = .eq := by simp [compare, compareOfLessAndEq, h]

theorem order_eq {a b : Nat} (ha : wild a = false) (hb : wild b = false) : double.order a b = some (compare (sval a) (sval b)) := by
  unfold Format.order
  have ra := not_wild ha
  have rb := not_wild hb
  rcases Nat.lt_or_eq_of_le ra with fa | fa
  · obtain ⟨m, e, hra, hma⟩ := read_fin fa
    rcases Nat.lt_or_eq_of_le rb with fb | fb
    · obtain ⟨n, f, hrb, hmb⟩ := read_fin fb
      rw [hra, hrb, order_num, sval_signed _ _ _ hma, sval_signed _ _ _ hmb]
    · rw [hra, read_inf fb]
      simp only [Datum.order]
      have hm : mag (rung a) < mag (rung b) := mag_mono (by omega)
      congr 1
      unfold sval
      cases hb' : negB b
      · have : (if negB a = true then -(mag (rung a) : Int) else (mag (rung a) : Int)) < (mag (rung b) : Int) := by split <;> omega
        simp only [Bool.false_eq_true, if_false]
        exact (compare_lt this).symm
      · have : -(mag (rung b) : Int) < (if negB a = true then -(mag (rung a) : Int) else (mag (rung a) : Int)) := by split <;> omega
        simp only [if_true]
        exact (compare_gt this).symm
  · rw [read_inf fa]
    rcases Nat.lt_or_eq_of_le rb with fb | fb
    · obtain ⟨n, f, hrb, hmb⟩ := read_fin fb
      rw [hrb]
      simp only [Datum.order]
      have hm : mag (rung b) < mag (rung a) := mag_mono (by omega)
      congr 1
      unfold sval
      cases ha' : negB a
      · have : (if negB b = true then -(mag (rung b) : Int) else (mag (rung b) : Int)) < (mag (rung a) : Int) := by split <;> omega
        simp only [Bool.false_eq_true, if_false]
        exact (compare_gt this).symm
      · have : -(mag (rung a) : Int) < (if negB b = true then -(mag (rung b) : Int) else (mag (rung b) : Int)) := by split <;> omega
        simp only [if_true]
        exact (compare_lt this).symm
    · rw [read_inf fb]
      simp only [Datum.order]
      congr 1
      have hpos : 0 < mag (rung a) := by rw [fa]; have : mag 0 < mag 9218868437227405312 := mag_mono (by omega); rw [mag_zero] at this; exact this
      unfold sval
      rw [fb]
      rw [fa] at *
      generalize mag 9218868437227405312 = M at *
      cases negB a <;> cases negB b
      · exact (compare_eq rfl).symm
      · exact (compare_gt (by simp only [if_true, Bool.false_eq_true, if_false]; omega)).symm
      · exact (compare_lt (by simp only [if_true, Bool.false_eq_true, if_false]; omega)).symm
      · exact (compare_eq rfl).symm

theorem order_nan_left {a b : Nat} (ha : wild a = true) : double.order a b = none := by
  obtain ⟨f, h⟩ := read_nan ha
  unfold Format.order; rw [h]; rfl
/-- x is no NaN where it is the same as itself. -/
theorem feq_self (x : Nat) : feq x x = !wild x := by
  unfold feq
  cases h : wild x
  · rw [order_eq h h, compare_eq rfl]; rfl
  · rw [order_nan_left h]; rfl

theorem feq_eq {a b : Nat} (ha : wild a = false) (hb : wild b = false) : feq a b = decide (sval a = sval b) := by
  unfold feq
  rw [order_eq ha hb]
  rcases Int.lt_trichotomy (sval a) (sval b) with h | h | h
  · rw [compare_lt h]; simp; omega
  · rw [compare_eq h]; simp [h]
  · rw [compare_gt h]; simp; omega
theorem flt_eq {a b : Nat} (ha : wild a = false) (hb : wild b = false) : flt a b = decide (sval a < sval b) := by
  unfold flt
  rw [order_eq ha hb]
  rcases Int.lt_trichotomy (sval a) (sval b) with h | h | h
  · rw [compare_lt h]; simp [h]
  · rw [compare_eq h]; simp; omega
  · rw [compare_gt h]; simp; omega

theorem sval_lt_iff {a b : Nat} (ha64 : a < 18446744073709551616) (hb64 : b < 18446744073709551616) (ha : wild a = false) (hb : wild b = false) :
    placeN a < placeN b ↔ sval a < sval b ∨ (sval a = sval b ∧ negB a = true ∧ negB b = false) := by
  have ra := not_wild ha
  have rb := not_wild hb
  unfold placeN
  rw [ha, hb]
  simp only [Bool.false_eq_true, if_false]
  have na : (negB a = true ↔ 9223372036854775808 ≤ a) := by unfold negB; simp; omega
  have nb : (negB b = true ↔ 9223372036854775808 ≤ b) := by unfold negB; simp; omega
  have nb' : (negB b = false ↔ b < 9223372036854775808) := by unfold negB; simp; omega
  have m1 : rung a < rung b → mag (rung a) < mag (rung b) := mag_mono
  have m2 : rung b < rung a → mag (rung b) < mag (rung a) := mag_mono
  have m3 : rung a = rung b → mag (rung a) = mag (rung b) := fun h => by rw [h]
  unfold sval
  simp only [na, nb, nb']
  have ea : rung a = a % 9223372036854775808 := rfl
  have eb : rung b = b % 9223372036854775808 := rfl
  rw [← ea, ← eb]
  by_cases h1 : 9223372036854775808 ≤ a <;> by_cases h2 : 9223372036854775808 ≤ b
  all_goals
    simp only [h1, h2, if_true, if_false, true_and, false_and, and_false, or_false]
    clear na nb nb'
    rcases Nat.lt_trichotomy (rung a) (rung b) with h | h | h
    · have m := m1 h; clear m1 m2 m3; omega
    · have m := m3 h; clear m1 m2 m3; omega
    · have m := m2 h; clear m1 m2 m3; omega

/-- What Less reckons is the order of the places. -/
theorem less_cases (a b : Nat) (ha64 : a < 18446744073709551616) (hb64 : b < 18446744073709551616) :
    lessN a b = (if wild a = true then false else if wild b = true then true else if feq a b = true then (negB a && !negB b) else flt a b) := by
  have hlt : ∀ x : Nat, x < 18446744073709551616 → wild x = false → placeN x < 18446744073709551615 := by
    intro x hx h
    have := not_wild h
    unfold rung at this
    unfold placeN
    rw [h]
    simp only [Bool.false_eq_true, if_false]
    split <;> omega
  unfold lessN
  cases ha : wild a
  · cases hb : wild b
    · simp only [Bool.false_eq_true, if_false]
      rw [feq_eq ha hb, flt_eq ha hb]
      have := sval_lt_iff ha64 hb64 ha hb
      simp only [this]
      rcases Int.lt_trichotomy (sval a) (sval b) with h | h | h
      · have : sval a ≠ sval b := by omega
        simp [h, this]
      · simp [h]
      · have h1 : ¬ sval a < sval b := by omega
        have h2 : sval a ≠ sval b := by omega
        simp [h1, h2]
    · have := hlt a ha64 ha
      simp only [Bool.false_eq_true, if_false, if_true]
      have hp : placeN b = 18446744073709551615 := by unfold placeN; rw [hb]; rfl
      rw [hp]; simpa using this
  · simp only [if_true]
    have hp : placeN a = 18446744073709551615 := by unfold placeN; rw [ha]; rfl
    rw [hp]
    cases hb : wild b
    · have := hlt b hb64 hb; simp; omega
    · have hp : placeN b = 18446744073709551615 := by unfold placeN; rw [hb]; rfl
      rw [hp]; simp

theorem negB_iff {x : Nat} (h : x < 18446744073709551616) : negB x = decide (9223372036854775808 ≤ x) := by
  unfold negB; rw [Bool.eq_iff_iff]; simp; omega

theorem nan_wild : wild nanN = true := by decide +kernel
theorem cut_wild (t : Nat) : wild ((t % 2) * 2 ^ 63 + 0x7ff0000000000000 + 1 + (t / 2) % (2 ^ 52 - 1)) = true := by
  have h1 : t % 2 = 0 ∨ t % 2 = 1 := by omega
  have h2 : (t / 2) % (2 ^ 52 - 1) < 2 ^ 52 - 1 := Nat.mod_lt _ (by decide)
  generalize (t / 2) % (2 ^ 52 - 1) = q at *
  rw [two52] at h2
  rw [two63]
  unfold wild
  rcases h1 with h | h <;> rw [h] <;> simp <;> omega
theorem canon_idem (x : Nat) : canonN (canonN x) = canonN x := by
  unfold canonN
  cases h : wild x
  · simp [h]
  · simp [nan_wild]
theorem canon_lt {x : Nat} (h : x < 18446744073709551616) : canonN x < 18446744073709551616 := by
  unfold canonN nanN; split <;> omega
/-! ### Sums -/
theorem word_not_wild (neg : Bool) (r : Nat) (h : r ≤ 9218868437227405312) : wild (double.word neg r) = false := by
  unfold Format.word
  rw [sw]
  unfold wild
  cases neg <;> simp <;> omega
theorem nearest_not_wild (neg : Bool) (m : Nat) (i : Int) : wild (double.nearest neg m i) = false := by
  unfold Format.nearest
  split
  · exact word_not_wild _ _ (by omega)
  · exact word_not_wild _ _ (by rw [ir]; exact Nat.min_le_right _ _)
theorem sum_not_nan {x y d : Datum} (h : x.sum y = some d) : wild (double.write d) = false := by
  have fin : ∀ d : Datum, d.isNaN = false → wild (double.write d) = false := by
    intro d hd
    cases d with
    | number s m i => exact nearest_not_wild s m i
    | infinity s => exact word_not_wild _ _ (by rw [ir]; exact Nat.le_refl _)
    | nan s f => simp [Datum.isNaN] at hd
  apply fin
  cases x <;> cases y <;> simp [Datum.sum] at h
  · subst h; rfl
  · subst h; rfl
  · subst h; rfl
  · obtain ⟨_, h⟩ := h; subst h; rfl
theorem add_not_wild {a b r : Nat} (h : double.add a b = some r) : wild r = false := by
  unfold Format.add at h
  cases hs : (double.read a).sum (double.read b) with
  | none => rw [hs] at h; simp at h
  | some d => rw [hs] at h; simp at h; subst h; exact sum_not_nan hs
theorem addN_some {a b r : Nat} (h : double.add a b = some r) : addN a b = r := by
  unfold addN; rw [h]; simp [canonN, add_not_wild h]
theorem addN_none {a b : Nat} (h : double.add a b = none) : addN a b = nanN := by
  unfold addN; rw [h]
theorem canon_addN (a b : Nat) : canonN (addN a b) = addN a b := by
  unfold addN; split
  · exact canon_idem _
  · simp [canonN]

theorem addN_lt (a b : Nat) : addN a b < 18446744073709551616 := by
  cases h : double.add a b with
  | none => rw [addN_none h]; decide
  | some r =>
    rw [addN_some h]
    have := add_not_wild h
    unfold Format.add at h
    cases hs : (double.read a).sum (double.read b) with
    | none => rw [hs] at h; simp at h
    | some d =>
      rw [hs] at h; simp at h; subst h
      have wl : ∀ (s : Bool) (r : Nat), r ≤ 9218868437227405312 → double.word s r < 18446744073709551616 := by
        intro s r hr; unfold Format.word; rw [sw]; split <;> omega
      cases d with
      | number s m i =>
        show double.nearest s m i < _
        unfold Format.nearest
        split
        · exact wl _ _ (by omega)
        · exact wl _ _ (by rw [ir]; exact Nat.min_le_right _ _)
      | infinity s => exact wl _ _ (by rw [ir]; exact Nat.le_refl _)
      | nan s f =>
        exfalso
        generalize double.read a = x at hs
        generalize double.read b = y at hs
        cases x <;> cases y <;> simp [Datum.sum] at hs

theorem mostN_lt {a b : Nat} (ha : a < 18446744073709551616) (hb : b < 18446744073709551616) : mostN a b < 18446744073709551616 := by
  unfold mostN; split
  · exact canon_lt hb
  · exact canon_lt ha
theorem canon_mostN (a b : Nat) : canonN (mostN a b) = mostN a b := by
  unfold mostN; split <;> exact canon_idem _
end Go.Proofs.Ytfefeepljbfcdaa.F64
