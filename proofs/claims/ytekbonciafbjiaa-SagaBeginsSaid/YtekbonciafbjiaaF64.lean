/- Plain arithmetic of the reals of layer 2: the order of two words of 64 bits, the one NaN, sums. No program in sight. -/
import Ieee.Arith
namespace Go.Proofs.Ytekbonciafbjiaa.F64
open Ieee

/-- The bits of a NaN. -/
def wild (n : Nat) : Bool := decide (n % 9223372036854775808 > 9218868437227405312)
def nanN : Nat := 9221120237041090560
def canonN (n : Nat) : Nat := if wild n = true then nanN else n
def placeN (n : Nat) : Nat :=
  if wild n = true then 18446744073709551615
  else if 9223372036854775808 ≤ n then 9223372036854775807 - n % 9223372036854775808 else 9223372036854775808 + n
def fromB (n : Nat) : Bool := !(wild n && decide (n ≠ nanN))
def fromN (n : Nat) : Nat := if fromB n = true then n else 0
def lessN (a b : Nat) : Bool := decide (placeN a < placeN b)
def mostN (a b : Nat) : Nat := if lessN a b = true then canonN b else canonN a
def addN (a b : Nat) : Nat := match double.add a b with | some r => canonN r | none => nanN
def feq (a b : Nat) : Bool := double.order a b == some .eq
def flt (a b : Nat) : Bool := double.order a b == some .lt

def mag (r : Nat) : Nat := if r < 4503599627370496 then r else (4503599627370496 + r % 4503599627370496) * 2 ^ (r / 4503599627370496 - 1)

theorem mag_mono {r s : Nat} (h : r < s) : mag r < mag s := by
  unfold mag
  by_cases hr : r < 4503599627370496
  · by_cases hs : s < 4503599627370496
    · simp [hr, hs, h]
    · rw [if_pos hr, if_neg hs]
      have := Nat.two_pow_pos (s / 4503599627370496 - 1)
      have h2 : 4503599627370496 * 1 ≤ (4503599627370496 + s % 4503599627370496) * 2 ^ (s / 4503599627370496 - 1) := Nat.mul_le_mul (by omega) this
      omega
  · have hs : ¬ s < 4503599627370496 := by omega
    rw [if_neg hr, if_neg hs]
    by_cases he : r / 4503599627370496 = s / 4503599627370496
    · rw [he]
      exact Nat.mul_lt_mul_of_pos_right (by omega) (Nat.two_pow_pos _)
    · obtain ⟨d, hd⟩ : ∃ d, s / 4503599627370496 - 1 = (r / 4503599627370496 - 1) + 1 + d := ⟨s / 4503599627370496 - 1 - (r / 4503599627370496 - 1) - 1, by omega⟩
      have hp0 : 0 < 2 ^ (r / 4503599627370496 - 1) := Nat.two_pow_pos _
      rw [hd, Nat.pow_add, Nat.pow_succ]
      generalize 2 ^ (r / 4503599627370496 - 1) = p at *
      have hp : 1 ≤ 2 ^ d := Nat.two_pow_pos d
      have h1 : (4503599627370496 + r % 4503599627370496) * p < 9007199254740992 * p := Nat.mul_lt_mul_of_pos_right (by omega) hp0
      have h2 : 4503599627370496 * (p * 2 * 1) ≤ (4503599627370496 + s % 4503599627370496) * (p * 2 * 2 ^ d) := Nat.mul_le_mul (by omega) (Nat.mul_le_mul_left _ hp)
      omega

theorem mag_le {r s : Nat} (h : r ≤ s) : mag r ≤ mag s := by
  rcases Nat.lt_or_eq_of_le h with h | h
  · exact Nat.le_of_lt (mag_mono h)
  · rw [h]; exact Nat.le_refl _
theorem mag_zero : mag 0 = 0 := rfl

def negB (x : Nat) : Bool := x / 9223372036854775808 % 2 == 1
def rung (x : Nat) : Nat := x % 9223372036854775808
def sval (x : Nat) : Int := if negB x = true then -(mag (rung x) : Int) else (mag (rung x) : Int)

/-- A datum with its exact value, in units of the least place. -/
def scaled : Datum → Option (Bool × Nat × Nat)
  | .number s m i => if -1074 ≤ i then some (s, m, (i + 1074).toNat) else none
  | _ => none

theorem two63 : (2 : Nat) ^ 63 = 9223372036854775808 := by decide
theorem two52 : (2 : Nat) ^ 52 = 4503599627370496 := by decide
theorem sw : double.signWeight = 9223372036854775808 := by decide +kernel
theorem bn : double.binade = 4503599627370496 := by decide +kernel
theorem ir : double.infRung = 9218868437227405312 := by decide +kernel
theorem lp : double.leastPlace = -1074 := by decide +kernel

theorem read_eq (x : Nat) : double.read x =
    if rung x < 4503599627370496 then .number (negB x) (rung x) (-1074)
    else if rung x < 9218868437227405312 then .number (negB x) (4503599627370496 + rung x % 4503599627370496) (-1074 + (rung x / 4503599627370496 - 1 : Nat))
    else if rung x = 9218868437227405312 then .infinity (negB x) else .nan (negB x) (rung x - 9218868437227405312) := by
  unfold Format.read
  simp only [sw, bn, ir, lp]
  rfl

theorem compare_scale (a b : Int) (k : Int) (h : 0 < k) : compare (a * k) (b * k) = compare a b := by
  simp only [compare, compareOfLessAndEq]
  have h1 : a * k < b * k ↔ a < b := Int.mul_lt_mul_right h
  have h2 : a * k = b * k ↔ a = b := Int.mul_eq_mul_right_iff (by omega)
  simp only [h1, h2]

theorem signed_eq (s : Bool) (m e : Nat) : signed s m e = (if s = true then -1 else 1) * ((m : Int) * 2 ^ e) := by
  unfold signed
  cases s <;> simp [Nat.shiftLeft_eq]

theorem signed_add (s : Bool) (m e k : Nat) : signed s m (e + k) = signed s m e * 2 ^ k := by
  simp only [signed_eq, Int.pow_add]; simp only [Int.mul_assoc]

theorem order_num (s t : Bool) (m n e f : Nat) :
    Datum.order (.number s m (-1074 + e)) (.number t n (-1074 + f)) = some (compare (signed s m e) (signed t n f)) := by
  simp only [Datum.order]
  congr 1
  rcases Nat.le_total e f with h | h
  · have hm : min (-1074 + (e : Int)) (-1074 + f) = -1074 + e := by omega
    rw [hm]
    have h1 : (-1074 + (e : Int) - (-1074 + e)).toNat = 0 := by omega
    have h2 : (-1074 + (f : Int) - (-1074 + e)).toNat = f - e := by omega
    rw [h1, h2]
    have g1 := signed_add s m 0 e
    have g2 := signed_add t n (f - e) e
    rw [Nat.zero_add] at g1
    rw [show f - e + e = f by omega] at g2
    rw [g1, g2]
    exact (compare_scale _ _ _ (Int.pow_pos (by decide))).symm
  · have hm : min (-1074 + (e : Int)) (-1074 + f) = -1074 + f := by omega
    rw [hm]
    have h1 : (-1074 + (e : Int) - (-1074 + f)).toNat = e - f := by omega
    have h2 : (-1074 + (f : Int) - (-1074 + f)).toNat = 0 := by omega
    rw [h1, h2]
    have g1 := signed_add s m (e - f) f
    have g2 := signed_add t n 0 f
    rw [Nat.zero_add] at g2
    rw [show e - f + f = e by omega] at g1
    rw [g1, g2]
    exact (compare_scale _ _ _ (Int.pow_pos (by decide))).symm

theorem not_wild {x : Nat} (h : wild x = false) : rung x ≤ 9218868437227405312 := by
  unfold wild at h; unfold rung; simpa using h

/-- A finite word, as a number at its place. -/
theorem read_fin {x : Nat} (h : rung x < 9218868437227405312) :
    ∃ m e : Nat, double.read x = .number (negB x) m (-1074 + e) ∧ m * 2 ^ e = mag (rung x) := by
  rw [read_eq]
  by_cases h1 : rung x < 4503599627370496
  · rw [if_pos h1]
    exact ⟨rung x, 0, by simp, by simp [mag, h1]⟩
  · rw [if_neg h1, if_pos h]
    exact ⟨_, _, rfl, by simp [mag, h1]⟩

theorem read_inf {x : Nat} (h : rung x = 9218868437227405312) : double.read x = .infinity (negB x) := by
  rw [read_eq, if_neg (by omega), if_neg (by omega), if_pos h]

theorem read_nan {x : Nat} (h : wild x = true) : ∃ f, double.read x = .nan (negB x) f := by
  have h' : 9218868437227405312 < rung x := by unfold wild at h; unfold rung; simpa using h
  rw [read_eq, if_neg (by omega), if_neg (by omega), if_neg (by omega)]
  exact ⟨_, rfl⟩

theorem sval_signed (x m e : Nat) (h : m * 2 ^ e = mag (rung x)) : signed (negB x) m e = sval x := by
  rw [signed_eq, sval, ← h]
  cases negB x <;> simp

theorem compare_lt {a b : Int} (h : a < b) : compare a b = .lt := by simp [compare, compareOfLessAndEq, h]
theorem compare_gt {a b : Int} (h : b < a) : compare a b = .gt := by
  have h1 : ¬ a < b := by omega
  have h2 : ¬ a = b := by omega
  simp [compare, compareOfLessAndEq, h1, h2]
theorem compare_eq {a b : Int} (h : a = b) : compare a b = .eq := by simp [compare, compareOfLessAndEq, h]

theorem order_eq {a b : Nat} (ha : wild a = false) (hb : wild b = false) : double.order a b = some (compare (sval a) (sval b)) := by
  unfold Format.order
  have ra := not_wild ha
  have rb := not_wild hb
  rcases Nat.lt_or_eq_of_le ra with fa | fa
  · obtain ⟨m, e, hra, hma⟩ := read_fin fa
    rcases Nat.lt_or_eq_of_le rb with fb | fb
    · obtain ⟨n, f, hrb, hmb⟩ := read_fin fb
      rw [hra, hrb, order_num, sval_signed _ _ _ hma, sval_signed _ _ _ hmb]
    · rw [hra, read_inf fb]
      simp only [Datum.order]
      have hm : mag (rung a) < mag (rung b) := mag_mono (by omega)
      congr 1
      unfold sval
      cases hb' : negB b
      · have : (if negB a = true then -(mag (rung a) : Int) else (mag (rung a) : Int)) < (mag (rung b) : Int) := by split <;> omega
        simp only [Bool.false_eq_true, if_false]
        exact (compare_lt this).symm
      · have : -(mag (rung b) : Int) < (if negB a = true then -(mag (rung a) : Int) else (mag (rung a) : Int)) := by split <;> omega
        simp only [if_true]
        exact (compare_gt this).symm
  · rw [read_inf fa]
    rcases Nat.lt_or_eq_of_le rb with fb | fb
    · obtain ⟨n, f, hrb, hmb⟩ := read_fin fb
      rw [hrb]
      simp only [Datum.order]
      have hm : mag (rung b) < mag (rung a) := mag_mono (by omega)
      congr 1
      unfold sval
      cases ha' : negB a
      · have : (if negB b = true then -(mag (rung b) : Int) else (mag (rung b) : Int)) < (mag (rung a) : Int) := by split <;> omega
        simp only [Bool.false_eq_true, if_false]
        exact (compare_gt this).symm
      · have : -(mag (rung a) : Int) < (if negB b = true then -(mag (rung b) : Int) else (mag (rung b) : Int)) := by split <;> omega
        simp only [if_true]
        exact (compare_lt this).symm
    · rw [read_inf fb]
      simp only [Datum.order]
      congr 1
      have hpos : 0 < mag (rung a) := by rw [fa]; have : mag 0 < mag 9218868437227405312 := mag_mono (by omega); rw [mag_zero] at this; exact this
      unfold sval
      rw [fb]
      rw [fa] at *
      generalize mag 9218868437227405312 = M at *
      cases negB a <;> cases negB b
      · exact (compare_eq rfl).symm
      · exact (compare_gt (by simp only [if_true, Bool.false_eq_true, if_false]; omega)).symm
      · exact (compare_lt (by simp only [if_true, Bool.false_eq_true, if_false]; omega)).symm
      · exact (compare_eq rfl).symm

theorem order_nan_left {a b : Nat} (ha : wild a = true) : double.order a b = none := by
  obtain ⟨f, h⟩ := read_nan ha
  unfold Format.order; rw [h]; rfl
theorem order_nan_right {a b : Nat} (hb : wild b = true) : double.order a b = none := by
  obtain ⟨f, h⟩ := read_nan hb
  unfold Format.order; rw [h]
  cases double.read a <;> rfl

/-- x is no NaN where it is the same as itself. -/
theorem feq_self (x : Nat) : feq x x = !wild x := by
  unfold feq
  cases h : wild x
  · rw [order_eq h h, compare_eq rfl]; rfl
  · rw [order_nan_left h]; rfl

theorem feq_eq {a b : Nat} (ha : wild a = false) (hb : wild b = false) : feq a b = decide (sval a = sval b) := by
  unfold feq
  rw [order_eq ha hb]
  rcases Int.lt_trichotomy (sval a) (sval b) with h | h | h
  · rw [compare_lt h]; simp; omega
  · rw [compare_eq h]; simp [h]
  · rw [compare_gt h]; simp; omega
theorem flt_eq {a b : Nat} (ha : wild a = false) (hb : wild b = false) : flt a b = decide (sval a < sval b) := by
  unfold flt
  rw [order_eq ha hb]
  rcases Int.lt_trichotomy (sval a) (sval b) with h | h | h
  · rw [compare_lt h]; simp [h]
  · rw [compare_eq h]; simp; omega
  · rw [compare_gt h]; simp; omega

theorem sval_lt_iff {a b : Nat} (ha64 : a < 18446744073709551616) (hb64 : b < 18446744073709551616) (ha : wild a = false) (hb : wild b = false) :
    placeN a < placeN b ↔ sval a < sval b ∨ (sval a = sval b ∧ negB a = true ∧ negB b = false) := by
  have ra := not_wild ha
  have rb := not_wild hb
  unfold placeN
  rw [ha, hb]
  simp only [Bool.false_eq_true, if_false]
  have na : (negB a = true ↔ 9223372036854775808 ≤ a) := by unfold negB; simp; omega
  have nb : (negB b = true ↔ 9223372036854775808 ≤ b) := by unfold negB; simp; omega
  have nb' : (negB b = false ↔ b < 9223372036854775808) := by unfold negB; simp; omega
  have m1 : rung a < rung b → mag (rung a) < mag (rung b) := mag_mono
  have m2 : rung b < rung a → mag (rung b) < mag (rung a) := mag_mono
  have m3 : rung a = rung b → mag (rung a) = mag (rung b) := fun h => by rw [h]
  unfold sval
  simp only [na, nb, nb']
  have ea : rung a = a % 9223372036854775808 := rfl
  have eb : rung b = b % 9223372036854775808 := rfl
  rw [← ea, ← eb]
  by_cases h1 : 9223372036854775808 ≤ a <;> by_cases h2 : 9223372036854775808 ≤ b
  all_goals
    simp only [h1, h2, if_true, if_false, true_and, false_and, and_false, or_false]
    clear na nb nb'
    rcases Nat.lt_trichotomy (rung a) (rung b) with h | h | h
    · have m := m1 h; clear m1 m2 m3; omega
    · have m := m3 h; clear m1 m2 m3; omega
    · have m := m2 h; clear m1 m2 m3; omega

/-- What Less reckons is the order of the places. -/
theorem less_cases (a b : Nat) (ha64 : a < 18446744073709551616) (hb64 : b < 18446744073709551616) :
    lessN a b = (if wild a = true then false else if wild b = true then true else if feq a b = true then (negB a && !negB b) else flt a b) := by
  have hlt : ∀ x : Nat, x < 18446744073709551616 → wild x = false → placeN x < 18446744073709551615 := by
    intro x hx h
    have := not_wild h
    unfold rung at this
    unfold placeN
    rw [h]
    simp only [Bool.false_eq_true, if_false]
    split <;> omega
  unfold lessN
  cases ha : wild a
  · cases hb : wild b
    · simp only [Bool.false_eq_true, if_false]
      rw [feq_eq ha hb, flt_eq ha hb]
      have := sval_lt_iff ha64 hb64 ha hb
      simp only [this]
      rcases Int.lt_trichotomy (sval a) (sval b) with h | h | h
      · have : sval a ≠ sval b := by omega
        simp [h, this]
      · simp [h]
      · have h1 : ¬ sval a < sval b := by omega
        have h2 : sval a ≠ sval b := by omega
        simp [h1, h2]
    · have := hlt a ha64 ha
      simp only [Bool.false_eq_true, if_false, if_true]
      have hp : placeN b = 18446744073709551615 := by unfold placeN; rw [hb]; rfl
      rw [hp]; simpa using this
  · simp only [if_true]
    have hp : placeN a = 18446744073709551615 := by unfold placeN; rw [ha]; rfl
    rw [hp]
    cases hb : wild b
    · have := hlt b hb64 hb; simp; omega
    · have hp : placeN b = 18446744073709551615 := by unfold placeN; rw [hb]; rfl
      rw [hp]; simp

theorem negB_iff {x : Nat} (h : x < 18446744073709551616) : negB x = decide (9223372036854775808 ≤ x) := by
  unfold negB; rw [Bool.eq_iff_iff]; simp; omega

theorem nan_wild : wild nanN = true := by decide +kernel
theorem cut_wild (t : Nat) : wild ((t % 2) * 2 ^ 63 + 0x7ff0000000000000 + 1 + (t / 2) % (2 ^ 52 - 1)) = true := by
  have h1 : t % 2 = 0 ∨ t % 2 = 1 := by omega
  have h2 : (t / 2) % (2 ^ 52 - 1) < 2 ^ 52 - 1 := Nat.mod_lt _ (by decide)
  generalize (t / 2) % (2 ^ 52 - 1) = q at *
  rw [two52] at h2
  rw [two63]
  unfold wild
  rcases h1 with h | h <;> rw [h] <;> simp <;> omega
theorem canon_idem (x : Nat) : canonN (canonN x) = canonN x := by
  unfold canonN
  cases h : wild x
  · simp [h]
  · simp [nan_wild]
theorem canon_lt {x : Nat} (h : x < 18446744073709551616) : canonN x < 18446744073709551616 := by
  unfold canonN nanN; split <;> omega
theorem wild_canon (x : Nat) : wild (canonN x) = wild x := by
  unfold canonN
  cases h : wild x
  · simp [h]
  · simp [nan_wild]
theorem place_canon (x : Nat) : placeN (canonN x) = placeN x := by
  unfold canonN
  cases h : wild x
  · simp
  · simp [placeN, nan_wild, h]

theorem place_inj {a b : Nat} (ha64 : a < 18446744073709551616) (hb64 : b < 18446744073709551616) : placeN a = placeN b ↔ canonN a = canonN b := by
  constructor
  · intro h
    unfold placeN at h
    unfold canonN
    cases ha : wild a <;> cases hb : wild b <;> simp only [ha, hb, Bool.false_eq_true, if_false, if_true] at h ⊢
    · split at h <;> split at h <;> omega
    · have := not_wild ha; unfold rung at this; split at h <;> omega
    · have := not_wild hb; unfold rung at this; split at h <;> omega
  · intro h
    rw [← place_canon a, ← place_canon b, h]

/-! ### Sums -/
theorem word_not_wild (neg : Bool) (r : Nat) (h : r ≤ 9218868437227405312) : wild (double.word neg r) = false := by
  unfold Format.word
  rw [sw]
  unfold wild
  cases neg <;> simp <;> omega
theorem nearest_not_wild (neg : Bool) (m : Nat) (i : Int) : wild (double.nearest neg m i) = false := by
  unfold Format.nearest
  split
  · exact word_not_wild _ _ (by omega)
  · exact word_not_wild _ _ (by rw [ir]; exact Nat.min_le_right _ _)
theorem sum_not_nan {x y d : Datum} (h : x.sum y = some d) : wild (double.write d) = false := by
  have fin : ∀ d : Datum, d.isNaN = false → wild (double.write d) = false := by
    intro d hd
    cases d with
    | number s m i => exact nearest_not_wild s m i
    | infinity s => exact word_not_wild _ _ (by rw [ir]; exact Nat.le_refl _)
    | nan s f => simp [Datum.isNaN] at hd
  apply fin
  cases x <;> cases y <;> simp [Datum.sum] at h
  · subst h; rfl
  · subst h; rfl
  · subst h; rfl
  · obtain ⟨_, h⟩ := h; subst h; rfl
theorem add_not_wild {a b r : Nat} (h : double.add a b = some r) : wild r = false := by
  unfold Format.add at h
  cases hs : (double.read a).sum (double.read b) with
  | none => rw [hs] at h; simp at h
  | some d => rw [hs] at h; simp at h; subst h; exact sum_not_nan hs
theorem sum_comm (x y : Datum) : x.sum y = y.sum x := by
  cases x with
  | number s m i =>
    cases y with
    | number t n j =>
      simp only [Datum.sum]
      rw [Int.min_comm i j, Int.add_comm (signed s m _), Bool.and_comm]
    | infinity t => rfl
    | nan t f => rfl
  | infinity s =>
    cases y with
    | number t n j => rfl
    | infinity t => simp only [Datum.sum]; cases s <;> cases t <;> rfl
    | nan t f => rfl
  | nan s f => cases y <;> rfl
theorem add_comm (a b : Nat) : double.add a b = double.add b a := by
  unfold Format.add; rw [sum_comm]
theorem addN_comm (a b : Nat) : addN a b = addN b a := by unfold addN; rw [add_comm]
theorem addN_some {a b r : Nat} (h : double.add a b = some r) : addN a b = r := by
  unfold addN; rw [h]; simp [canonN, add_not_wild h]
theorem addN_none {a b : Nat} (h : double.add a b = none) : addN a b = nanN := by
  unfold addN; rw [h]
theorem addN_wild {a b : Nat} : wild (addN a b) = (double.add a b).isNone := by
  cases h : double.add a b with
  | none => rw [addN_none h]; exact nan_wild
  | some r => rw [addN_some h]; exact add_not_wild h
theorem canon_addN (a b : Nat) : canonN (addN a b) = addN a b := by
  unfold addN; split
  · exact canon_idem _
  · simp [canonN]

def infB (x : Nat) : Bool := rung x == 9218868437227405312
theorem add_none_iff (a b : Nat) : (double.add a b).isNone = (wild a || wild b || (infB a && infB b && (negB a != negB b))) := by
  have hd : ∀ x : Nat, wild x = false → infB x = true → double.read x = .infinity (negB x) := fun x _ h => read_inf (by simpa [infB] using h)
  have hf : ∀ x : Nat, wild x = false → infB x = false → ∃ m e : Nat, double.read x = .number (negB x) m (-1074 + e) ∧ m * 2 ^ e = mag (rung x) := by
    intro x h1 h2
    have := not_wild h1
    have h2 : rung x ≠ 9218868437227405312 := by simpa [infB] using h2
    exact read_fin (by omega)
  have hw : ∀ x : Nat, wild x = true → infB x = false := by
    intro x h; unfold wild at h; unfold infB rung; simp at h ⊢; omega
  unfold Format.add
  cases ha : wild a
  · cases hb : wild b
    · cases ia : infB a <;> cases ib : infB b
      · obtain ⟨m, e, h1, _⟩ := hf a ha ia; obtain ⟨n, f, h2, _⟩ := hf b hb ib
        rw [h1, h2]; rfl
      · obtain ⟨m, e, h1, _⟩ := hf a ha ia
        rw [h1, hd b hb ib]; rfl
      · obtain ⟨n, f, h2, _⟩ := hf b hb ib
        rw [h2, hd a ha ia]; rfl
      · rw [hd a ha ia, hd b hb ib]
        simp only [Datum.sum]
        cases negB a <;> cases negB b <;> rfl
    · obtain ⟨f, h⟩ := read_nan hb
      rw [h]
      cases double.read a <;> rfl
  · obtain ⟨f, h⟩ := read_nan ha
    rw [h]; rfl

theorem cut_exact (neg : Bool) (q d : Nat) (hq : 0 < q) : Toward.even.cut neg (q * 2 ^ d) d = q := by
  have hl : d ≤ (q * 2 ^ d).log2 := by
    rw [Nat.le_log2 (by have := Nat.mul_pos hq (Nat.two_pow_pos d); omega)]
    exact Nat.le_mul_of_pos_left _ hq
  unfold Toward.cut
  have hm : min d ((q * 2 ^ d).log2 + 2) = d := by omega
  rw [hm]
  have hg : (1 <<< d : Nat) = 2 ^ d := by rw [Nat.one_shiftLeft]
  simp only [hg, Nat.mul_mod_left, Nat.mul_div_cancel _ (Nat.two_pow_pos d)]
  have : 0 < 2 ^ d := Nat.two_pow_pos d
  simp

theorem word_read (x : Nat) (h : x < 18446744073709551616) : double.word (negB x) (rung x) = x := by
  unfold Format.word
  rw [sw, negB_iff h]
  unfold rung
  simp only [decide_eq_true_eq]
  split <;> omega

theorem log2_of {m e : Nat} (h1 : 4503599627370496 ≤ m) (h2 : m < 9007199254740992) : (m * 2 ^ e).log2 = 52 + e := by
  have hp := Nat.two_pow_pos e
  have h52 : (2 : Nat) ^ 52 = 4503599627370496 := two52
  have h53 : (2 : Nat) ^ 53 = 9007199254740992 := by decide
  have hne : m * 2 ^ e ≠ 0 := by have := Nat.mul_pos (show 0 < m by omega) hp; omega
  rw [Nat.log2_eq_iff hne]
  constructor
  · rw [Nat.pow_add, h52]; exact Nat.mul_le_mul_right _ h1
  · rw [show 52 + e + 1 = 53 + e by omega, Nat.pow_add, h53]; exact Nat.mul_lt_mul_of_pos_right h2 hp

/-- A finite word is written again as it was read, from whatever place below. -/
theorem nearest_mag (x : Nat) (h : x < 18446744073709551616) (hf : rung x < 9218868437227405312) :
    double.nearest (negB x) (mag (rung x)) (-1074) = x := by
  unfold Format.nearest
  by_cases h0 : rung x = 0
  · rw [if_pos (by rw [h0]; rfl)]
    have := word_read x h
    rw [h0] at this; exact this
  · have hpos : 0 < mag (rung x) := by have : mag 0 < mag (rung x) := mag_mono (by omega); rw [mag_zero] at this; exact this
    rw [if_neg (by omega)]
    rw [lp, bn, ir]
    have fb : ((double.fractionBits : Nat) : Int) = 52 := by decide
    rw [fb]
    have wr := word_read x h
    by_cases h1 : rung x < 4503599627370496
    · have em : mag (rung x) = rung x := by simp [mag, h1]
      rw [em]
      have hl : (rung x).log2 < 52 := (Nat.log2_lt h0).2 (by rw [two52]; exact h1)
      have hlast : max (-1074 + ((rung x).log2 : Int) - 52) (-1074) = -1074 := by omega
      simp only [hlast]
      have e0 : ((-1074 : Int) - -1074).toNat = 0 := by decide
      rw [e0]
      have hc := cut_exact (negB x) (rung x) 0 (by omega)
      simp only [Nat.pow_zero, Nat.mul_one] at hc
      rw [Nat.shiftLeft_zero, hc, Nat.zero_mul, Nat.zero_add, Nat.min_eq_left (by omega)]
      exact wr
    · obtain ⟨e, he⟩ : ∃ e, rung x / 4503599627370496 = e + 1 := ⟨rung x / 4503599627370496 - 1, by omega⟩
      have em : mag (rung x) = (4503599627370496 + rung x % 4503599627370496) * 2 ^ e := by
        unfold mag; rw [if_neg h1, he]; rfl
      rw [em, log2_of (by omega) (by omega)]
      have hlast : max (-1074 + ((52 + e : Nat) : Int) - 52) (-1074) = -1074 + e := by omega
      simp only [hlast]
      have e0 : ((-1074 : Int) - (-1074 + e)).toNat = 0 := by omega
      have e1 : ((-1074 : Int) + e - -1074).toNat = e := by omega
      rw [e0, e1, Nat.shiftLeft_zero, cut_exact _ _ _ (by omega)]
      have hr : e * 4503599627370496 + (4503599627370496 + rung x % 4503599627370496) = rung x := by omega
      rw [hr, Nat.min_eq_left (by omega)]
      exact wr

/-- -0 added changes no real. -/
theorem add_minus_zero (x : Nat) (h : x < 18446744073709551616) (hw : wild x = false) : double.add x 9223372036854775808 = some x := by
  have hz : double.read 9223372036854775808 = .number true 0 (-1074) := by decide +kernel
  unfold Format.add
  rw [hz]
  have hr := not_wild hw
  rcases Nat.lt_or_eq_of_le hr with hf | hf
  · obtain ⟨m, e, h1, h2⟩ := read_fin hf
    rw [h1]
    simp only [Datum.sum]
    have hm : min (-1074 + (e : Int)) (-1074) = -1074 := by omega
    have e1 : (-1074 + (e : Int) - -1074).toNat = e := by omega
    have e0 : ((-1074 : Int) - -1074).toNat = 0 := by decide
    rw [hm, e1, e0]
    have hs : signed true 0 0 = 0 := by decide
    rw [hs, Int.add_zero, sval_signed _ _ _ h2]
    have ha : (sval x).natAbs = mag (rung x) := by unfold sval; split <;> omega
    rw [ha]
    have hsign : (if sval x = 0 then negB x && true else decide (sval x < 0)) = negB x := by
      split
      · simp
      · rename_i hne
        unfold sval at hne ⊢
        cases hn : negB x
        · rw [hn] at hne; simp at hne ⊢
        · rw [hn] at hne; simp at hne ⊢; omega
    rw [hsign]
    show some (double.nearest _ _ _) = _
    rw [nearest_mag x h hf]
  · rw [read_inf hf]
    simp only [Datum.sum, Option.map_some]
    congr 1
    have := word_read x h
    rw [hf] at this
    show double.word (negB x) double.infRung = x
    rw [ir]; exact this

theorem addN_minus_zero (x : Nat) (h : x < 18446744073709551616) : addN x 9223372036854775808 = canonN x := by
  cases hw : wild x
  · rw [addN_some (add_minus_zero x h hw)]; simp [canonN, hw]
  · have : (double.add x 9223372036854775808).isNone = true := by rw [add_none_iff, hw]; rfl
    rw [addN_none (by simpa using this)]; simp [canonN, hw]
theorem addN_lt (a b : Nat) : addN a b < 18446744073709551616 := by
  cases h : double.add a b with
  | none => rw [addN_none h]; decide
  | some r =>
    rw [addN_some h]
    have := add_not_wild h
    unfold Format.add at h
    cases hs : (double.read a).sum (double.read b) with
    | none => rw [hs] at h; simp at h
    | some d =>
      rw [hs] at h; simp at h; subst h
      have wl : ∀ (s : Bool) (r : Nat), r ≤ 9218868437227405312 → double.word s r < 18446744073709551616 := by
        intro s r hr; unfold Format.word; rw [sw]; split <;> omega
      cases d with
      | number s m i =>
        show double.nearest s m i < _
        unfold Format.nearest
        split
        · exact wl _ _ (by omega)
        · exact wl _ _ (by rw [ir]; exact Nat.min_le_right _ _)
      | infinity s => exact wl _ _ (by rw [ir]; exact Nat.le_refl _)
      | nan s f =>
        exfalso
        generalize double.read a = x at hs
        generalize double.read b = y at hs
        cases x <;> cases y <;> simp [Datum.sum] at hs

/-! ### The greater one -/
theorem lessN_trans {a b c : Nat} (h1 : lessN a b = true) (h2 : lessN b c = true) : lessN a c = true := by
  unfold lessN at *; simp at *; omega
theorem place_mostN (a b : Nat) : placeN (mostN a b) = max (placeN a) (placeN b) := by
  unfold mostN lessN
  simp only [decide_eq_true_eq]
  split <;> rw [place_canon] <;> omega
theorem mostN_lt {a b : Nat} (ha : a < 18446744073709551616) (hb : b < 18446744073709551616) : mostN a b < 18446744073709551616 := by
  unfold mostN; split
  · exact canon_lt hb
  · exact canon_lt ha
theorem canon_mostN (a b : Nat) : canonN (mostN a b) = mostN a b := by
  unfold mostN; split <;> exact canon_idem _
theorem mostN_comm {a b : Nat} (ha : a < 18446744073709551616) (hb : b < 18446744073709551616) : mostN a b = mostN b a := by
  have := (place_inj (mostN_lt ha hb) (mostN_lt hb ha)).1 (by rw [place_mostN, place_mostN]; omega)
  rwa [canon_mostN, canon_mostN] at this
theorem mostN_assoc {a b c : Nat} (ha : a < 18446744073709551616) (hb : b < 18446744073709551616) (hc : c < 18446744073709551616) : mostN (mostN a b) c = mostN a (mostN b c) := by
  have := (place_inj (mostN_lt (mostN_lt ha hb) hc) (mostN_lt ha (mostN_lt hb hc))).1 (by simp only [place_mostN]; omega)
  rwa [canon_mostN, canon_mostN] at this

/-! ### What the laws close with -/
theorem dec_beq (x y : Nat) : (decide (x = y) == ((x : Int) == (y : Int))) = true := by
  by_cases h : x = y
  · subst h; simp
  · have h' : ¬ ((x : Int) = (y : Int)) := by omega
    rw [decide_eq_false h, beq_eq_false_iff_ne.2 h']; rfl
theorem lessN_irr (a b : Nat) : lessN a b = true → lessN b a = false ∧ decide (canonN a = canonN b) = false := by
  intro h
  have hp := place_canon a
  have hq := place_canon b
  unfold lessN at *
  simp only [decide_eq_true_eq, decide_eq_false_iff_not] at *
  refine ⟨by omega, fun e => ?_⟩
  rw [e] at hp; omega
theorem less_tri (a b : Nat) (ha : a < 18446744073709551616) (hb : b < 18446744073709551616) :
    (lessN a b = true ∧ lessN b a = false ∧ decide (canonN a = canonN b) = false) ∨ (lessN a b = false ∧ lessN b a = true ∧ decide (canonN a = canonN b) = false) ∨
    (lessN a b = false ∧ lessN b a = false ∧ decide (canonN a = canonN b) = true) := by
  cases h1 : lessN a b
  · cases h2 : lessN b a
    · right; right
      refine ⟨rfl, rfl, ?_⟩
      have := place_inj ha hb
      unfold lessN at h1 h2
      simp only [decide_eq_false_iff_not, decide_eq_true_eq] at *
      exact this.1 (by omega)
    · have := lessN_irr b a h2
      right; left
      refine ⟨rfl, rfl, ?_⟩
      have h := this.2
      simp only [decide_eq_false_iff_not] at *
      exact fun e => h e.symm
  · have := lessN_irr a b h1
    left; exact ⟨rfl, this.1, this.2⟩
theorem less_same {a b : Nat} (c : Nat) (h : decide (canonN a = canonN b) = true) : lessN a c = lessN b c := by
  have h := of_decide_eq_true h
  unfold lessN
  rw [← place_canon a, h, place_canon b]
theorem canon_nan_iff (x : Nat) : decide (canonN x = canonN nanN) = wild x := by
  unfold canonN
  rw [nan_wild]
  cases h : wild x
  · simp only [Bool.false_eq_true, if_false, if_true, decide_eq_false_iff_not]
    intro e; rw [e] at h; rw [nan_wild] at h; cases h
  · simp
theorem canon_inf (x : Nat) (hx : x < 18446744073709551616) : decide (canonN x = canonN 9218868437227405312) = (infB x && !negB x) ∧ decide (canonN x = canonN 18442240474082181120) = (infB x && negB x) := by
  have w1 : wild 9218868437227405312 = false := by decide +kernel
  have w2 : wild 18442240474082181120 = false := by decide +kernel
  have n1 : negB x = decide (9223372036854775808 ≤ x) := negB_iff hx
  rw [n1]
  unfold canonN
  rw [w1, w2]
  unfold infB
  cases h : wild x
  · unfold rung
    simp only [Bool.false_eq_true, if_false]
    constructor
    · rw [Bool.eq_iff_iff]; simp; omega
    · rw [Bool.eq_iff_iff]; simp; omega
  · unfold wild at h
    unfold rung nanN
    simp only [decide_eq_true_eq] at h
    simp only [if_true]
    constructor
    · rw [Bool.eq_iff_iff]; simp; omega
    · rw [Bool.eq_iff_iff]; simp; omega
theorem most_is (a b : Nat) : decide (mostN a b = canonN a) = true ∨ decide (mostN a b = canonN b) = true := by
  unfold mostN; cases lessN a b <;> simp
end Go.Proofs.Ytekbonciafbjiaa.F64
