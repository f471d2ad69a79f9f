/- Joined texts: F64, Data, TermsP, PackP, RdP. What each proves stands at its head; no conditions beside those in its theorems. -/
import Ieee.Arith
/- Plain arithmetic of the reals of layer 2: the order of two words of 64 bits, the one NaN, sums. No program in sight. -/
namespace Go.Proofs.YtflpkoafebjfdaaGreat.F64
open Ieee

/-- The bits of a NaN. -/
def wild (n : Nat) : Bool := decide (n % 9223372036854775808 > 9218868437227405312)
def nanN : Nat := 9221120237041090560
def canonN (n : Nat) : Nat := if wild n = true then nanN else n
def placeN (n : Nat) : Nat :=
  if wild n = true then 18446744073709551615
  else if 9223372036854775808 ≤ n then 9223372036854775807 - n % 9223372036854775808 else 9223372036854775808 + n
def fromB (n : Nat) : Bool := !(wild n && decide (n ≠ nanN))
def lessN (a b : Nat) : Bool := decide (placeN a < placeN b)
def mostN (a b : Nat) : Nat := if lessN a b = true then canonN b else canonN a
def addN (a b : Nat) : Nat := match double.add a b with | some r => canonN r | none => nanN
def feq (a b : Nat) : Bool := double.order a b == some .eq
def flt (a b : Nat) : Bool := double.order a b == some .lt

def mag (r : Nat) : Nat := if r < 4503599627370496 then r else (4503599627370496 + r % 4503599627370496) * 2 ^ (r / 4503599627370496 - 1)

theorem mag_mono {r s : Nat} (h : r < s) : mag r < mag s := by
  unfold mag
  by_cases hr : r < 4503599627370496
  · by_cases hs : s < 4503599627370496
    · simp [hr, hs, h]
    · rw [if_pos hr, if_neg hs]
      have := Nat.two_pow_pos (s / 4503599627370496 - 1)
      have h2 : 4503599627370496 * 1 ≤ (4503599627370496 + s % 4503599627370496) * 2 ^ (s / 4503599627370496 - 1) := Nat.mul_le_mul (by omega) this
      omega
  · have hs : ¬ s < 4503599627370496 := by omega
    rw [if_neg hr, if_neg hs]
    by_cases he : r / 4503599627370496 = s / 4503599627370496
    · rw [he]
      exact Nat.mul_lt_mul_of_pos_right (by omega) (Nat.two_pow_pos _)
    · obtain ⟨d, hd⟩ : ∃ d, s / 4503599627370496 - 1 = (r / 4503599627370496 - 1) + 1 + d := ⟨s / 4503599627370496 - 1 - (r / 4503599627370496 - 1) - 1, by omega⟩
      have hp0 : 0 < 2 ^ (r / 4503599627370496 - 1) := Nat.two_pow_pos _
      rw [hd, Nat.pow_add, Nat.pow_succ]
      generalize 2 ^ (r / 4503599627370496 - 1) = p at *
      have hp : 1 ≤ 2 ^ d := Nat.two_pow_pos d
      have h1 : (4503599627370496 + r % 4503599627370496) * p < 9007199254740992 * p := Nat.mul_lt_mul_of_pos_right (by omega) hp0
      have h2 : 4503599627370496 * (p * 2 * 1) ≤ (4503599627370496 + s % 4503599627370496) * (p * 2 * 2 ^ d) := Nat.mul_le_mul (by omega) (Nat.mul_le_mul_left _ hp)
      omega

theorem mag_zero : mag 0 = 0 := rfl

def negB (x : Nat) : Bool := x / 9223372036854775808 % 2 == 1
def rung (x : Nat) : Nat := x % 9223372036854775808
def sval (x : Nat) : Int := if negB x = true then -(mag (rung x) : Int) else (mag (rung x) : Int)

theorem sw : double.signWeight = 9223372036854775808 := by decide +kernel
theorem bn : double.binade = 4503599627370496 := by decide +kernel
theorem ir : double.infRung = 9218868437227405312 := by decide +kernel
theorem lp : double.leastPlace = -1074 := by decide +kernel

theorem read_eq (x : Nat) : double.read x =
    if rung x < 4503599627370496 then .number (negB x) (rung x) (-1074)
    else if rung x < 9218868437227405312 then .number (negB x) (4503599627370496 + rung x % 4503599627370496) (-1074 + (rung x / 4503599627370496 - 1 : Nat))
    else if rung x = 9218868437227405312 then .infinity (negB x) else .nan (negB x) (rung x - 9218868437227405312) := by
  unfold Format.read
  simp only [sw, bn, ir, lp]
  rfl

theorem compare_scale (a b : Int) (k : Int) (h : 0 < k) : compare (a * k) (b * k) = compare a b := by
  simp only [compare, compareOfLessAndEq]
  have h1 : a * k < b * k ↔ a < b := Int.mul_lt_mul_right h
  have h2 : a * k = b * k ↔ a = b := Int.mul_eq_mul_right_iff (by omega)
  simp only [h1, h2]

theorem signed_eq (s : Bool) (m e : Nat) : signed s m e = (if s = true then -1 else 1) * ((m : Int) * 2 ^ e) := by
  unfold signed
  cases s <;> simp [Nat.shiftLeft_eq]

theorem signed_add (s : Bool) (m e k : Nat) : signed s m (e + k) = signed s m e * 2 ^ k := by
  simp only [signed_eq, Int.pow_add]; simp only [Int.mul_assoc]

theorem order_num (s t : Bool) (m n e f : Nat) :
    Datum.order (.number s m (-1074 + e)) (.number t n (-1074 + f)) = some (compare (signed s m e) (signed t n f)) := by
  simp only [Datum.order]
  congr 1
  rcases Nat.le_total e f with h | h
  · have hm : min (-1074 + (e : Int)) (-1074 + f) = -1074 + e := by omega
    rw [hm]
    have h1 : (-1074 + (e : Int) - (-1074 + e)).toNat = 0 := by omega
    have h2 : (-1074 + (f : Int) - (-1074 + e)).toNat = f - e := by omega
    rw [h1, h2]
    have g1 := signed_add s m 0 e
    have g2 := signed_add t n (f - e) e
    rw [Nat.zero_add] at g1
    rw [show f - e + e = f by omega] at g2
    rw [g1, g2]
    exact (compare_scale _ _ _ (Int.pow_pos (by decide))).symm
  · have hm : min (-1074 + (e : Int)) (-1074 + f) = -1074 + f := by omega
    rw [hm]
    have h1 : (-1074 + (e : Int) - (-1074 + f)).toNat = e - f := by omega
    have h2 : (-1074 + (f : Int) - (-1074 + f)).toNat = 0 := by omega
    rw [h1, h2]
    have g1 := signed_add s m (e - f) f
    have g2 := signed_add t n 0 f
    rw [Nat.zero_add] at g2
    rw [show e - f + f = e by omega] at g1
    rw [g1, g2]
    exact (compare_scale _ _ _ (Int.pow_pos (by decide))).symm

theorem not_wild {x : Nat} (h : wild x = false) : rung x ≤ 9218868437227405312 := by
  unfold wild at h; unfold rung; simpa using h

/-- A finite word, as a number at its place. -/
theorem read_fin {x : Nat} (h : rung x < 9218868437227405312) :
    ∃ m e : Nat, double.read x = .number (negB x) m (-1074 + e) ∧ m * 2 ^ e = mag (rung x) := by
  rw [read_eq]
  by_cases h1 : rung x < 4503599627370496
  · rw [if_pos h1]
    exact ⟨rung x, 0, by simp, by simp [mag, h1]⟩
  · rw [if_neg h1, if_pos h]
    exact ⟨_, _, rfl, by simp [mag, h1]⟩

theorem read_inf {x : Nat} (h : rung x = 9218868437227405312) : double.read x = .infinity (negB x) := by
  rw [read_eq, if_neg (by omega), if_neg (by omega), if_pos h]

theorem read_nan {x : Nat} (h : wild x = true) : ∃ f, double.read x = .nan (negB x) f := by
  have h' : 9218868437227405312 < rung x := by unfold wild at h; unfold rung; simpa using h
  rw [read_eq, if_neg (by omega), if_neg (by omega), if_neg (by omega)]
  exact ⟨_, rfl⟩

theorem sval_signed (x m e : Nat) (h : m * 2 ^ e = mag (rung x)) : signed (negB x) m e = sval x := by
  rw [signed_eq, sval, ← h]
  cases negB x <;> simp

theorem compare_lt {a b : Int} (h : a < b) : compare a b = .lt := by simp [compare, compareOfLessAndEq, h]
theorem compare_gt {a b : Int} (h : b < a) : compare a b = .gt := by
  have h1 : ¬ a < b := by omega
  have h2 : ¬ a = b := by omega
  simp [compare, compareOfLessAndEq, h1, h2]
theorem compare_eq {a b : Int} (h : a = b) : compare a b = .eq := by simp [compare, compareOfLessAndEq, h]

theorem order_eq {a b : Nat} (ha : wild a = false) (hb : wild b = false) : double.order a b = some (compare (sval a) (sval b)) := by
  unfold Format.order
  have ra := not_wild ha
  have rb := not_wild hb
  rcases Nat.lt_or_eq_of_le ra with fa | fa
  · obtain ⟨m, e, hra, hma⟩ := read_fin fa
    rcases Nat.lt_or_eq_of_le rb with fb | fb
    · obtain ⟨n, f, hrb, hmb⟩ := read_fin fb
      rw [hra, hrb, order_num, sval_signed _ _ _ hma, sval_signed _ _ _ hmb]
    · rw [hra, read_inf fb]
      simp only [Datum.order]
      have hm : mag (rung a) < mag (rung b) := mag_mono (by omega)
      congr 1
      unfold sval
      cases hb' : negB b
      · have : (if negB a = true then -(mag (rung a) : Int) else (mag (rung a) : Int)) < (mag (rung b) : Int) := by split <;> omega
        simp only [Bool.false_eq_true, if_false]
        exact (compare_lt this).symm
      · have : -(mag (rung b) : Int) < (if negB a = true then -(mag (rung a) : Int) else (mag (rung a) : Int)) := by split <;> omega
        simp only [if_true]
        exact (compare_gt this).symm
  · rw [read_inf fa]
    rcases Nat.lt_or_eq_of_le rb with fb | fb
    · obtain ⟨n, f, hrb, hmb⟩ := read_fin fb
      rw [hrb]
      simp only [Datum.order]
      have hm : mag (rung b) < mag (rung a) := mag_mono (by omega)
      congr 1
      unfold sval
      cases ha' : negB a
      · have : (if negB b = true then -(mag (rung b) : Int) else (mag (rung b) : Int)) < (mag (rung a) : Int) := by split <;> omega
        simp only [Bool.false_eq_true, if_false]
        exact (compare_gt this).symm
      · have : -(mag (rung a) : Int) < (if negB b = true then -(mag (rung b) : Int) else (mag (rung b) : Int)) := by split <;> omega
        simp only [if_true]
        exact (compare_lt this).symm
    · rw [read_inf fb]
      simp only [Datum.order]
      congr 1
      have hpos : 0 < mag (rung a) := by rw [fa]; have : mag 0 < mag 9218868437227405312 := mag_mono (by omega); rw [mag_zero] at this; exact this
      unfold sval
      rw [fb]
      rw [fa] at *
      generalize mag 9218868437227405312 = M at *
      cases negB a <;> cases negB b
      · exact (compare_eq rfl).symm
      · exact (compare_gt (by simp only [if_true, Bool.false_eq_true, if_false]; omega)).symm
      · exact (compare_lt (by simp only [if_true, Bool.false_eq_true, if_false]; omega)).symm
      · exact (compare_eq rfl).symm

theorem order_nan_left {a b : Nat} (ha : wild a = true) : double.order a b = none := by
  obtain ⟨f, h⟩ := read_nan ha
  unfold Format.order; rw [h]; rfl
/-- x is no NaN where it is the same as itself. -/
theorem feq_self (x : Nat) : feq x x = !wild x := by
  unfold feq
  cases h : wild x
  · rw [order_eq h h, compare_eq rfl]; rfl
  · rw [order_nan_left h]; rfl

theorem nan_wild : wild nanN = true := by decide +kernel
theorem canon_idem (x : Nat) : canonN (canonN x) = canonN x := by
  unfold canonN
  cases h : wild x
  · simp [h]
  · simp [nan_wild]
theorem canon_lt {x : Nat} (h : x < 18446744073709551616) : canonN x < 18446744073709551616 := by
  unfold canonN nanN; split <;> omega
/-! ### Sums -/
theorem word_not_wild (neg : Bool) (r : Nat) (h : r ≤ 9218868437227405312) : wild (double.word neg r) = false := by
  unfold Format.word
  rw [sw]
  unfold wild
  cases neg <;> simp <;> omega
theorem nearest_not_wild (neg : Bool) (m : Nat) (i : Int) : wild (double.nearest neg m i) = false := by
  unfold Format.nearest
  split
  · exact word_not_wild _ _ (by omega)
  · exact word_not_wild _ _ (by rw [ir]; exact Nat.min_le_right _ _)
theorem sum_not_nan {x y d : Datum} (h : x.sum y = some d) : wild (double.write d) = false := by
  have fin : ∀ d : Datum, d.isNaN = false → wild (double.write d) = false := by
    intro d hd
    cases d with
    | number s m i => exact nearest_not_wild s m i
    | infinity s => exact word_not_wild _ _ (by rw [ir]; exact Nat.le_refl _)
    | nan s f => simp [Datum.isNaN] at hd
  apply fin
  cases x <;> cases y <;> simp [Datum.sum] at h
  · subst h; rfl
  · subst h; rfl
  · subst h; rfl
  · obtain ⟨_, h⟩ := h; subst h; rfl
theorem add_not_wild {a b r : Nat} (h : double.add a b = some r) : wild r = false := by
  unfold Format.add at h
  cases hs : (double.read a).sum (double.read b) with
  | none => rw [hs] at h; simp at h
  | some d => rw [hs] at h; simp at h; subst h; exact sum_not_nan hs
theorem addN_some {a b r : Nat} (h : double.add a b = some r) : addN a b = r := by
  unfold addN; rw [h]; simp [canonN, add_not_wild h]
theorem addN_none {a b : Nat} (h : double.add a b = none) : addN a b = nanN := by
  unfold addN; rw [h]
theorem canon_addN (a b : Nat) : canonN (addN a b) = addN a b := by
  unfold addN; split
  · exact canon_idem _
  · simp [canonN]

theorem addN_lt (a b : Nat) : addN a b < 18446744073709551616 := by
  cases h : double.add a b with
  | none => rw [addN_none h]; decide
  | some r =>
    rw [addN_some h]
    have := add_not_wild h
    unfold Format.add at h
    cases hs : (double.read a).sum (double.read b) with
    | none => rw [hs] at h; simp at h
    | some d =>
      rw [hs] at h; simp at h; subst h
      have wl : ∀ (s : Bool) (r : Nat), r ≤ 9218868437227405312 → double.word s r < 18446744073709551616 := by
        intro s r hr; unfold Format.word; rw [sw]; split <;> omega
      cases d with
      | number s m i =>
        show double.nearest s m i < _
        unfold Format.nearest
        split
        · exact wl _ _ (by omega)
        · exact wl _ _ (by rw [ir]; exact Nat.min_le_right _ _)
      | infinity s => exact wl _ _ (by rw [ir]; exact Nat.le_refl _)
      | nan s f =>
        exfalso
        generalize double.read a = x at hs
        generalize double.read b = y at hs
        cases x <;> cases y <;> simp [Datum.sum] at hs

theorem mostN_lt {a b : Nat} (ha : a < 18446744073709551616) (hb : b < 18446744073709551616) : mostN a b < 18446744073709551616 := by
  unfold mostN; split
  · exact canon_lt hb
  · exact canon_lt ha
theorem canon_mostN (a b : Nat) : canonN (mostN a b) = mostN a b := by
  unfold mostN; split <;> exact canon_idem _
end Go.Proofs.YtflpkoafebjfdaaGreat.F64

/- Plain data of the layers: requests, results, configurations, and what is reckoned of them. No program in sight. -/
namespace Go.Proofs.YtflpkoafebjfdaaGreat
open F64
set_option linter.unusedVariables false

structure Opn where
  kind : Int
  key : ByteArray
  real : Nat
  id : Int
structure Req where
  client : Int
  stamp : Int
  op : Opn
structure Rsl where
  code : Int
  real : Nat

/-! ### Bytes as lists -/
theorem size_data (b : ByteArray) : b.data.toList.length = b.size := rfl
theorem toList_loop (b : ByteArray) (n : Nat) : ∀ i r, b.size - i = n → ByteArray.toList.loop b i r = r.reverse ++ b.data.toList.drop i := by
  induction n with
  | zero =>
    intro i r h
    unfold ByteArray.toList.loop
    rw [if_neg (by omega)]
    have : b.data.toList.length ≤ i := by rw [size_data]; omega
    rw [List.drop_eq_nil_of_le this, List.append_nil]
  | succ n ih =>
    intro i r h
    unfold ByteArray.toList.loop
    have hi : i < b.size := by omega
    rw [if_pos hi, ih (i + 1) _ (by omega)]
    have hl : i < b.data.toList.length := by rw [size_data]; exact hi
    rw [List.drop_eq_getElem_cons hl, List.reverse_cons, List.append_assoc]
    congr 1
    simp only [List.singleton_append]
    congr 1
    have : b.get! i = b.data[i]! := rfl
    rw [this, getElem!_pos b.data i hi]
    exact Array.getElem_toList _
theorem toList_data (b : ByteArray) : b.toList = b.data.toList := by
  unfold ByteArray.toList
  rw [toList_loop b _ 0 [] rfl]; simp
theorem toList_nil (b : ByteArray) : b.toList = [] ↔ b.size = 0 := by
  rw [toList_data, ← List.length_eq_zero_iff, size_data]
theorem toList_inj {a b : ByteArray} (h : a.toList = b.toList) : a = b := by
  rw [toList_data, toList_data] at h
  cases a; cases b; simp at h; simp [h]

/-! ### Layer 7 -/
/-- Members rise from behind last on, below 16. -/
def risingB : Int → List Int → Bool
  | _, [] => true
  | last, x :: xs => decide (last < x) && decide (x < 16) && risingB x xs
theorem risingB_drop (l : List Int) (last : Int) (i : Nat) (h : i < l.length) : risingB last (l.drop i) = (decide (last < l[i]) && decide (l[i] < 16) && risingB l[i] (l.drop (i + 1))) := by
  rw [List.drop_eq_getElem_cons h]; rfl
def membersB (l : List Int) : Bool := risingB (-1) l && decide (4 ≤ l.length) && decide (l.length ≤ 10)
theorem rising_facts (l : List Int) : ∀ last, risingB last l = true → (∀ x ∈ l, last < x ∧ x < 16) ∧ l.Pairwise (· < ·) := by
  induction l with
  | nil => intro last _; exact ⟨fun _ h => (List.not_mem_nil h).elim, List.Pairwise.nil⟩
  | cons x xs ih =>
    intro last h
    simp only [risingB, Bool.and_eq_true, decide_eq_true_eq] at h
    obtain ⟨⟨h1, h2⟩, h3⟩ := h
    obtain ⟨a, b⟩ := ih x h3
    refine ⟨?_, List.pairwise_cons.2 ⟨fun y hy => (a y hy).1, b⟩⟩
    intro y hy
    rcases List.mem_cons.1 hy with rfl | hy
    · exact ⟨h1, h2⟩
    · have := a y hy; exact ⟨by omega, this.2⟩
theorem rising_of (l : List Int) : ∀ last, (∀ x ∈ l, last < x ∧ x < 16) → l.Pairwise (· < ·) → risingB last l = true := by
  induction l with
  | nil => intro _ _ _; rfl
  | cons x xs ih =>
    intro last h p
    have hx := h x (List.mem_cons_self)
    have hp := List.pairwise_cons.1 p
    simp only [risingB, Bool.and_eq_true, decide_eq_true_eq]
    exact ⟨hx, ih x (fun y hy => ⟨hp.1 y hy, (h y (List.mem_cons_of_mem _ hy)).2⟩) hp.2⟩
theorem members_facts {l : List Int} (h : membersB l = true) : (∀ x ∈ l, 0 ≤ x ∧ x < 16) ∧ l.Pairwise (· < ·) ∧ 4 ≤ l.length ∧ l.length ≤ 10 := by
  unfold membersB at h
  simp only [Bool.and_eq_true, decide_eq_true_eq] at h
  obtain ⟨a, b⟩ := rising_facts l (-1) h.1.1
  exact ⟨fun x hx => ⟨by have := (a x hx).1; omega, (a x hx).2⟩, b, h.1.2, h.2⟩
theorem members_of {l : List Int} (h : ∀ x ∈ l, 0 ≤ x ∧ x < 16) (p : l.Pairwise (· < ·)) (h4 : 4 ≤ l.length) (h10 : l.length ≤ 10) : membersB l = true := by
  unfold membersB
  rw [rising_of l (-1) (fun x hx => ⟨by have := (h x hx).1; omega, (h x hx).2⟩) p]
  simp [h4, h10]

def hasB (l : List Int) (id : Int) : Bool := l.contains id
theorem hasB_iff (l : List Int) (id : Int) : hasB l id = true ↔ id ∈ l := by unfold hasB; exact List.contains_iff_mem
/-- Where a number parts a rising row. -/
def placeI (xs : List Int) (t : Int) : Nat := (xs.filter (fun x => decide (x < t))).length
def confB (epoch : Int) (l : List Int) : Bool := decide (0 ≤ epoch) && decide (epoch ≤ 60) && membersB l
def faultsI (n : Int) : Int := if n < 1 then 0 else (n - 1) / 3
def quorumI (n : Int) : Int := if n < 1 then 0 else faultsI n + (n - faultsI n) / 2 + 1

/-- The members with id, and why not. -/
def joinE (l : List Int) (id : Int) : Int :=
  if membersB l && decide (0 ≤ id) && decide (id < 16) then
    if hasB l id then 7 else if l.length = 10 then 10 else 0
  else 1
def joinL (l : List Int) (id : Int) : List Int := if joinE l id = 0 then l.filter (fun x => decide (x < id)) ++ id :: l.filter (fun x => decide (id ≤ x)) else []
def leaveE (l : List Int) (id : Int) : Int :=
  if membersB l && decide (0 ≤ id) && decide (id < 16) then
    if hasB l id then if l.length = 4 then 9 else 0 else 8
  else 1
def leaveL (l : List Int) (id : Int) : List Int := if leaveE l id = 0 then l.filter (fun x => x != id) else []

theorem sorted_place (xs : List Int) (t : Int) (p : xs.Pairwise (· < ·)) : placeI xs t ≤ xs.length ∧ xs.filter (fun x => decide (x < t)) = xs.take (placeI xs t) ∧ xs.filter (fun x => decide (t ≤ x)) = xs.drop (placeI xs t) := by
  refine ⟨List.length_filter_le _ _, ?_⟩
  induction xs with
  | nil => exact ⟨rfl, rfl⟩
  | cons x xs ih =>
    have hp := List.pairwise_cons.1 p
    obtain ⟨a, b⟩ := ih hp.2
    by_cases h : x < t
    · have e : placeI (x :: xs) t = placeI xs t + 1 := by unfold placeI; simp [h]
      rw [e]
      constructor
      · rw [List.filter_cons, if_pos (decide_eq_true h), List.take_succ_cons, a]
      · rw [List.filter_cons, if_neg (by simp; omega), List.drop_succ_cons, b]
    · have hall : ∀ y ∈ x :: xs, t ≤ y := by
        intro y hy
        rcases List.mem_cons.1 hy with rfl | hy
        · omega
        · have := hp.1 y hy; omega
      have e0 : (x :: xs).filter (fun x => decide (x < t)) = [] := List.filter_eq_nil_iff.2 (fun y hy => by have := hall y hy; simp; omega)
      have e : placeI (x :: xs) t = 0 := by unfold placeI; rw [e0]; rfl
      rw [e, e0]
      exact ⟨rfl, List.filter_eq_self.2 (fun y hy => decide_eq_true (hall y hy))⟩

theorem leave_facts (xs : List Int) (t : Int) (p : xs.Pairwise (· < ·)) (h : hasB xs t = true) :
    placeI xs t < xs.length ∧ xs.filter (fun x => x != t) = xs.take (placeI xs t) ++ xs.drop (placeI xs t + 1) := by
  rw [hasB_iff] at h
  induction xs with
  | nil => exact (List.not_mem_nil h).elim
  | cons x xs ih =>
    have hp := List.pairwise_cons.1 p
    by_cases hx : x < t
    · have e : placeI (x :: xs) t = placeI xs t + 1 := by unfold placeI; simp [hx]
      have hm : t ∈ xs := by
        rcases List.mem_cons.1 h with rfl | h
        · omega
        · exact h
      obtain ⟨a, b⟩ := ih hp.2 hm
      rw [e]
      refine ⟨by simp; omega, ?_⟩
      rw [List.filter_cons, if_pos (by simp; omega), b]
      simp
    · have hall : ∀ y ∈ xs, t < y := by
        intro y hy; have := hp.1 y hy; omega
      have ht : x = t := by
        rcases List.mem_cons.1 h with h | h
        · exact h.symm
        · have := hall t h; omega
      subst ht
      have e0 : (x :: xs).filter (fun y => decide (y < x)) = [] := List.filter_eq_nil_iff.2 (fun y hy => by
        rcases List.mem_cons.1 hy with rfl | hy
        · simp
        · have := hall y hy; simp; omega)
      have e : placeI (x :: xs) x = 0 := by unfold placeI; rw [e0]; rfl
      rw [e]
      refine ⟨by simp, ?_⟩
      rw [List.filter_cons, if_neg (by simp)]
      simp only [List.take_zero, List.nil_append, Nat.zero_add, List.drop_succ_cons, List.drop_zero]
      exact List.filter_eq_self.2 (fun y hy => by have := hall y hy; simp; omega)

/-! ### Layer 11 -/
def withinB (n lo hi : Int) : Bool := decide (lo ≤ n) && decide (n ≤ hi)
def noneB (x : Nat) : Bool := decide (canonN x = 0)
def keyB (o : Opn) : Bool := decide (0 < o.key.size) && decide (o.key.size ≤ 16) && decide (o.id = 0)
def opB (o : Opn) : Bool :=
  if o.kind = 4 ∨ o.kind = 5 then noneB o.real && keyB o
  else if o.kind = 1 ∨ o.kind = 2 ∨ o.kind = 3 then keyB o
  else if o.kind = 6 ∨ o.kind = 7 then decide (o.key.size = 0) && noneB o.real && decide (0 ≤ o.id) && decide (o.id < 16)
  else false
def rightB (r : Req) : Bool := withinB r.client 1 8 && withinB r.stamp 1 1048576 && opB r.op
def nullB (r : Req) : Bool := decide (r.client = 0) && decide (r.stamp = 0) && decide (r.op.kind = 0) && decide (r.op.id = 0) && decide (r.op.key.size = 0) && noneB r.op.real
end Go.Proofs.YtflpkoafebjfdaaGreat

/- Layers 7 and 9 (council, terms), in plain words. No program in sight. -/
namespace Go.Proofs.YtflpkoafebjfdaaGreat
set_option linter.unusedVariables false
set_option linter.unusedSimpArgs false

structure Sg where
  by_ : Int
  text : ByteArray
instance : Inhabited Sg := ⟨⟨0, ByteArray.empty⟩⟩
def sgAt (l : List Sg) (j : Nat) : Sg := l.getD j ⟨0, ByteArray.empty⟩
theorem sgAt_get {l : List Sg} {j : Nat} (h : j < l.length) : sgAt l j = l[j] := by unfold sgAt; rw [List.getD_eq_getElem?_getD, List.getElem?_eq_getElem h]; rfl
/-- The signatures from behind last on: of this text, of members, rising. -/
def chainB (xs : List Int) (text : ByteArray) : Int → List Sg → Bool
  | _, [] => true
  | last, s :: t => decide (s.text = text) && decide (last < s.by_) && hasB xs s.by_ && chainB xs text s.by_ t
def provesB (ep : Int) (xs : List Int) (text : ByteArray) (l : List Sg) : Bool := confB ep xs && decide (l.length ≤ 16) && decide (quorumI xs.length ≤ l.length) && chainB xs text (-1) l
end Go.Proofs.YtflpkoafebjfdaaGreat

/- Layer 1 (pack), in plain words: what a writer writes. No program in sight. -/
namespace Go.Proofs.YtflpkoafebjfdaaGreat
set_option linter.unusedVariables false
set_option linter.unusedSimpArgs false

structure Wr where
  bs : List UInt8
  room : Int
  err : Int
/-- A number's last byte. -/
def lowB (n : Int) : UInt8 := UInt8.ofNat (n % 256).toNat
def big1 (n : Int) : List UInt8 := [lowB n]
def big2 (n : Int) : List UInt8 := [lowB (n / 256), lowB n]
def big4 (n : Int) : List UInt8 := [lowB (n / 16777216), lowB (n / 65536), lowB (n / 256), lowB n]
def big8 (n : Int) : List UInt8 := big4 (n / 4294967296) ++ big4 n
def failW (W : Wr) (e : Int) : Wr := ⟨W.bs, W.room, e⟩
def addW (W : Wr) (c : List UInt8) : Wr := if W.room < c.length then failW W 3 else ⟨W.bs ++ c, W.room - c.length, W.err⟩
/-- A field: written if nothing failed before and it may be. -/
def putW (W : Wr) (ok : Bool) (c : List UInt8) : Wr := if W.err = 0 then (if ok = true then addW W c else failW W 4) else W
def okN (n hi : Int) : Bool := decide (0 ≤ n) && decide (n ≤ hi)
def byteW (W : Wr) (n : Int) : Wr := putW W (okN n 255) (big1 n)
def wordW (W : Wr) (n : Int) : Wr := putW W (okN n 65535) (big2 n)
def longW (W : Wr) (n : Int) : Wr := putW W (okN n 4294967295) (big4 n)
def bitsW (W : Wr) (n : Int) : Wr := putW W true (big8 n)
def textW (W : Wr) (s : List UInt8) : Wr := putW W (decide (s.length ≤ 65535)) (big2 s.length ++ s)
def newW (limit : Int) : Wr := ⟨[], if 0 < limit then limit else 0, 0⟩
def doneS (W : Wr) : ByteArray := if W.err = 0 then ⟨W.bs.toArray⟩ else ⟨#[]⟩
theorem lowB_toNat (n : Int) : ((lowB n).toNat : Int) = n % 256 := by
  unfold lowB
  rw [UInt8.toNat_ofNat']
  have := Int.emod_nonneg n (show (256 : Int) ≠ 0 by decide)
  have := Int.emod_lt_of_pos n (show (0 : Int) < 256 by decide)
  omega
/-- A writer's bytes and room stay within what it began with. -/
structure WOk (W : Wr) : Prop where
  room : 0 ≤ W.room
  lim : W.bs.length + W.room ≤ 1048576
theorem WOk.fail {W : Wr} (h : WOk W) (e : Int) : WOk (failW W e) := ⟨h.room, h.lim⟩
theorem WOk.add {W : Wr} (h : WOk W) (c : List UInt8) : WOk (addW W c) := by
  unfold addW
  split
  · exact h.fail 3
  · have := h.room; have := h.lim
    exact ⟨by show 0 ≤ W.room - c.length; omega, by show ((W.bs ++ c).length : Int) + (W.room - c.length) ≤ 1048576; rw [List.length_append]; omega⟩
theorem WOk.put {W : Wr} (h : WOk W) (ok : Bool) (c : List UInt8) : WOk (putW W ok c) := by
  unfold putW
  split
  · split
    · exact h.add c
    · exact h.fail 4
  · exact h
theorem WOk.new {n : Int} (h : n ≤ 1048576) : WOk (newW n) := by
  unfold newW
  constructor
  · show 0 ≤ (if 0 < n then n else 0); split <;> omega
  · show ((([] : List UInt8).length : Nat) : Int) + (if 0 < n then n else 0) ≤ 1048576; simp; split <;> omega
end Go.Proofs.YtflpkoafebjfdaaGreat

/- Layer 1 (pack), in plain words: reading bytes. No program in sight. -/
namespace Go.Proofs.YtflpkoafebjfdaaGreat
set_option linter.unusedVariables false
set_option linter.unusedSimpArgs false
/-- A reader: what is left; whether something could not be read. -/
structure Rd where
  s : List UInt8
  bad : Bool
def beN (l : List UInt8) : Nat := l.foldl (fun n c => n * 256 + c.toNat) 0
def canR (k : Nat) (r : Rd) : Bool := !r.bad && decide (k ≤ r.s.length)
def numV (k : Nat) (r : Rd) : Nat := if canR k r = true then beN (r.s.take k) else 0
def numR (k : Nat) (r : Rd) : Rd := if canR k r = true then ⟨r.s.drop k, false⟩ else ⟨r.s, true⟩
def txtN (r : Rd) : Nat := beN (r.s.take 2)
def canT (r : Rd) : Bool := canR 2 r && decide (txtN r ≤ r.s.length - 2)
def textV (r : Rd) : List UInt8 := if canT r = true then (r.s.drop 2).take (txtN r) else []
def textR (r : Rd) : Rd := if canT r = true then ⟨r.s.drop (2 + txtN r), false⟩ else ⟨r.s, true⟩
def endE (r : Rd) : Int := if r.bad = true then 2 else if r.s = [] then 0 else 5
/-- Bytes as a string. -/
def sB (l : List UInt8) : ByteArray := ⟨l.toArray⟩
theorem sB_toList (l : List UInt8) : (sB l).data.toList = l := by unfold sB; simp
end Go.Proofs.YtflpkoafebjfdaaGreat
