/- Joined texts: Kit, F64, Data, PackP, TermsP, Keys, LedgP, DeedsP, ChangeP, MapG. What each proves stands at its head; no conditions beside those in its theorems. -/
import Derived.WalkKit
import Derived.WalkLawsBesides
import Derived.Deep.QuietTactic
import Derived.BigQuiet
import Derived.Handy
import Derived.Deep.RegionWith
import Derived.StillTailTactics
import Derived.Deep.DeepCutAuto
import Derived.Deep.LoopGhost
import Derived.Lib.SliceRun
import Derived.Lib.Hide
import Ieee.Arith
import Derived.MapKept
/- Words of my own for walks that write: 'Ext S w w'': w' is w with new blocks, and with writes to the blocks of S alone. -/
namespace Go.Proofs.Ytakbkpklfihfiaa
open Go.RowKit
set_option linter.unusedVariables false

structure Ext (S : Nat → Prop) (w w' : World) : Prop where
  os : w'.os = w.os
  tape : w'.tape = w.tape
  output : w'.output = w.output
  size : w.heap.size ≤ w'.heap.size
  block : ∀ k, k < w.heap.size → ¬ S k → w'.heap[k]? = w.heap[k]?

/-- Nothing that was there has been written. -/
def Non : Nat → Prop := fun _ => False
/-- Block b alone. -/
def One (b : Nat) : Nat → Prop := fun k => k = b

theorem one_self (b : Nat) : One b b := rfl
theorem Ext.refl (S : Nat → Prop) (w : World) : Ext S w w := ⟨rfl, rfl, rfl, Nat.le_refl _, fun _ _ _ => rfl⟩
theorem Ext.trans {S : Nat → Prop} {a b c : World} (h : Ext S a b) (k : Ext S b c) : Ext S a c :=
  ⟨k.os.trans h.os, k.tape.trans h.tape, k.output.trans h.output, Nat.le_trans h.size k.size, fun i hi hs => (k.block i (Nat.lt_of_lt_of_le hi h.size) hs).trans (h.block i hi hs)⟩
theorem Ext.mono {S T : Nat → Prop} {w w' : World} (h : Ext S w w') (hs : ∀ k, k < w.heap.size → S k → T k) : Ext T w w' :=
  ⟨h.os, h.tape, h.output, h.size, fun i hi ht => h.block i hi fun s => ht (hs i hi s)⟩
theorem Ext.ofNon {S : Nat → Prop} {w w' : World} (h : Ext Non w w') : Ext S w w' := h.mono fun _ _ f => f.elim
theorem Ext.drew {S : Nat → Prop} {a w : World} (h : Ext S a w) : Ext S a w.drew := ⟨h.os, h.tape, h.output, h.size, h.block⟩
theorem Ext.drewN {S : Nat → Prop} {a w : World} (h : Ext S a w) (n : Nat) : Ext S a (w.drewN n) := ⟨h.os, h.tape, h.output, h.size, h.block⟩
theorem Ext.alloc {S : Nat → Prop} {a w : World} (h : Ext S a w) (o : Obj) : Ext S a (w.alloc o) :=
  h.trans ⟨rfl, rfl, rfl, by simp, fun k hk _ => Below.heap_alloc _ _ _ hk⟩
theorem Ext.setCell {S : Nat → Prop} {a w : World} (h : Ext S a w) {p : Addr} (hp : S p.block ∨ a.heap.size ≤ p.block) (u : Value) : Ext S a (w.setCell p u) :=
  ⟨h.os, h.tape, h.output, by simpa [World.setCell] using h.size, fun k hk hs => (Below.heap_setCell _ _ _ _ (by rintro rfl; rcases hp with hp | hp; exact hs hp; omega)).trans (h.block k hk hs)⟩
theorem Ext.set1 {b o : Nat} {a w : World} (h : Ext (One b) a w) (u : Value) : Ext (One b) a (w.setCell ⟨b, o, none⟩ u) := h.setCell (p := ⟨b, o, Option.none⟩) (.inl (one_self b)) u
theorem Ext.below {S : Nat → Prop} {w w' : World} (h : Ext S w w') {B : Nat} (hB : B ≤ w.heap.size) (hs : ∀ k, k < B → ¬ S k) : Below B w w' :=
  ⟨h.os, h.tape, h.output, h.size, fun k hk => h.block k (by omega) (hs k hk)⟩
theorem Ext.ofBelow {w w' : World} (h : Below w.heap.size w w') : Ext Non w w' := ⟨h.os, h.tape, h.output, h.size, fun k hk _ => h.block k hk⟩
theorem Ext.toBelow {w w' : World} (h : Ext Non w w') : Below w.heap.size w w' := h.below (Nat.le_refl _) fun _ _ f => f
theorem Ext.ofGrown {S : Nat → Prop} {w w' : World} {row : Option Nat} (h : w.grownBy w' row) (hr : ∀ k, row = some k → S k ∨ w.heap.size ≤ k) : Ext S w w' :=
  ⟨h.os, h.tape, h.output, h.size, fun k hk hs => h.block k hk fun e => by rcases hr k e.symm with q | q; exact hs q; omega⟩
theorem Ext.cell {S : Nat → Prop} {w w' : World} (h : Ext S w w') {p : Addr} (hp : p.block < w.heap.size) (hs : ¬ S p.block) : w'.cell? p = w.cell? p := World.cell?_of_block (w := w) (h.block p.block hp hs)
theorem Ext.froz {S : Nat → Prop} {w w' : World} (h : Ext S w w') {p : Addr} (hp : p.block < w.heap.size) (hs : ¬ S p.block) : w'.frozen? p = w.frozen? p := World.frozen?_of_block (w := w) (h.block p.block hp hs)
/-- Two steps of unlike footprints: the second may also write what is new since the first. -/
theorem Ext.step {S T : Nat → Prop} {a b c : World} (h : Ext S a b) (k : Ext T b c) (hT : ∀ i, i < a.heap.size → T i → S i) : Ext S a c :=
  ⟨k.os.trans h.os, k.tape.trans h.tape, k.output.trans h.output, Nat.le_trans h.size k.size, fun i hi hs => (k.block i (Nat.lt_of_lt_of_le hi h.size) fun t => hs (hT i hi t)).trans (h.block i hi hs)⟩

theorem heap_set_same {w : World} {g k : Nat} {cur : List Value} {t : TypeId} (h : w.heap[g]? = some (.cells cur.toArray t (0, 0))) (v : Value) :
    (w.setCell ⟨g, k, none⟩ v).heap[g]? = some (.cells (cur.set k v).toArray t (0, 0)) := by
  simp [World.setCell, Array.getElem?_modify, h]
theorem cell_of_heap {w : World} {g k : Nat} {cur : List Value} {t : TypeId} {v : Value} (h : w.heap[g]? = some (.cells cur.toArray t (0, 0))) (hk : cur[k]? = some v) : w.cell? ⟨g, k, none⟩ = some v := by
  simp [World.cell?, h, hk]
theorem froz_of_heap {w : World} {g k : Nat} {cur : List Value} {t : TypeId} (h : w.heap[g]? = some (.cells cur.toArray t (0, 0))) : w.frozen? ⟨g, k, none⟩ = false := by
  simp [World.frozen?, h]
theorem addr_add (b o i : Nat) : (⟨b, o, none⟩ : Addr).add i = ⟨b, o + i, none⟩ := by unfold Addr.add; split <;> simp_all
theorem lt_of_cell {w : World} {a : Addr} {v : Value} (h : w.cell? a = some v) : a.block < w.heap.size := by
  unfold World.cell? at h
  rcases Nat.lt_or_ge a.block w.heap.size with q | q
  · exact q
  · rw [Array.getElem?_eq_none q] at h; cases h

/-- A contract that says 'w = w'', in a region that draws its order. -/
theorem quiet_eq {P : Program} {f : FuncId} {args : Array Value} {w : World} {n : Nat} {v : Value}
    (h : Calls P f args (w.drewN n) fun e w' => e = .returned v ∧ w.drewN n = w') : Calls P f args (w.drewN n) fun e w'' => e = .returned v ∧ ∃ m, w'' = w.drewN m :=
  h.mono fun _ _ ⟨he, hm⟩ => ⟨he, n, hm.symm⟩
/-- The kit has no law of the walk for the store of a real. -/
theorem run_store_float {P : Program} {w : World} {a : Addr} {m : Mode} (k : FloatKind) (x : Nat) : (store a (.float k x) m).run P w = stored P w a (.float k x) m := run_store P w a _ m rfl
/-- A number that an int holds. -/
def I64 (n : Int) : Prop := -9223372036854775808 ≤ n ∧ n ≤ 9223372036854775807
theorem bv1 : (BitVec.ofInt 64 0 ||| BitVec.ofInt 64 0).toNat = 0 := by decide
theorem bv0 : (0#64).toInt = 0 := by decide
set_option maxRecDepth 100000 in
theorem or_i64 (a b : Int) (ha : I64 a) (hb : I64 b) : (bits .or .i64 a b = 0 ↔ a = 0 ∧ b = 0) ∧ I64 (bits .or .i64 a b) := by
  have e : bits .or .i64 a b = IntKind.i64.wrap ((BitVec.ofInt 64 a ||| BitVec.ofInt 64 b).toNat : Int) := rfl
  have hz : ∀ x : Int, I64 x → (BitVec.ofInt 64 x = 0#64 ↔ x = 0) := by
    intro x hx
    constructor
    · intro h
      have h2 := BitVec.toInt_ofInt_eq_self (w := 64) (n := x) (by decide) hx.1 (Int.lt_add_one_iff.2 hx.2)
      exact h2.symm.trans ((congrArg BitVec.toInt h).trans bv0)
    · rintro rfl; rfl
  have hl := (BitVec.ofInt 64 a ||| BitVec.ofInt 64 b).isLt
  rw [e, IntKind.wrap_i64]
  constructor
  · constructor
    · intro h
      have h0 : (BitVec.ofInt 64 a ||| BitVec.ofInt 64 b).toNat = 0 := by omega
      have h1 : BitVec.ofInt 64 a ||| BitVec.ofInt 64 b = 0#64 := BitVec.eq_of_toNat_eq h0
      have h2 := BitVec.or_eq_zero_iff.1 h1
      exact ⟨(hz a ha).1 h2.1, (hz b hb).1 h2.2⟩
    · rintro ⟨rfl, rfl⟩
      rw [bv1]; decide
  · unfold I64; omega
theorem ret_bool {a b : Bool} (h : a = b) : Ending.returned (.bool a) = .returned (.bool b) := by rw [h]
theorem ret_int {k : IntKind} {a b : Int} (h : a = b) : Ending.returned (.int k a) = .returned (.int k b) := by rw [h]
end Go.Proofs.Ytakbkpklfihfiaa

/- Plain arithmetic of the reals of layer 2: the order of two words of 64 bits, the one NaN, sums. No program in sight. -/
namespace Go.Proofs.Ytakbkpklfihfiaa.F64
open Ieee

/-- The bits of a NaN. -/
def wild (n : Nat) : Bool := decide (n % 9223372036854775808 > 9218868437227405312)
def nanN : Nat := 9221120237041090560
def canonN (n : Nat) : Nat := if wild n = true then nanN else n
def placeN (n : Nat) : Nat :=
  if wild n = true then 18446744073709551615
  else if 9223372036854775808 ≤ n then 9223372036854775807 - n % 9223372036854775808 else 9223372036854775808 + n
def fromB (n : Nat) : Bool := !(wild n && decide (n ≠ nanN))
def fromN (n : Nat) : Nat := if fromB n = true then n else 0
def lessN (a b : Nat) : Bool := decide (placeN a < placeN b)
def mostN (a b : Nat) : Nat := if lessN a b = true then canonN b else canonN a
def addN (a b : Nat) : Nat := match double.add a b with | some r => canonN r | none => nanN
def feq (a b : Nat) : Bool := double.order a b == some .eq
def flt (a b : Nat) : Bool := double.order a b == some .lt

def mag (r : Nat) : Nat := if r < 4503599627370496 then r else (4503599627370496 + r % 4503599627370496) * 2 ^ (r / 4503599627370496 - 1)

theorem mag_mono {r s : Nat} (h : r < s) : mag r < mag s := by
  unfold mag
  by_cases hr : r < 4503599627370496
  · by_cases hs : s < 4503599627370496
    · simp [hr, hs, h]
    · rw [if_pos hr, if_neg hs]
      have := Nat.two_pow_pos (s / 4503599627370496 - 1)
      have h2 : 4503599627370496 * 1 ≤ (4503599627370496 + s % 4503599627370496) * 2 ^ (s / 4503599627370496 - 1) := Nat.mul_le_mul (by omega) this
      omega
  · have hs : ¬ s < 4503599627370496 := by omega
    rw [if_neg hr, if_neg hs]
    by_cases he : r / 4503599627370496 = s / 4503599627370496
    · rw [he]
      exact Nat.mul_lt_mul_of_pos_right (by omega) (Nat.two_pow_pos _)
    · obtain ⟨d, hd⟩ : ∃ d, s / 4503599627370496 - 1 = (r / 4503599627370496 - 1) + 1 + d := ⟨s / 4503599627370496 - 1 - (r / 4503599627370496 - 1) - 1, by omega⟩
      have hp0 : 0 < 2 ^ (r / 4503599627370496 - 1) := Nat.two_pow_pos _
      rw [hd, Nat.pow_add, Nat.pow_succ]
      generalize 2 ^ (r / 4503599627370496 - 1) = p at *
      have hp : 1 ≤ 2 ^ d := Nat.two_pow_pos d
      have h1 : (4503599627370496 + r % 4503599627370496) * p < 9007199254740992 * p := Nat.mul_lt_mul_of_pos_right (by omega) hp0
      have h2 : 4503599627370496 * (p * 2 * 1) ≤ (4503599627370496 + s % 4503599627370496) * (p * 2 * 2 ^ d) := Nat.mul_le_mul (by omega) (Nat.mul_le_mul_left _ hp)
      omega

theorem mag_le {r s : Nat} (h : r ≤ s) : mag r ≤ mag s := by
  rcases Nat.lt_or_eq_of_le h with h | h
  · exact Nat.le_of_lt (mag_mono h)
  · rw [h]; exact Nat.le_refl _
theorem mag_zero : mag 0 = 0 := rfl

def negB (x : Nat) : Bool := x / 9223372036854775808 % 2 == 1
def rung (x : Nat) : Nat := x % 9223372036854775808
def sval (x : Nat) : Int := if negB x = true then -(mag (rung x) : Int) else (mag (rung x) : Int)

/-- A datum with its exact value, in units of the least place. -/
def scaled : Datum → Option (Bool × Nat × Nat)
  | .number s m i => if -1074 ≤ i then some (s, m, (i + 1074).toNat) else none
  | _ => none

theorem two63 : (2 : Nat) ^ 63 = 9223372036854775808 := by decide
theorem two52 : (2 : Nat) ^ 52 = 4503599627370496 := by decide
theorem sw : double.signWeight = 9223372036854775808 := by decide +kernel
theorem bn : double.binade = 4503599627370496 := by decide +kernel
theorem ir : double.infRung = 9218868437227405312 := by decide +kernel
theorem lp : double.leastPlace = -1074 := by decide +kernel

theorem read_eq (x : Nat) : double.read x =
    if rung x < 4503599627370496 then .number (negB x) (rung x) (-1074)
    else if rung x < 9218868437227405312 then .number (negB x) (4503599627370496 + rung x % 4503599627370496) (-1074 + (rung x / 4503599627370496 - 1 : Nat))
    else if rung x = 9218868437227405312 then .infinity (negB x) else .nan (negB x) (rung x - 9218868437227405312) := by
  unfold Format.read
  simp only [sw, bn, ir, lp]
  rfl

theorem compare_scale (a b : Int) (k : Int) (h : 0 < k) : compare (a * k) (b * k) = compare a b := by
  simp only [compare, compareOfLessAndEq]
  have h1 : a * k < b * k ↔ a < b := Int.mul_lt_mul_right h
  have h2 : a * k = b * k ↔ a = b := Int.mul_eq_mul_right_iff (by omega)
  simp only [h1, h2]

theorem signed_eq (s : Bool) (m e : Nat) : signed s m e = (if s = true then -1 else 1) * ((m : Int) * 2 ^ e) := by
  unfold signed
  cases s <;> simp [Nat.shiftLeft_eq]

theorem signed_add (s : Bool) (m e k : Nat) : signed s m (e + k) = signed s m e * 2 ^ k := by
  simp only [signed_eq, Int.pow_add]; simp only [Int.mul_assoc]

theorem order_num (s t : Bool) (m n e f : Nat) :
    Datum.order (.number s m (-1074 + e)) (.number t n (-1074 + f)) = some (compare (signed s m e) (signed t n f)) := by
  simp only [Datum.order]
  congr 1
  rcases Nat.le_total e f with h | h
  · have hm : min (-1074 + (e : Int)) (-1074 + f) = -1074 + e := by omega
    rw [hm]
    have h1 : (-1074 + (e : Int) - (-1074 + e)).toNat = 0 := by omega
    have h2 : (-1074 + (f : Int) - (-1074 + e)).toNat = f - e := by omega
    rw [h1, h2]
    have g1 := signed_add s m 0 e
    have g2 := signed_add t n (f - e) e
    rw [Nat.zero_add] at g1
    rw [show f - e + e = f by omega] at g2
    rw [g1, g2]
    exact (compare_scale _ _ _ (Int.pow_pos (by decide))).symm
  · have hm : min (-1074 + (e : Int)) (-1074 + f) = -1074 + f := by omega
    rw [hm]
    have h1 : (-1074 + (e : Int) - (-1074 + f)).toNat = e - f := by omega
    have h2 : (-1074 + (f : Int) - (-1074 + f)).toNat = 0 := by omega
    rw [h1, h2]
    have g1 := signed_add s m (e - f) f
    have g2 := signed_add t n 0 f
    rw [Nat.zero_add] at g2
    rw [show e - f + f = e by omega] at g1
    rw [g1, g2]
    exact (compare_scale _ _ _ (Int.pow_pos (by decide))).symm

theorem not_wild {x : Nat} (h : wild x = false) : rung x ≤ 9218868437227405312 := by
  unfold wild at h; unfold rung; simpa using h

/-- A finite word, as a number at its place. -/
theorem read_fin {x : Nat} (h : rung x < 9218868437227405312) :
    ∃ m e : Nat, double.read x = .number (negB x) m (-1074 + e) ∧ m * 2 ^ e = mag (rung x) := by
  rw [read_eq]
  by_cases h1 : rung x < 4503599627370496
  · rw [if_pos h1]
    exact ⟨rung x, 0, by simp, by simp [mag, h1]⟩
  · rw [if_neg h1, if_pos h]
    exact ⟨_, _, rfl, by simp [mag, h1]⟩

theorem read_inf {x : Nat} (h : rung x = 9218868437227405312) : double.read x = .infinity (negB x) := by
  rw [read_eq, if_neg (by omega), if_neg (by omega), if_pos h]

theorem read_nan {x : Nat} (h : wild x = true) : ∃ f, double.read x = .nan (negB x) f := by
  have h' : 9218868437227405312 < rung x := by unfold wild at h; unfold rung; simpa using h
  rw [read_eq, if_neg (by omega), if_neg (by omega), if_neg (by omega)]
  exact ⟨_, rfl⟩

theorem sval_signed (x m e : Nat) (h : m * 2 ^ e = mag (rung x)) : signed (negB x) m e = sval x := by
  rw [signed_eq, sval, ← h]
  cases negB x <;> simp

theorem compare_lt {a b : Int} (h : a < b) : compare a b = .lt := by simp [compare, compareOfLessAndEq, h]
theorem compare_gt {a b : Int} (h : b < a) : compare a b = .gt := by
  have h1 : ¬ a < b := by omega
  have h2 : ¬ a = b := by omega
  simp [compare, compareOfLessAndEq, h1, h2]
theorem compare_eq {a b : Int} (h : a = b) : compare a b = .eq := by simp [compare, compareOfLessAndEq, h]

theorem order_eq {a b : Nat} (ha : wild a = false) (hb : wild b = false) : double.order a b = some (compare (sval a) (sval b)) := by
  unfold Format.order
  have ra := not_wild ha
  have rb := not_wild hb
  rcases Nat.lt_or_eq_of_le ra with fa | fa
  · obtain ⟨m, e, hra, hma⟩ := read_fin fa
    rcases Nat.lt_or_eq_of_le rb with fb | fb
    · obtain ⟨n, f, hrb, hmb⟩ := read_fin fb
      rw [hra, hrb, order_num, sval_signed _ _ _ hma, sval_signed _ _ _ hmb]
    · rw [hra, read_inf fb]
      simp only [Datum.order]
      have hm : mag (rung a) < mag (rung b) := mag_mono (by omega)
      congr 1
      unfold sval
      cases hb' : negB b
      · have : (if negB a = true then -(mag (rung a) : Int) else (mag (rung a) : Int)) < (mag (rung b) : Int) := by split <;> omega
        simp only [Bool.false_eq_true, if_false]
        exact (compare_lt this).symm
      · have : -(mag (rung b) : Int) < (if negB a = true then -(mag (rung a) : Int) else (mag (rung a) : Int)) := by split <;> omega
        simp only [if_true]
        exact (compare_gt this).symm
  · rw [read_inf fa]
    rcases Nat.lt_or_eq_of_le rb with fb | fb
    · obtain ⟨n, f, hrb, hmb⟩ := read_fin fb
      rw [hrb]
      simp only [Datum.order]
      have hm : mag (rung b) < mag (rung a) := mag_mono (by omega)
      congr 1
      unfold sval
      cases ha' : negB a
      · have : (if negB b = true then -(mag (rung b) : Int) else (mag (rung b) : Int)) < (mag (rung a) : Int) := by split <;> omega
        simp only [Bool.false_eq_true, if_false]
        exact (compare_gt this).symm
      · have : -(mag (rung a) : Int) < (if negB b = true then -(mag (rung b) : Int) else (mag (rung b) : Int)) := by split <;> omega
        simp only [if_true]
        exact (compare_lt this).symm
    · rw [read_inf fb]
      simp only [Datum.order]
      congr 1
      have hpos : 0 < mag (rung a) := by rw [fa]; have : mag 0 < mag 9218868437227405312 := mag_mono (by omega); rw [mag_zero] at this; exact this
      unfold sval
      rw [fb]
      rw [fa] at *
      generalize mag 9218868437227405312 = M at *
      cases negB a <;> cases negB b
      · exact (compare_eq rfl).symm
      · exact (compare_gt (by simp only [if_true, Bool.false_eq_true, if_false]; omega)).symm
      · exact (compare_lt (by simp only [if_true, Bool.false_eq_true, if_false]; omega)).symm
      · exact (compare_eq rfl).symm

theorem order_nan_left {a b : Nat} (ha : wild a = true) : double.order a b = none := by
  obtain ⟨f, h⟩ := read_nan ha
  unfold Format.order; rw [h]; rfl
theorem order_nan_right {a b : Nat} (hb : wild b = true) : double.order a b = none := by
  obtain ⟨f, h⟩ := read_nan hb
  unfold Format.order; rw [h]
  cases double.read a <;> rfl

/-- x is no NaN where it is the same as itself. -/
theorem feq_self (x : Nat) : feq x x = !wild x := by
  unfold feq
  cases h : wild x
  · rw [order_eq h h, compare_eq rfl]; rfl
  · rw [order_nan_left h]; rfl

theorem feq_eq {a b : Nat} (ha : wild a = false) (hb : wild b = false) : feq a b = decide (sval a = sval b) := by
  unfold feq
  rw [order_eq ha hb]
  rcases Int.lt_trichotomy (sval a) (sval b) with h | h | h
  · rw [compare_lt h]; simp; omega
  · rw [compare_eq h]; simp [h]
  · rw [compare_gt h]; simp; omega
theorem flt_eq {a b : Nat} (ha : wild a = false) (hb : wild b = false) : flt a b = decide (sval a < sval b) := by
  unfold flt
  rw [order_eq ha hb]
  rcases Int.lt_trichotomy (sval a) (sval b) with h | h | h
  · rw [compare_lt h]; simp [h]
  · rw [compare_eq h]; simp; omega
  · rw [compare_gt h]; simp; omega

theorem sval_lt_iff {a b : Nat} (ha64 : a < 18446744073709551616) (hb64 : b < 18446744073709551616) (ha : wild a = false) (hb : wild b = false) :
    placeN a < placeN b ↔ sval a < sval b ∨ (sval a = sval b ∧ negB a = true ∧ negB b = false) := by
  have ra := not_wild ha
  have rb := not_wild hb
  unfold placeN
  rw [ha, hb]
  simp only [Bool.false_eq_true, if_false]
  have na : (negB a = true ↔ 9223372036854775808 ≤ a) := by unfold negB; simp; omega
  have nb : (negB b = true ↔ 9223372036854775808 ≤ b) := by unfold negB; simp; omega
  have nb' : (negB b = false ↔ b < 9223372036854775808) := by unfold negB; simp; omega
  have m1 : rung a < rung b → mag (rung a) < mag (rung b) := mag_mono
  have m2 : rung b < rung a → mag (rung b) < mag (rung a) := mag_mono
  have m3 : rung a = rung b → mag (rung a) = mag (rung b) := fun h => by rw [h]
  unfold sval
  simp only [na, nb, nb']
  have ea : rung a = a % 9223372036854775808 := rfl
  have eb : rung b = b % 9223372036854775808 := rfl
  rw [← ea, ← eb]
  by_cases h1 : 9223372036854775808 ≤ a <;> by_cases h2 : 9223372036854775808 ≤ b
  all_goals
    simp only [h1, h2, if_true, if_false, true_and, false_and, and_false, or_false]
    clear na nb nb'
    rcases Nat.lt_trichotomy (rung a) (rung b) with h | h | h
    · have m := m1 h; clear m1 m2 m3; omega
    · have m := m3 h; clear m1 m2 m3; omega
    · have m := m2 h; clear m1 m2 m3; omega

/-- What Less reckons is the order of the places. -/
theorem less_cases (a b : Nat) (ha64 : a < 18446744073709551616) (hb64 : b < 18446744073709551616) :
    lessN a b = (if wild a = true then false else if wild b = true then true else if feq a b = true then (negB a && !negB b) else flt a b) := by
  have hlt : ∀ x : Nat, x < 18446744073709551616 → wild x = false → placeN x < 18446744073709551615 := by
    intro x hx h
    have := not_wild h
    unfold rung at this
    unfold placeN
    rw [h]
    simp only [Bool.false_eq_true, if_false]
    split <;> omega
  unfold lessN
  cases ha : wild a
  · cases hb : wild b
    · simp only [Bool.false_eq_true, if_false]
      rw [feq_eq ha hb, flt_eq ha hb]
      have := sval_lt_iff ha64 hb64 ha hb
      simp only [this]
      rcases Int.lt_trichotomy (sval a) (sval b) with h | h | h
      · have : sval a ≠ sval b := by omega
        simp [h, this]
      · simp [h]
      · have h1 : ¬ sval a < sval b := by omega
        have h2 : sval a ≠ sval b := by omega
        simp [h1, h2]
    · have := hlt a ha64 ha
      simp only [Bool.false_eq_true, if_false, if_true]
      have hp : placeN b = 18446744073709551615 := by unfold placeN; rw [hb]; rfl
      rw [hp]; simpa using this
  · simp only [if_true]
    have hp : placeN a = 18446744073709551615 := by unfold placeN; rw [ha]; rfl
    rw [hp]
    cases hb : wild b
    · have := hlt b hb64 hb; simp; omega
    · have hp : placeN b = 18446744073709551615 := by unfold placeN; rw [hb]; rfl
      rw [hp]; simp

theorem negB_iff {x : Nat} (h : x < 18446744073709551616) : negB x = decide (9223372036854775808 ≤ x) := by
  unfold negB; rw [Bool.eq_iff_iff]; simp; omega

theorem nan_wild : wild nanN = true := by decide +kernel
theorem cut_wild (t : Nat) : wild ((t % 2) * 2 ^ 63 + 0x7ff0000000000000 + 1 + (t / 2) % (2 ^ 52 - 1)) = true := by
  have h1 : t % 2 = 0 ∨ t % 2 = 1 := by omega
  have h2 : (t / 2) % (2 ^ 52 - 1) < 2 ^ 52 - 1 := Nat.mod_lt _ (by decide)
  generalize (t / 2) % (2 ^ 52 - 1) = q at *
  rw [two52] at h2
  rw [two63]
  unfold wild
  rcases h1 with h | h <;> rw [h] <;> simp <;> omega
theorem canon_idem (x : Nat) : canonN (canonN x) = canonN x := by
  unfold canonN
  cases h : wild x
  · simp [h]
  · simp [nan_wild]
theorem canon_lt {x : Nat} (h : x < 18446744073709551616) : canonN x < 18446744073709551616 := by
  unfold canonN nanN; split <;> omega
theorem wild_canon (x : Nat) : wild (canonN x) = wild x := by
  unfold canonN
  cases h : wild x
  · simp [h]
  · simp [nan_wild]
theorem place_canon (x : Nat) : placeN (canonN x) = placeN x := by
  unfold canonN
  cases h : wild x
  · simp
  · simp [placeN, nan_wild, h]

theorem place_inj {a b : Nat} (ha64 : a < 18446744073709551616) (hb64 : b < 18446744073709551616) : placeN a = placeN b ↔ canonN a = canonN b := by
  constructor
  · intro h
    unfold placeN at h
    unfold canonN
    cases ha : wild a <;> cases hb : wild b <;> simp only [ha, hb, Bool.false_eq_true, if_false, if_true] at h ⊢
    · split at h <;> split at h <;> omega
    · have := not_wild ha; unfold rung at this; split at h <;> omega
    · have := not_wild hb; unfold rung at this; split at h <;> omega
  · intro h
    rw [← place_canon a, ← place_canon b, h]

/-! ### Sums -/
theorem word_not_wild (neg : Bool) (r : Nat) (h : r ≤ 9218868437227405312) : wild (double.word neg r) = false := by
  unfold Format.word
  rw [sw]
  unfold wild
  cases neg <;> simp <;> omega
theorem nearest_not_wild (neg : Bool) (m : Nat) (i : Int) : wild (double.nearest neg m i) = false := by
  unfold Format.nearest
  split
  · exact word_not_wild _ _ (by omega)
  · exact word_not_wild _ _ (by rw [ir]; exact Nat.min_le_right _ _)
theorem sum_not_nan {x y d : Datum} (h : x.sum y = some d) : wild (double.write d) = false := by
  have fin : ∀ d : Datum, d.isNaN = false → wild (double.write d) = false := by
    intro d hd
    cases d with
    | number s m i => exact nearest_not_wild s m i
    | infinity s => exact word_not_wild _ _ (by rw [ir]; exact Nat.le_refl _)
    | nan s f => simp [Datum.isNaN] at hd
  apply fin
  cases x <;> cases y <;> simp [Datum.sum] at h
  · subst h; rfl
  · subst h; rfl
  · subst h; rfl
  · obtain ⟨_, h⟩ := h; subst h; rfl
theorem add_not_wild {a b r : Nat} (h : double.add a b = some r) : wild r = false := by
  unfold Format.add at h
  cases hs : (double.read a).sum (double.read b) with
  | none => rw [hs] at h; simp at h
  | some d => rw [hs] at h; simp at h; subst h; exact sum_not_nan hs
theorem sum_comm (x y : Datum) : x.sum y = y.sum x := by
  cases x with
  | number s m i =>
    cases y with
    | number t n j =>
      simp only [Datum.sum]
      rw [Int.min_comm i j, Int.add_comm (signed s m _), Bool.and_comm]
    | infinity t => rfl
    | nan t f => rfl
  | infinity s =>
    cases y with
    | number t n j => rfl
    | infinity t => simp only [Datum.sum]; cases s <;> cases t <;> rfl
    | nan t f => rfl
  | nan s f => cases y <;> rfl
theorem add_comm (a b : Nat) : double.add a b = double.add b a := by
  unfold Format.add; rw [sum_comm]
theorem addN_comm (a b : Nat) : addN a b = addN b a := by unfold addN; rw [add_comm]
theorem addN_some {a b r : Nat} (h : double.add a b = some r) : addN a b = r := by
  unfold addN; rw [h]; simp [canonN, add_not_wild h]
theorem addN_none {a b : Nat} (h : double.add a b = none) : addN a b = nanN := by
  unfold addN; rw [h]
theorem addN_wild {a b : Nat} : wild (addN a b) = (double.add a b).isNone := by
  cases h : double.add a b with
  | none => rw [addN_none h]; exact nan_wild
  | some r => rw [addN_some h]; exact add_not_wild h
theorem canon_addN (a b : Nat) : canonN (addN a b) = addN a b := by
  unfold addN; split
  · exact canon_idem _
  · simp [canonN]

def infB (x : Nat) : Bool := rung x == 9218868437227405312
theorem add_none_iff (a b : Nat) : (double.add a b).isNone = (wild a || wild b || (infB a && infB b && (negB a != negB b))) := by
  have hd : ∀ x : Nat, wild x = false → infB x = true → double.read x = .infinity (negB x) := fun x _ h => read_inf (by simpa [infB] using h)
  have hf : ∀ x : Nat, wild x = false → infB x = false → ∃ m e : Nat, double.read x = .number (negB x) m (-1074 + e) ∧ m * 2 ^ e = mag (rung x) := by
    intro x h1 h2
    have := not_wild h1
    have h2 : rung x ≠ 9218868437227405312 := by simpa [infB] using h2
    exact read_fin (by omega)
  have hw : ∀ x : Nat, wild x = true → infB x = false := by
    intro x h; unfold wild at h; unfold infB rung; simp at h ⊢; omega
  unfold Format.add
  cases ha : wild a
  · cases hb : wild b
    · cases ia : infB a <;> cases ib : infB b
      · obtain ⟨m, e, h1, _⟩ := hf a ha ia; obtain ⟨n, f, h2, _⟩ := hf b hb ib
        rw [h1, h2]; rfl
      · obtain ⟨m, e, h1, _⟩ := hf a ha ia
        rw [h1, hd b hb ib]; rfl
      · obtain ⟨n, f, h2, _⟩ := hf b hb ib
        rw [h2, hd a ha ia]; rfl
      · rw [hd a ha ia, hd b hb ib]
        simp only [Datum.sum]
        cases negB a <;> cases negB b <;> rfl
    · obtain ⟨f, h⟩ := read_nan hb
      rw [h]
      cases double.read a <;> rfl
  · obtain ⟨f, h⟩ := read_nan ha
    rw [h]; rfl

theorem cut_exact (neg : Bool) (q d : Nat) (hq : 0 < q) : Toward.even.cut neg (q * 2 ^ d) d = q := by
  have hl : d ≤ (q * 2 ^ d).log2 := by
    rw [Nat.le_log2 (by have := Nat.mul_pos hq (Nat.two_pow_pos d); omega)]
    exact Nat.le_mul_of_pos_left _ hq
  unfold Toward.cut
  have hm : min d ((q * 2 ^ d).log2 + 2) = d := by omega
  rw [hm]
  have hg : (1 <<< d : Nat) = 2 ^ d := by rw [Nat.one_shiftLeft]
  simp only [hg, Nat.mul_mod_left, Nat.mul_div_cancel _ (Nat.two_pow_pos d)]
  have : 0 < 2 ^ d := Nat.two_pow_pos d
  simp

theorem word_read (x : Nat) (h : x < 18446744073709551616) : double.word (negB x) (rung x) = x := by
  unfold Format.word
  rw [sw, negB_iff h]
  unfold rung
  simp only [decide_eq_true_eq]
  split <;> omega

theorem log2_of {m e : Nat} (h1 : 4503599627370496 ≤ m) (h2 : m < 9007199254740992) : (m * 2 ^ e).log2 = 52 + e := by
  have hp := Nat.two_pow_pos e
  have h52 : (2 : Nat) ^ 52 = 4503599627370496 := two52
  have h53 : (2 : Nat) ^ 53 = 9007199254740992 := by decide
  have hne : m * 2 ^ e ≠ 0 := by have := Nat.mul_pos (show 0 < m by omega) hp; omega
  rw [Nat.log2_eq_iff hne]
  constructor
  · rw [Nat.pow_add, h52]; exact Nat.mul_le_mul_right _ h1
  · rw [show 52 + e + 1 = 53 + e by omega, Nat.pow_add, h53]; exact Nat.mul_lt_mul_of_pos_right h2 hp

/-- A finite word is written again as it was read, from whatever place below. -/
theorem nearest_mag (x : Nat) (h : x < 18446744073709551616) (hf : rung x < 9218868437227405312) :
    double.nearest (negB x) (mag (rung x)) (-1074) = x := by
  unfold Format.nearest
  by_cases h0 : rung x = 0
  · rw [if_pos (by rw [h0]; rfl)]
    have := word_read x h
    rw [h0] at this; exact this
  · have hpos : 0 < mag (rung x) := by have : mag 0 < mag (rung x) := mag_mono (by omega); rw [mag_zero] at this; exact this
    rw [if_neg (by omega)]
    rw [lp, bn, ir]
    have fb : ((double.fractionBits : Nat) : Int) = 52 := by decide
    rw [fb]
    have wr := word_read x h
    by_cases h1 : rung x < 4503599627370496
    · have em : mag (rung x) = rung x := by simp [mag, h1]
      rw [em]
      have hl : (rung x).log2 < 52 := (Nat.log2_lt h0).2 (by rw [two52]; exact h1)
      have hlast : max (-1074 + ((rung x).log2 : Int) - 52) (-1074) = -1074 := by omega
      simp only [hlast]
      have e0 : ((-1074 : Int) - -1074).toNat = 0 := by decide
      rw [e0]
      have hc := cut_exact (negB x) (rung x) 0 (by omega)
      simp only [Nat.pow_zero, Nat.mul_one] at hc
      rw [Nat.shiftLeft_zero, hc, Nat.zero_mul, Nat.zero_add, Nat.min_eq_left (by omega)]
      exact wr
    · obtain ⟨e, he⟩ : ∃ e, rung x / 4503599627370496 = e + 1 := ⟨rung x / 4503599627370496 - 1, by omega⟩
      have em : mag (rung x) = (4503599627370496 + rung x % 4503599627370496) * 2 ^ e := by
        unfold mag; rw [if_neg h1, he]; rfl
      rw [em, log2_of (by omega) (by omega)]
      have hlast : max (-1074 + ((52 + e : Nat) : Int) - 52) (-1074) = -1074 + e := by omega
      simp only [hlast]
      have e0 : ((-1074 : Int) - (-1074 + e)).toNat = 0 := by omega
      have e1 : ((-1074 : Int) + e - -1074).toNat = e := by omega
      rw [e0, e1, Nat.shiftLeft_zero, cut_exact _ _ _ (by omega)]
      have hr : e * 4503599627370496 + (4503599627370496 + rung x % 4503599627370496) = rung x := by omega
      rw [hr, Nat.min_eq_left (by omega)]
      exact wr

/-- -0 added changes no real. -/
theorem add_minus_zero (x : Nat) (h : x < 18446744073709551616) (hw : wild x = false) : double.add x 9223372036854775808 = some x := by
  have hz : double.read 9223372036854775808 = .number true 0 (-1074) := by decide +kernel
  unfold Format.add
  rw [hz]
  have hr := not_wild hw
  rcases Nat.lt_or_eq_of_le hr with hf | hf
  · obtain ⟨m, e, h1, h2⟩ := read_fin hf
    rw [h1]
    simp only [Datum.sum]
    have hm : min (-1074 + (e : Int)) (-1074) = -1074 := by omega
    have e1 : (-1074 + (e : Int) - -1074).toNat = e := by omega
    have e0 : ((-1074 : Int) - -1074).toNat = 0 := by decide
    rw [hm, e1, e0]
    have hs : signed true 0 0 = 0 := by decide
    rw [hs, Int.add_zero, sval_signed _ _ _ h2]
    have ha : (sval x).natAbs = mag (rung x) := by unfold sval; split <;> omega
    rw [ha]
    have hsign : (if sval x = 0 then negB x && true else decide (sval x < 0)) = negB x := by
      split
      · simp
      · rename_i hne
        unfold sval at hne ⊢
        cases hn : negB x
        · rw [hn] at hne; simp at hne ⊢
        · rw [hn] at hne; simp at hne ⊢; omega
    rw [hsign]
    show some (double.nearest _ _ _) = _
    rw [nearest_mag x h hf]
  · rw [read_inf hf]
    simp only [Datum.sum, Option.map_some]
    congr 1
    have := word_read x h
    rw [hf] at this
    show double.word (negB x) double.infRung = x
    rw [ir]; exact this

theorem addN_minus_zero (x : Nat) (h : x < 18446744073709551616) : addN x 9223372036854775808 = canonN x := by
  cases hw : wild x
  · rw [addN_some (add_minus_zero x h hw)]; simp [canonN, hw]
  · have : (double.add x 9223372036854775808).isNone = true := by rw [add_none_iff, hw]; rfl
    rw [addN_none (by simpa using this)]; simp [canonN, hw]
theorem addN_lt (a b : Nat) : addN a b < 18446744073709551616 := by
  cases h : double.add a b with
  | none => rw [addN_none h]; decide
  | some r =>
    rw [addN_some h]
    have := add_not_wild h
    unfold Format.add at h
    cases hs : (double.read a).sum (double.read b) with
    | none => rw [hs] at h; simp at h
    | some d =>
      rw [hs] at h; simp at h; subst h
      have wl : ∀ (s : Bool) (r : Nat), r ≤ 9218868437227405312 → double.word s r < 18446744073709551616 := by
        intro s r hr; unfold Format.word; rw [sw]; split <;> omega
      cases d with
      | number s m i =>
        show double.nearest s m i < _
        unfold Format.nearest
        split
        · exact wl _ _ (by omega)
        · exact wl _ _ (by rw [ir]; exact Nat.min_le_right _ _)
      | infinity s => exact wl _ _ (by rw [ir]; exact Nat.le_refl _)
      | nan s f =>
        exfalso
        generalize double.read a = x at hs
        generalize double.read b = y at hs
        cases x <;> cases y <;> simp [Datum.sum] at hs

/-! ### The greater one -/
theorem lessN_trans {a b c : Nat} (h1 : lessN a b = true) (h2 : lessN b c = true) : lessN a c = true := by
  unfold lessN at *; simp at *; omega
theorem place_mostN (a b : Nat) : placeN (mostN a b) = max (placeN a) (placeN b) := by
  unfold mostN lessN
  simp only [decide_eq_true_eq]
  split <;> rw [place_canon] <;> omega
theorem mostN_lt {a b : Nat} (ha : a < 18446744073709551616) (hb : b < 18446744073709551616) : mostN a b < 18446744073709551616 := by
  unfold mostN; split
  · exact canon_lt hb
  · exact canon_lt ha
theorem canon_mostN (a b : Nat) : canonN (mostN a b) = mostN a b := by
  unfold mostN; split <;> exact canon_idem _
theorem mostN_comm {a b : Nat} (ha : a < 18446744073709551616) (hb : b < 18446744073709551616) : mostN a b = mostN b a := by
  have := (place_inj (mostN_lt ha hb) (mostN_lt hb ha)).1 (by rw [place_mostN, place_mostN]; omega)
  rwa [canon_mostN, canon_mostN] at this
theorem mostN_assoc {a b c : Nat} (ha : a < 18446744073709551616) (hb : b < 18446744073709551616) (hc : c < 18446744073709551616) : mostN (mostN a b) c = mostN a (mostN b c) := by
  have := (place_inj (mostN_lt (mostN_lt ha hb) hc) (mostN_lt ha (mostN_lt hb hc))).1 (by simp only [place_mostN]; omega)
  rwa [canon_mostN, canon_mostN] at this

/-! ### What the laws close with -/
theorem dec_beq (x y : Nat) : (decide (x = y) == ((x : Int) == (y : Int))) = true := by
  by_cases h : x = y
  · subst h; simp
  · have h' : ¬ ((x : Int) = (y : Int)) := by omega
    rw [decide_eq_false h, beq_eq_false_iff_ne.2 h']; rfl
theorem lessN_irr (a b : Nat) : lessN a b = true → lessN b a = false ∧ decide (canonN a = canonN b) = false := by
  intro h
  have hp := place_canon a
  have hq := place_canon b
  unfold lessN at *
  simp only [decide_eq_true_eq, decide_eq_false_iff_not] at *
  refine ⟨by omega, fun e => ?_⟩
  rw [e] at hp; omega
theorem less_tri (a b : Nat) (ha : a < 18446744073709551616) (hb : b < 18446744073709551616) :
    (lessN a b = true ∧ lessN b a = false ∧ decide (canonN a = canonN b) = false) ∨ (lessN a b = false ∧ lessN b a = true ∧ decide (canonN a = canonN b) = false) ∨
    (lessN a b = false ∧ lessN b a = false ∧ decide (canonN a = canonN b) = true) := by
  cases h1 : lessN a b
  · cases h2 : lessN b a
    · right; right
      refine ⟨rfl, rfl, ?_⟩
      have := place_inj ha hb
      unfold lessN at h1 h2
      simp only [decide_eq_false_iff_not, decide_eq_true_eq] at *
      exact this.1 (by omega)
    · have := lessN_irr b a h2
      right; left
      refine ⟨rfl, rfl, ?_⟩
      have h := this.2
      simp only [decide_eq_false_iff_not] at *
      exact fun e => h e.symm
  · have := lessN_irr a b h1
    left; exact ⟨rfl, this.1, this.2⟩
theorem less_same {a b : Nat} (c : Nat) (h : decide (canonN a = canonN b) = true) : lessN a c = lessN b c := by
  have h := of_decide_eq_true h
  unfold lessN
  rw [← place_canon a, h, place_canon b]
theorem canon_nan_iff (x : Nat) : decide (canonN x = canonN nanN) = wild x := by
  unfold canonN
  rw [nan_wild]
  cases h : wild x
  · simp only [Bool.false_eq_true, if_false, if_true, decide_eq_false_iff_not]
    intro e; rw [e] at h; rw [nan_wild] at h; cases h
  · simp
theorem canon_inf (x : Nat) (hx : x < 18446744073709551616) : decide (canonN x = canonN 9218868437227405312) = (infB x && !negB x) ∧ decide (canonN x = canonN 18442240474082181120) = (infB x && negB x) := by
  have w1 : wild 9218868437227405312 = false := by decide +kernel
  have w2 : wild 18442240474082181120 = false := by decide +kernel
  have n1 : negB x = decide (9223372036854775808 ≤ x) := negB_iff hx
  rw [n1]
  unfold canonN
  rw [w1, w2]
  unfold infB
  cases h : wild x
  · unfold rung
    simp only [Bool.false_eq_true, if_false]
    constructor
    · rw [Bool.eq_iff_iff]; simp; omega
    · rw [Bool.eq_iff_iff]; simp; omega
  · unfold wild at h
    unfold rung nanN
    simp only [decide_eq_true_eq] at h
    simp only [if_true]
    constructor
    · rw [Bool.eq_iff_iff]; simp; omega
    · rw [Bool.eq_iff_iff]; simp; omega
theorem most_is (a b : Nat) : decide (mostN a b = canonN a) = true ∨ decide (mostN a b = canonN b) = true := by
  unfold mostN; cases lessN a b <;> simp
end Go.Proofs.Ytakbkpklfihfiaa.F64

/- Plain data of the layers: requests, results, configurations, and what is reckoned of them. No program in sight. -/
namespace Go.Proofs.Ytakbkpklfihfiaa
open F64
set_option linter.unusedVariables false

structure Opn where
  kind : Int
  key : ByteArray
  real : Nat
  id : Int
structure Req where
  client : Int
  stamp : Int
  op : Opn
structure Rsl where
  code : Int
  real : Nat

/-! ### Bytes as lists -/
theorem size_data (b : ByteArray) : b.data.toList.length = b.size := rfl
theorem toList_loop (b : ByteArray) (n : Nat) : ∀ i r, b.size - i = n → ByteArray.toList.loop b i r = r.reverse ++ b.data.toList.drop i := by
  induction n with
  | zero =>
    intro i r h
    unfold ByteArray.toList.loop
    rw [if_neg (by omega)]
    have : b.data.toList.length ≤ i := by rw [size_data]; omega
    rw [List.drop_eq_nil_of_le this, List.append_nil]
  | succ n ih =>
    intro i r h
    unfold ByteArray.toList.loop
    have hi : i < b.size := by omega
    rw [if_pos hi, ih (i + 1) _ (by omega)]
    have hl : i < b.data.toList.length := by rw [size_data]; exact hi
    rw [List.drop_eq_getElem_cons hl, List.reverse_cons, List.append_assoc]
    congr 1
    simp only [List.singleton_append]
    congr 1
    have : b.get! i = b.data[i]! := rfl
    rw [this, getElem!_pos b.data i hi]
    exact Array.getElem_toList _
theorem toList_data (b : ByteArray) : b.toList = b.data.toList := by
  unfold ByteArray.toList
  rw [toList_loop b _ 0 [] rfl]; simp
theorem toList_nil (b : ByteArray) : b.toList = [] ↔ b.size = 0 := by
  rw [toList_data, ← List.length_eq_zero_iff, size_data]
theorem toList_length (b : ByteArray) : b.toList.length = b.size := by rw [toList_data, size_data]
theorem toList_inj {a b : ByteArray} (h : a.toList = b.toList) : a = b := by
  rw [toList_data, toList_data] at h
  cases a; cases b; simp at h; simp [h]

/-! ### Layer 7 -/
/-- Members rise from behind last on, below 16. -/
def risingB : Int → List Int → Bool
  | _, [] => true
  | last, x :: xs => decide (last < x) && decide (x < 16) && risingB x xs
theorem risingB_drop (l : List Int) (last : Int) (i : Nat) (h : i < l.length) : risingB last (l.drop i) = (decide (last < l[i]) && decide (l[i] < 16) && risingB l[i] (l.drop (i + 1))) := by
  rw [List.drop_eq_getElem_cons h]; rfl
def membersB (l : List Int) : Bool := risingB (-1) l && decide (4 ≤ l.length) && decide (l.length ≤ 10)
theorem rising_facts (l : List Int) : ∀ last, risingB last l = true → (∀ x ∈ l, last < x ∧ x < 16) ∧ l.Pairwise (· < ·) := by
  induction l with
  | nil => intro last _; exact ⟨fun _ h => (List.not_mem_nil h).elim, List.Pairwise.nil⟩
  | cons x xs ih =>
    intro last h
    simp only [risingB, Bool.and_eq_true, decide_eq_true_eq] at h
    obtain ⟨⟨h1, h2⟩, h3⟩ := h
    obtain ⟨a, b⟩ := ih x h3
    refine ⟨?_, List.pairwise_cons.2 ⟨fun y hy => (a y hy).1, b⟩⟩
    intro y hy
    rcases List.mem_cons.1 hy with rfl | hy
    · exact ⟨h1, h2⟩
    · have := a y hy; exact ⟨by omega, this.2⟩
theorem rising_of (l : List Int) : ∀ last, (∀ x ∈ l, last < x ∧ x < 16) → l.Pairwise (· < ·) → risingB last l = true := by
  induction l with
  | nil => intro _ _ _; rfl
  | cons x xs ih =>
    intro last h p
    have hx := h x (List.mem_cons_self)
    have hp := List.pairwise_cons.1 p
    simp only [risingB, Bool.and_eq_true, decide_eq_true_eq]
    exact ⟨hx, ih x (fun y hy => ⟨hp.1 y hy, (h y (List.mem_cons_of_mem _ hy)).2⟩) hp.2⟩
theorem members_facts {l : List Int} (h : membersB l = true) : (∀ x ∈ l, 0 ≤ x ∧ x < 16) ∧ l.Pairwise (· < ·) ∧ 4 ≤ l.length ∧ l.length ≤ 10 := by
  unfold membersB at h
  simp only [Bool.and_eq_true, decide_eq_true_eq] at h
  obtain ⟨a, b⟩ := rising_facts l (-1) h.1.1
  exact ⟨fun x hx => ⟨by have := (a x hx).1; omega, (a x hx).2⟩, b, h.1.2, h.2⟩
theorem members_of {l : List Int} (h : ∀ x ∈ l, 0 ≤ x ∧ x < 16) (p : l.Pairwise (· < ·)) (h4 : 4 ≤ l.length) (h10 : l.length ≤ 10) : membersB l = true := by
  unfold membersB
  rw [rising_of l (-1) (fun x hx => ⟨by have := (h x hx).1; omega, (h x hx).2⟩) p]
  simp [h4, h10]

def hasB (l : List Int) (id : Int) : Bool := l.contains id
theorem hasB_iff (l : List Int) (id : Int) : hasB l id = true ↔ id ∈ l := by unfold hasB; exact List.contains_iff_mem
/-- Where a number parts a rising row. -/
def placeI (xs : List Int) (t : Int) : Nat := (xs.filter (fun x => decide (x < t))).length
theorem part_filter (xs : List Int) (t : Int) (i : Nat) (h0 : ∀ k (h : k < xs.length), k < i → xs[k] < t) (h1 : ∀ k (h : k < xs.length), i ≤ k → t ≤ xs[k]) :
    xs.filter (fun x => decide (x < t)) = xs.take i ∧ xs.filter (fun x => decide (t ≤ x)) = xs.drop i := by
  have hx : xs = xs.take i ++ xs.drop i := (List.take_append_drop i xs).symm
  have a : ∀ x ∈ xs.take i, x < t := by
    intro x hx
    obtain ⟨k, hk, rfl⟩ := List.getElem_of_mem hx
    simp only [List.length_take] at hk
    rw [List.getElem_take]
    exact h0 k (by omega) (by omega)
  have b : ∀ x ∈ xs.drop i, t ≤ x := by
    intro x hx
    obtain ⟨k, hk, rfl⟩ := List.getElem_of_mem hx
    simp only [List.length_drop] at hk
    rw [List.getElem_drop]
    exact h1 _ (by omega) (by omega)
  constructor
  · conv => lhs; rw [hx]
    rw [List.filter_append, List.filter_eq_self.2 (fun x hx => decide_eq_true (a x hx)), List.filter_eq_nil_iff.2 (fun x hx => by have := b x hx; simp; omega), List.append_nil]
  · conv => lhs; rw [hx]
    rw [List.filter_append, List.filter_eq_nil_iff.2 (fun x hx => by have := a x hx; simp; omega), List.filter_eq_self.2 (fun x hx => decide_eq_true (b x hx)), List.nil_append]
theorem place_of {xs : List Int} {t : Int} {i : Nat} (hi : i ≤ xs.length) (h0 : ∀ k (h : k < xs.length), k < i → xs[k] < t) (h1 : ∀ k (h : k < xs.length), i ≤ k → t ≤ xs[k]) : placeI xs t = i := by
  unfold placeI
  rw [(part_filter xs t i h0 h1).1, List.length_take]; omega
theorem place_contains {xs : List Int} {t : Int} {i : Nat} (p : xs.Pairwise (· < ·)) (h0 : ∀ k (h : k < xs.length), k < i → xs[k] < t) (h1 : ∀ k (h : k < xs.length), i ≤ k → t ≤ xs[k]) :
    hasB xs t = true ↔ ∃ h : i < xs.length, xs[i] = t := by
  rw [hasB_iff]
  constructor
  · intro h
    obtain ⟨k, hk, e⟩ := List.getElem_of_mem h
    have k0 : ¬ k < i := fun hlt => by have := h0 k hk hlt; omega
    have hi : i < xs.length := by omega
    refine ⟨hi, ?_⟩
    by_cases hki : k = i
    · subst hki; exact e
    · have := List.pairwise_iff_getElem.1 p i k hi hk (by omega)
      have := h1 i hi (Nat.le_refl _)
      omega
  · rintro ⟨h, e⟩
    rw [← e]; exact List.getElem_mem h

def confB (epoch : Int) (l : List Int) : Bool := decide (0 ≤ epoch) && decide (epoch ≤ 60) && membersB l
def faultsI (n : Int) : Int := if n < 1 then 0 else (n - 1) / 3
def quorumI (n : Int) : Int := if n < 1 then 0 else faultsI n + (n - faultsI n) / 2 + 1

/-- The members with id, and why not. -/
def joinE (l : List Int) (id : Int) : Int :=
  if membersB l && decide (0 ≤ id) && decide (id < 16) then
    if hasB l id then 7 else if l.length = 10 then 10 else 0
  else 1
def joinL (l : List Int) (id : Int) : List Int := if joinE l id = 0 then l.filter (fun x => decide (x < id)) ++ id :: l.filter (fun x => decide (id ≤ x)) else []
def leaveE (l : List Int) (id : Int) : Int :=
  if membersB l && decide (0 ≤ id) && decide (id < 16) then
    if hasB l id then if l.length = 4 then 9 else 0 else 8
  else 1
def leaveL (l : List Int) (id : Int) : List Int := if leaveE l id = 0 then l.filter (fun x => x != id) else []

theorem sorted_place (xs : List Int) (t : Int) (p : xs.Pairwise (· < ·)) : placeI xs t ≤ xs.length ∧ xs.filter (fun x => decide (x < t)) = xs.take (placeI xs t) ∧ xs.filter (fun x => decide (t ≤ x)) = xs.drop (placeI xs t) := by
  refine ⟨List.length_filter_le _ _, ?_⟩
  induction xs with
  | nil => exact ⟨rfl, rfl⟩
  | cons x xs ih =>
    have hp := List.pairwise_cons.1 p
    obtain ⟨a, b⟩ := ih hp.2
    by_cases h : x < t
    · have e : placeI (x :: xs) t = placeI xs t + 1 := by unfold placeI; simp [h]
      rw [e]
      constructor
      · rw [List.filter_cons, if_pos (decide_eq_true h), List.take_succ_cons, a]
      · rw [List.filter_cons, if_neg (by simp; omega), List.drop_succ_cons, b]
    · have hall : ∀ y ∈ x :: xs, t ≤ y := by
        intro y hy
        rcases List.mem_cons.1 hy with rfl | hy
        · omega
        · have := hp.1 y hy; omega
      have e0 : (x :: xs).filter (fun x => decide (x < t)) = [] := List.filter_eq_nil_iff.2 (fun y hy => by have := hall y hy; simp; omega)
      have e : placeI (x :: xs) t = 0 := by unfold placeI; rw [e0]; rfl
      rw [e, e0]
      exact ⟨rfl, List.filter_eq_self.2 (fun y hy => decide_eq_true (hall y hy))⟩

theorem leave_facts (xs : List Int) (t : Int) (p : xs.Pairwise (· < ·)) (h : hasB xs t = true) :
    placeI xs t < xs.length ∧ xs.filter (fun x => x != t) = xs.take (placeI xs t) ++ xs.drop (placeI xs t + 1) := by
  rw [hasB_iff] at h
  induction xs with
  | nil => exact (List.not_mem_nil h).elim
  | cons x xs ih =>
    have hp := List.pairwise_cons.1 p
    by_cases hx : x < t
    · have e : placeI (x :: xs) t = placeI xs t + 1 := by unfold placeI; simp [hx]
      have hm : t ∈ xs := by
        rcases List.mem_cons.1 h with rfl | h
        · omega
        · exact h
      obtain ⟨a, b⟩ := ih hp.2 hm
      rw [e]
      refine ⟨by simp; omega, ?_⟩
      rw [List.filter_cons, if_pos (by simp; omega), b]
      simp
    · have hall : ∀ y ∈ xs, t < y := by
        intro y hy; have := hp.1 y hy; omega
      have ht : x = t := by
        rcases List.mem_cons.1 h with h | h
        · exact h.symm
        · have := hall t h; omega
      subst ht
      have e0 : (x :: xs).filter (fun y => decide (y < x)) = [] := List.filter_eq_nil_iff.2 (fun y hy => by
        rcases List.mem_cons.1 hy with rfl | hy
        · simp
        · have := hall y hy; simp; omega)
      have e : placeI (x :: xs) x = 0 := by unfold placeI; rw [e0]; rfl
      rw [e]
      refine ⟨by simp, ?_⟩
      rw [List.filter_cons, if_neg (by simp)]
      simp only [List.take_zero, List.nil_append, Nat.zero_add, List.drop_succ_cons, List.drop_zero]
      exact List.filter_eq_self.2 (fun y hy => by have := hall y hy; simp; omega)

/-! ### Layer 11 -/
def withinB (n lo hi : Int) : Bool := decide (lo ≤ n) && decide (n ≤ hi)
def noneB (x : Nat) : Bool := decide (canonN x = 0)
def keyB (o : Opn) : Bool := decide (0 < o.key.size) && decide (o.key.size ≤ 16) && decide (o.id = 0)
def opB (o : Opn) : Bool :=
  if o.kind = 4 ∨ o.kind = 5 then noneB o.real && keyB o
  else if o.kind = 1 ∨ o.kind = 2 ∨ o.kind = 3 then keyB o
  else if o.kind = 6 ∨ o.kind = 7 then decide (o.key.size = 0) && noneB o.real && decide (0 ≤ o.id) && decide (o.id < 16)
  else false
def rightB (r : Req) : Bool := withinB r.client 1 8 && withinB r.stamp 1 1048576 && opB r.op
def nullB (r : Req) : Bool := decide (r.client = 0) && decide (r.stamp = 0) && decide (r.op.kind = 0) && decide (r.op.id = 0) && decide (r.op.key.size = 0) && noneB r.op.real
end Go.Proofs.Ytakbkpklfihfiaa

/- Layer 1 (pack), in plain words: what a writer writes. No program in sight. -/
namespace Go.Proofs.Ytakbkpklfihfiaa
set_option linter.unusedVariables false
set_option linter.unusedSimpArgs false

structure Wr where
  bs : List UInt8
  room : Int
  err : Int
/-- A number's last byte. -/
def lowB (n : Int) : UInt8 := UInt8.ofNat (n % 256).toNat
def big1 (n : Int) : List UInt8 := [lowB n]
def big2 (n : Int) : List UInt8 := [lowB (n / 256), lowB n]
def big4 (n : Int) : List UInt8 := [lowB (n / 16777216), lowB (n / 65536), lowB (n / 256), lowB n]
def big8 (n : Int) : List UInt8 := big4 (n / 4294967296) ++ big4 n
def failW (W : Wr) (e : Int) : Wr := ⟨W.bs, W.room, e⟩
def addW (W : Wr) (c : List UInt8) : Wr := if W.room < c.length then failW W 3 else ⟨W.bs ++ c, W.room - c.length, W.err⟩
/-- A field: written if nothing failed before and it may be. -/
def putW (W : Wr) (ok : Bool) (c : List UInt8) : Wr := if W.err = 0 then (if ok = true then addW W c else failW W 4) else W
def okN (n hi : Int) : Bool := decide (0 ≤ n) && decide (n ≤ hi)
def byteW (W : Wr) (n : Int) : Wr := putW W (okN n 255) (big1 n)
def wordW (W : Wr) (n : Int) : Wr := putW W (okN n 65535) (big2 n)
def longW (W : Wr) (n : Int) : Wr := putW W (okN n 4294967295) (big4 n)
def bitsW (W : Wr) (n : Int) : Wr := putW W true (big8 n)
def textW (W : Wr) (s : List UInt8) : Wr := putW W (decide (s.length ≤ 65535)) (big2 s.length ++ s)
def newW (limit : Int) : Wr := ⟨[], if 0 < limit then limit else 0, 0⟩
def doneS (W : Wr) : ByteArray := if W.err = 0 then ⟨W.bs.toArray⟩ else ⟨#[]⟩
theorem lowB_toNat (n : Int) : ((lowB n).toNat : Int) = n % 256 := by
  unfold lowB
  rw [UInt8.toNat_ofNat']
  have := Int.emod_nonneg n (show (256 : Int) ≠ 0 by decide)
  have := Int.emod_lt_of_pos n (show (0 : Int) < 256 by decide)
  omega
/-- A writer's bytes and room stay within what it began with. -/
structure WOk (W : Wr) : Prop where
  room : 0 ≤ W.room
  lim : W.bs.length + W.room ≤ 1048576
theorem WOk.fail {W : Wr} (h : WOk W) (e : Int) : WOk (failW W e) := ⟨h.room, h.lim⟩
theorem WOk.add {W : Wr} (h : WOk W) (c : List UInt8) : WOk (addW W c) := by
  unfold addW
  split
  · exact h.fail 3
  · have := h.room; have := h.lim
    exact ⟨by show 0 ≤ W.room - c.length; omega, by show ((W.bs ++ c).length : Int) + (W.room - c.length) ≤ 1048576; rw [List.length_append]; omega⟩
theorem WOk.put {W : Wr} (h : WOk W) (ok : Bool) (c : List UInt8) : WOk (putW W ok c) := by
  unfold putW
  split
  · split
    · exact h.add c
    · exact h.fail 4
  · exact h
theorem WOk.new {n : Int} (h : n ≤ 1048576) : WOk (newW n) := by
  unfold newW
  constructor
  · show 0 ≤ (if 0 < n then n else 0); split <;> omega
  · show ((([] : List UInt8).length : Nat) : Int) + (if 0 < n then n else 0) ≤ 1048576; simp; split <;> omega
end Go.Proofs.Ytakbkpklfihfiaa

/- Layers 7 and 9 (council, terms), in plain words. No program in sight. -/
namespace Go.Proofs.Ytakbkpklfihfiaa
set_option linter.unusedVariables false
set_option linter.unusedSimpArgs false

structure Sg where
  by_ : Int
  text : ByteArray
instance : Inhabited Sg := ⟨⟨0, ByteArray.empty⟩⟩
def sgAt (l : List Sg) (j : Nat) : Sg := l.getD j ⟨0, ByteArray.empty⟩
theorem sgAt_get {l : List Sg} {j : Nat} (h : j < l.length) : sgAt l j = l[j] := by unfold sgAt; rw [List.getD_eq_getElem?_getD, List.getElem?_eq_getElem h]; rfl
theorem quorum_ref (n : Int) (h : 1 ≤ n) : n / 2 + (n % 2 + faultsI n % 2) / 2 + faultsI n / 2 + 1 = quorumI n := by
  unfold quorumI faultsI
  rw [if_neg (by omega), if_neg (by omega)]
  omega
/-- The signatures from behind last on: of this text, of members, rising. -/
def chainB (xs : List Int) (text : ByteArray) : Int → List Sg → Bool
  | _, [] => true
  | last, s :: t => decide (s.text = text) && decide (last < s.by_) && hasB xs s.by_ && chainB xs text s.by_ t
def provesB (ep : Int) (xs : List Int) (text : ByteArray) (l : List Sg) : Bool := confB ep xs && decide (l.length ≤ 16) && decide (quorumI xs.length ≤ l.length) && chainB xs text (-1) l
theorem chain_drop (xs : List Int) (text : ByteArray) (l : List Sg) (last : Int) (i : Nat) (h : i < l.length) :
    chainB xs text last (l.drop i) = (decide ((sgAt l i).text = text) && decide (last < (sgAt l i).by_) && hasB xs (sgAt l i).by_ && chainB xs text (sgAt l i).by_ (l.drop (i + 1))) := by
  rw [List.drop_eq_getElem_cons h, sgAt_get h]; rfl
/-- One signature, as the reference looks at it. -/
def okAt (xs : List Int) (text : ByteArray) (l : List Sg) (j : Nat) : Prop := (sgAt l j).text = text ∧ hasB xs (sgAt l j).by_ = true ∧ (0 < j → (sgAt l (j - 1)).by_ < (sgAt l j).by_)
theorem chain_of_ok (xs : List Int) (text : ByteArray) (l : List Sg) (hm : membersB xs = true) (h : ∀ j, j < l.length → okAt xs text l j) : chainB xs text (-1) l = true := by
  have key : ∀ n i last, l.length - i = n → i ≤ l.length → (i < l.length → last < (sgAt l i).by_) → chainB xs text last (l.drop i) = true := by
    intro n
    induction n with
    | zero =>
      intro i last hn hi hl
      rw [List.drop_eq_nil_of_le (by omega)]; rfl
    | succ n ih =>
      intro i last hn hi hl
      have hlt : i < l.length := by omega
      obtain ⟨o1, o2, o3⟩ := h i hlt
      rw [chain_drop xs text l last i hlt, decide_eq_true o1, decide_eq_true (hl hlt), o2]
      simp only [Bool.true_and]
      refine ih (i + 1) _ (by omega) (by omega) (fun h1 => ?_)
      have := (h (i + 1) h1).2.2 (by omega)
      simpa using this
  have := key l.length 0 (-1) rfl (Nat.zero_le _) (fun h0 => by
    have := (h 0 h0).2.1
    rw [hasB_iff] at this
    have := ((members_facts hm).1 _ this).1
    omega)
  simpa using this
theorem ok_of_chain (xs : List Int) (text : ByteArray) (l : List Sg) (h : chainB xs text (-1) l = true) : ∀ j, j < l.length → okAt xs text l j := by
  have key : ∀ j, j ≤ l.length → (∃ last, (0 < j → last = (sgAt l (j - 1)).by_) ∧ chainB xs text last (l.drop j) = true) ∧ ∀ i, i < j → okAt xs text l i := by
    intro j
    induction j with
    | zero => intro _; exact ⟨⟨-1, fun h => absurd h (by decide), by simpa using h⟩, fun i hi => absurd hi (Nat.not_lt_zero _)⟩
    | succ j ih =>
      intro hj
      obtain ⟨⟨last, h1, h2⟩, h3⟩ := ih (by omega)
      rw [chain_drop xs text l last j (by omega)] at h2
      simp only [Bool.and_eq_true, decide_eq_true_eq] at h2
      obtain ⟨⟨⟨c1, c2⟩, c3⟩, c4⟩ := h2
      refine ⟨⟨_, fun _ => by simp, c4⟩, fun i hi => ?_⟩
      rcases Nat.lt_or_eq_of_le (Nat.lt_succ_iff.1 hi) with hi | rfl
      · exact h3 i hi
      · exact ⟨c1, c3, fun h0 => by rw [← h1 h0]; exact c2⟩
  exact fun j hj => (key l.length (Nat.le_refl _)).2 j hj
/-- The reference's word. -/
theorem proves_ref (ep : Int) (xs : List Int) (text : ByteArray) (l : List Sg) :
    ((∀ j, j < l.length → okAt xs text l j) → provesB ep xs text l = (confB ep xs && decide (quorumI xs.length ≤ l.length) && decide (l.length ≤ 16))) ∧
    ((∃ j, j < l.length ∧ ¬ okAt xs text l j) → provesB ep xs text l = false) := by
  constructor
  · intro h
    unfold provesB
    cases hc : confB ep xs
    · rfl
    · have hm : membersB xs = true := by unfold confB at hc; simp only [Bool.and_eq_true] at hc; exact hc.2
      rw [chain_of_ok xs text l hm h]
      simp [Bool.and_comm]
  · rintro ⟨j, hj, hn⟩
    unfold provesB
    cases hc : chainB xs text (-1) l
    · simp
    · exact absurd (ok_of_chain xs text l hc j hj) hn
end Go.Proofs.Ytakbkpklfihfiaa

/- A map from texts to reals, as the list of its entries: what the machine's operations on it come to. -/
namespace Go.Proofs.Ytakbkpklfihfiaa
open Go.RowKit Go.MapKept
set_option linter.unusedSimpArgs false
set_option linter.unusedVariables false

abbrev Ks := List (ByteArray × Nat)
def kvE (p : ByteArray × Nat) : Value × Value := (.string p.1, .float .f64 p.2)
def getK (ks : Ks) (k : ByteArray) : Option Nat := (ks.find? (fun p => decide (p.1 = k))).map (·.2)
def hasK (ks : Ks) (k : ByteArray) : Bool := (getK ks k).isSome
def valK (ks : Ks) (k : ByteArray) : Nat := (getK ks k).getD 0
def setK (ks : Ks) (k : ByteArray) (x : Nat) : Ks := if hasK ks k = true then ks.map (fun p => if p.1 = k then (k, x) else p) else ks ++ [(k, x)]
def delK (ks : Ks) (k : ByteArray) : Ks := ks.filter (fun p => decide (p.1 ≠ k))

theorem getK_none {ks : Ks} {k : ByteArray} : getK ks k = none ↔ ∀ p ∈ ks, p.1 ≠ k := by
  unfold getK; rw [Option.map_eq_none_iff, List.find?_eq_none]; simp
theorem getK_at {ks : Ks} {k : ByteArray} {j x : Nat} (nd : (ks.map (·.1)).Nodup) (h : ks[j]? = some (k, x)) : getK ks k = some x := by
  induction ks generalizing j with
  | nil => simp at h
  | cons p ps ih =>
    have nd' : p.1 ∉ ps.map (·.1) ∧ (ps.map (·.1)).Nodup := by simpa using nd
    cases j with
    | zero =>
      have : p = (k, x) := by simpa using h
      subst this
      simp [getK, List.find?_cons]
    | succ j =>
      have h' : ps[j]? = some (k, x) := by simpa using h
      have hm : k ∈ ps.map (·.1) := by
        have := List.mem_of_getElem? h'
        exact List.mem_map.2 ⟨_, this, rfl⟩
      have hne : p.1 ≠ k := fun e => nd'.1 (e ▸ hm)
      have := ih nd'.2 h'
      unfold getK at this ⊢
      rw [List.find?_cons, decide_eq_false hne]
      exact this
theorem set_at {ks : Ks} {k : ByteArray} {j x : Nat} (y : Nat) (nd : (ks.map (·.1)).Nodup) (h : ks[j]? = some (k, x)) : ks.set j (k, y) = ks.map (fun p => if p.1 = k then (k, y) else p) := by
  induction ks generalizing j with
  | nil => simp at h
  | cons p ps ih =>
    have nd' : p.1 ∉ ps.map (·.1) ∧ (ps.map (·.1)).Nodup := by simpa using nd
    cases j with
    | zero =>
      have : p = (k, x) := by simpa using h
      subst this
      simp only [List.set_cons_zero, List.map_cons, if_true]
      congr 1
      have : ∀ q ∈ ps, (if q.1 = k then (k, y) else q) = q := by
        intro q hq
        rw [if_neg]
        intro e
        exact nd'.1 (List.mem_map.2 ⟨q, hq, e⟩)
      exact (List.map_id'' (f := fun q : ByteArray × Nat => if q.1 = k then (k, y) else q) |> fun _ => by
        conv => lhs; rw [← List.map_id ps]
        exact List.map_congr_left (fun q hq => (this q hq).symm))
    | succ j =>
      have h' : ps[j]? = some (k, x) := by simpa using h
      have hm : k ∈ ps.map (·.1) := List.mem_map.2 ⟨_, List.mem_of_getElem? h', rfl⟩
      have hne : p.1 ≠ k := fun e => nd'.1 (e ▸ hm)
      simp only [List.set_cons_succ, List.map_cons, if_neg hne]
      rw [ih nd'.2 h']
theorem erase_at {ks : Ks} {k : ByteArray} {j x : Nat} (nd : (ks.map (·.1)).Nodup) (h : ks[j]? = some (k, x)) : ks.eraseIdx j = delK ks k := by
  induction ks generalizing j with
  | nil => simp at h
  | cons p ps ih =>
    have nd' : p.1 ∉ ps.map (·.1) ∧ (ps.map (·.1)).Nodup := by simpa using nd
    cases j with
    | zero =>
      have : p = (k, x) := by simpa using h
      subst this
      have : ∀ q ∈ ps, decide (q.1 ≠ k) = true := by
        intro q hq
        have : q.1 ≠ k := fun e => nd'.1 (List.mem_map.2 ⟨q, hq, e⟩)
        simpa using this
      simp only [List.eraseIdx_cons_zero, delK, List.filter_cons]
      rw [if_neg (by simp)]
      exact (List.filter_eq_self.2 this).symm
    | succ j =>
      have h' : ps[j]? = some (k, x) := by simpa using h
      have hm : k ∈ ps.map (·.1) := List.mem_map.2 ⟨_, List.mem_of_getElem? h', rfl⟩
      have hne : p.1 ≠ k := fun e => nd'.1 (e ▸ hm)
      have := ih nd'.2 h'
      unfold delK at this ⊢
      simp only [List.eraseIdx_cons_succ, List.filter_cons]
      rw [if_pos (by simpa using hne), this]

theorem map_erase {α β : Type} (f : α → β) (l : List α) : ∀ j, (l.eraseIdx j).map f = (l.map f).eraseIdx j := by
  induction l with
  | nil => intro j; simp
  | cons a l ih => intro j; cases j with
    | zero => simp
    | succ j => simp [ih]
theorem getK_set (ks : Ks) (k k' : ByteArray) (x : Nat) : getK (setK ks k x) k' = if k' = k then some x else getK ks k' := by
  unfold setK
  split
  · rename_i h
    have hh : hasK ks k = true := h
    clear h
    induction ks with
    | nil => simp [hasK, getK] at hh
    | cons p ps ih =>
      by_cases hp : p.1 = k
      · simp only [List.map_cons, if_pos hp]
        by_cases hk : k' = k
        · subst hk; simp [getK, List.find?_cons]
        · rw [if_neg hk]
          have hnp : ¬ p.1 = k' := fun e => hk (e ▸ hp)
          have hnk : ¬ k = k' := fun e => hk e.symm
          unfold getK
          rw [List.find?_cons, decide_eq_false hnk, List.find?_cons, decide_eq_false hnp]
          simp only
          -- the rest: entries that bear k do not matter to k'
          clear ih hh
          induction ps with
          | nil => rfl
          | cons q qs ih2 =>
            by_cases hq : q.1 = k
            · simp only [List.map_cons, if_pos hq, List.find?_cons, decide_eq_false hnk]
              rw [decide_eq_false (show ¬ q.1 = k' from fun e => hk (e ▸ hq))]
              exact ih2
            · simp only [List.map_cons, if_neg hq, List.find?_cons]
              cases decide (q.1 = k')
              · exact ih2
              · rfl
      · have hh' : hasK ps k = true := by
          unfold hasK getK at hh ⊢
          rw [List.find?_cons, decide_eq_false hp] at hh
          exact hh
        have := ih hh'
        simp only [List.map_cons, if_neg hp]
        unfold getK at this ⊢
        rw [List.find?_cons, List.find?_cons]
        cases hd : decide (p.1 = k')
        · exact this
        · have e : p.1 = k' := of_decide_eq_true hd
          rw [if_neg (fun e' => hp (e.trans e'))]
  · rename_i h
    have hn : ∀ p ∈ ks, p.1 ≠ k := by
      apply getK_none.1
      cases hg : getK ks k with
      | none => rfl
      | some v => exact absurd (by unfold hasK; rw [hg]; rfl) h
    by_cases hk : k' = k
    · subst hk
      rw [if_pos rfl]
      unfold getK
      rw [List.find?_append]
      have : ks.find? (fun p => decide (p.1 = k')) = none := List.find?_eq_none.2 (fun p hp => by simpa using hn p hp)
      rw [this]
      simp
    · rw [if_neg hk]
      unfold getK
      rw [List.find?_append]
      have : [(k, x)].find? (fun p : ByteArray × Nat => decide (p.1 = k')) = none := by
        rw [List.find?_cons, decide_eq_false (fun e => hk e.symm)]; rfl
      rw [this]
      simp
theorem getK_del (ks : Ks) (k k' : ByteArray) : getK (delK ks k) k' = if k' = k then none else getK ks k' := by
  by_cases hk : k' = k
  · rw [if_pos hk, getK_none]
    intro p hp
    unfold delK at hp
    have := (List.mem_filter.1 hp).2
    rw [hk]; simpa using this
  · rw [if_neg hk]
    induction ks with
    | nil => rfl
    | cons p ps ih =>
      unfold delK at ih ⊢
      rw [List.filter_cons]
      split
      · unfold getK at ih ⊢
        rw [List.find?_cons, List.find?_cons]
        cases decide (p.1 = k')
        · exact ih
        · rfl
      · rename_i hp
        have hp : p.1 = k := by simpa using hp
        rw [ih]
        unfold getK
        rw [List.find?_cons, decide_eq_false (fun e => hk (e.symm.trans hp))]
theorem setK_keys (ks : Ks) (k : ByteArray) (x : Nat) : (setK ks k x).map (·.1) = if hasK ks k = true then ks.map (·.1) else ks.map (·.1) ++ [k] := by
  unfold setK
  split
  · rw [List.map_map]
    apply List.map_congr_left
    intro p _
    show (if p.1 = k then (k, x) else p).1 = p.1
    split
    · rename_i e; exact e.symm
    · rfl
  · simp
theorem setK_length (ks : Ks) (k : ByteArray) (x : Nat) : (setK ks k x).length = if hasK ks k = true then ks.length else ks.length + 1 := by
  have := congrArg List.length (setK_keys ks k x)
  rw [List.length_map] at this
  rw [this]
  split <;> simp
theorem mem_setK {ks : Ks} {k : ByteArray} {x : Nat} {p : ByteArray × Nat} (h : p ∈ setK ks k x) : p = (k, x) ∨ p ∈ ks := by
  unfold setK at h
  split at h
  · obtain ⟨q, hq, rfl⟩ := List.mem_map.1 h
    split
    · exact .inl rfl
    · exact .inr hq
  · rcases List.mem_append.1 h with h | h
    · exact .inr h
    · exact .inl (by simpa using h)

/-- Block m is a map that holds just these entries, in the order in which they came. -/
structure MapW (w : World) (m : Nat) (ks : Ks) : Prop where
  ex : ∃ es clock, w.heap[m]? = some (.map es clock) ∧ Stamped es clock ∧ es.toList.map (fun e => (e.key, e.val)) = ks.map kvE

theorem MapW.lt {w : World} {m : Nat} {ks : Ks} (h : MapW w m ks) : m < w.heap.size := by
  obtain ⟨es, c, h, _⟩ := h.ex
  exact (Array.getElem?_eq_some_iff.1 h).1
theorem MapW.ext {S : Nat → Prop} {w w' : World} {m : Nat} {ks : Ks} (h : MapW w m ks) (x : Ext S w w') (hs : ¬ S m) : MapW w' m ks := by
  have hl := h.lt
  obtain ⟨es, c, h, r⟩ := h.ex
  exact ⟨es, c, (x.block m hl hs).trans h, r⟩
theorem MapW.heap {w w' : World} {m : Nat} {ks : Ks} (h : MapW w m ks) (e : w'.heap[m]? = w.heap[m]?) : MapW w' m ks := by
  obtain ⟨es, c, h, r⟩ := h.ex
  exact ⟨es, c, e.trans h, r⟩
theorem MapW.nodup {w : World} {m : Nat} {ks : Ks} (h : MapW w m ks) : (ks.map (·.1)).Nodup := by
  obtain ⟨es, c, _, st, e⟩ := h.ex
  have h3 := st.2.2
  have e2 : es.toList.map (·.key) = (ks.map (·.1)).map Value.string := by
    have := congrArg (List.map Prod.fst) e
    rw [List.map_map, List.map_map] at this
    rw [List.map_map]
    exact this
  rw [e2] at h3
  unfold List.Nodup at h3 ⊢
  rw [List.pairwise_map] at h3
  exact h3.imp (fun hne e => hne (by rw [e]))
theorem kv_keys {es : Array MapEntry} {ks : Ks} (e : es.toList.map (fun e => (e.key, e.val)) = ks.map kvE) : ∀ x ∈ es.toList, IsKey .string x.key := by
  intro x hx
  have : (x.key, x.val) ∈ ks.map kvE := by rw [← e]; exact List.mem_map.2 ⟨x, hx, rfl⟩
  obtain ⟨p, _, hp⟩ := List.mem_map.1 this
  have : x.key = .string p.1 := (congrArg Prod.fst hp).symm
  rw [this]; trivial
theorem kv_at {es : Array MapEntry} {ks : Ks} (e : es.toList.map (fun e => (e.key, e.val)) = ks.map kvE) {j : Nat} {x : MapEntry} (h : es.toList[j]? = some x) :
    ∃ p, ks[j]? = some p ∧ x.key = .string p.1 ∧ x.val = .float .f64 p.2 := by
  have := congrArg (fun l => l[j]?) e
  simp only [List.getElem?_map, h, Option.map_some] at this
  cases hk : ks[j]? with
  | none => rw [hk] at this; simp at this
  | some p =>
    rw [hk] at this
    simp only [Option.map_some, Option.some.injEq, kvE, Prod.mk.injEq] at this
    exact ⟨p, rfl, this.1, this.2⟩

section
variable {P : Program} {w : World} {mty kt et : TypeId} {m : Nat} {ks : Ks}
theorem MapW.lookup (hm : P.underlying mty = some (.map kt et)) (hd : P.underlying kt = some .string) (hz : (zeroValue et).run P w = .ok (.float .f64 0) w) (h : MapW w m ks) (k : ByteArray) :
    (Instr.lookup mty (.map (some m)) (.string k) true).run P w = .ok (.tuple #[.float .f64 (valK ks k), .bool (hasK ks k)]) w := by
  have nd := h.nodup
  obtain ⟨es, c, hb, st, e⟩ := h.ex
  rcases findNow_spec (d := .string) (k := .string k) trivial es.toList 0 (kv_keys e) with ⟨h1, h2⟩ | ⟨j, x, h1, h2, h3⟩
  · have hg : getK ks k = none := getK_none.2 (fun p hp he => by
      have : kvE p ∈ es.toList.map (fun e => (e.key, e.val)) := by rw [e]; exact List.mem_map.2 ⟨p, hp, rfl⟩
      obtain ⟨x, hx, hxe⟩ := List.mem_map.1 this
      exact h2 x hx ((congrArg Prod.fst hxe).trans (by show Value.string p.1 = _; rw [he])))
    have v0 : valK ks k = 0 := by unfold valK; rw [hg]; rfl
    have v1 : hasK ks k = false := by unfold hasK; rw [hg]; rfl
    rw [v0, v1]
    simp [Instr.lookup, run_underlying hm, Go.MapKept.run_getObj_map hb, Go.MapKept.run_checkKey hd (d := .string) (k := .string k) trivial, Go.MapKept.run_findKey hd h1, hz, Result.andThen]
  · obtain ⟨p, hp, hk, hv⟩ := kv_at e h2
    have hpk : p.1 = k := by rw [hk] at h3; cases h3; rfl
    have hg : getK ks k = some p.2 := getK_at nd (by rw [hp, ← hpk])
    have v0 : valK ks k = p.2 := by unfold valK; rw [hg]; rfl
    have v1 : hasK ks k = true := by unfold hasK; rw [hg]; rfl
    rw [v0, v1]
    simp [Instr.lookup, run_underlying hm, Go.MapKept.run_getObj_map hb, Go.MapKept.run_checkKey hd (d := .string) (k := .string k) trivial, Go.MapKept.run_findKey hd h1, hv, Result.andThen]
theorem MapW.lookup1 (hm : P.underlying mty = some (.map kt et)) (hd : P.underlying kt = some .string) (hz : (zeroValue et).run P w = .ok (.float .f64 0) w) (h : MapW w m ks) (k : ByteArray) :
    (Instr.lookup mty (.map (some m)) (.string k) false).run P w = .ok (.float .f64 (valK ks k)) w := by
  have nd := h.nodup
  obtain ⟨es, c, hb, st, e⟩ := h.ex
  rcases findNow_spec (d := .string) (k := .string k) trivial es.toList 0 (kv_keys e) with ⟨h1, h2⟩ | ⟨j, x, h1, h2, h3⟩
  · have hg : getK ks k = none := getK_none.2 (fun p hp he => by
      have : kvE p ∈ es.toList.map (fun e => (e.key, e.val)) := by rw [e]; exact List.mem_map.2 ⟨p, hp, rfl⟩
      obtain ⟨x, hx, hxe⟩ := List.mem_map.1 this
      exact h2 x hx ((congrArg Prod.fst hxe).trans (by show Value.string p.1 = _; rw [he])))
    have v0 : valK ks k = 0 := by unfold valK; rw [hg]; rfl
    rw [v0]
    simp [Instr.lookup, run_underlying hm, Go.MapKept.run_getObj_map hb, Go.MapKept.run_checkKey hd (d := .string) (k := .string k) trivial, Go.MapKept.run_findKey hd h1, hz, Result.andThen]
  · obtain ⟨p, hp, hk, hv⟩ := kv_at e h2
    have hpk : p.1 = k := by rw [hk] at h3; cases h3; rfl
    have hg : getK ks k = some p.2 := getK_at nd (by rw [hp, ← hpk])
    have v0 : valK ks k = p.2 := by unfold valK; rw [hg]; rfl
    rw [v0]
    simp [Instr.lookup, run_underlying hm, Go.MapKept.run_getObj_map hb, Go.MapKept.run_checkKey hd (d := .string) (k := .string k) trivial, Go.MapKept.run_findKey hd h1, hv, Result.andThen]
theorem MapW.len (hm : P.underlying mty = some (.map kt et)) (h : MapW w m ks) (ty : TypeId) :
    (Builtin.len_ #[mty] ty #[.map (some m)]).run P w = .ok (.int .i64 ks.length) w := by
  obtain ⟨es, c, hb, st, e⟩ := h.ex
  have : es.size = ks.length := by have := congrArg List.length e; simpa using this
  simp [Builtin.len_, run_underlying hm, Go.MapKept.run_getObj_map hb, Result.andThen, goInt, this]

/-- Another map in the place of a block. -/
def putMap (w : World) (m : Nat) (es : Array MapEntry) (c : Nat) : World := { w with heap := w.heap.setIfInBounds m (.map es c) }
theorem Ext.putMap {w : World} {m : Nat} {es : Array MapEntry} {c : Nat} : Ext (One m) w (putMap w m es c) :=
  ⟨rfl, rfl, rfl, by simp [Proofs.Ytakbkpklfihfiaa.putMap], fun k hk hs => by
    have : m ≠ k := fun e => hs e.symm
    simp [Proofs.Ytakbkpklfihfiaa.putMap, this]⟩
theorem MapW.update (hm : P.underlying mty = some (.map kt et)) (hd : P.underlying kt = some .string) (h : MapW w m ks) (k : ByteArray) (x : Nat) :
    ∃ w', (Instr.mapUpdate mty (.map (some m)) (.string k) (.float .f64 x)).run P w = .ok () w' ∧ MapW w' m (setK ks k x) ∧ Ext (One m) w w' := by
  have nd := h.nodup
  obtain ⟨es, c, hb, st, e⟩ := h.ex
  rcases findNow_spec (d := .string) (k := .string k) trivial es.toList 0 (kv_keys e) with ⟨h1, h2⟩ | ⟨j, y, h1, h2, h3⟩
  · have hg : getK ks k = none := getK_none.2 (fun p hp he => by
      have : kvE p ∈ es.toList.map (fun e => (e.key, e.val)) := by rw [e]; exact List.mem_map.2 ⟨p, hp, rfl⟩
      obtain ⟨x, hx, hxe⟩ := List.mem_map.1 this
      exact h2 x hx ((congrArg Prod.fst hxe).trans (by show Value.string p.1 = _; rw [he])))
    have v1 : ¬ hasK ks k = true := by unfold hasK; rw [hg]; simp
    refine ⟨putMap w m (es.push { key := .string k, val := .float .f64 x, born := c }) (c + 1), ?_, ⟨_, _, (heap_set hb).1, stamped_push st h2, ?_⟩, Ext.putMap⟩
    · simp [Instr.mapUpdate, run_underlying hm, Go.MapKept.run_getObj_map hb, Go.MapKept.run_checkKey hd (d := .string) (k := .string k) trivial, Go.MapKept.run_findKey hd h1, Go.MapKept.run_setObj_map _ hb, Result.andThen, putMap]
    · unfold setK; rw [if_neg v1]; simp [e, kvE]
  · obtain ⟨p, hp, hk, hv⟩ := kv_at e h2
    have hpk : p.1 = k := by rw [hk] at h3; cases h3; rfl
    have hp' : ks[j]? = some (k, p.2) := by rw [hp, ← hpk]
    have hg : getK ks k = some p.2 := getK_at nd hp'
    have v1 : hasK ks k = true := by unfold hasK; rw [hg]; rfl
    have hj : es[j]? = some y := by simpa using h2
    have hky : y.key = .string k := h3
    refine ⟨putMap w m (es.modify j fun e => { e with key := .string k, val := .float .f64 x }) c, ?_, ⟨_, _, (heap_set hb).1, stamped_modify st _ _ (fun _ _ => rfl) (fun e' _ he' => by rw [hj] at he'; cases he'; exact hky.symm), ?_⟩, Ext.putMap⟩
    · simp [Instr.mapUpdate, run_underlying hm, Go.MapKept.run_getObj_map hb, Go.MapKept.run_checkKey hd (d := .string) (k := .string k) trivial, Go.MapKept.run_findKey hd h1, Go.MapKept.run_setObj_map _ hb, hj, h3, Go.MapKept.run_keyThatStays (d := .string) (k := .string k) trivial, Result.andThen, putMap]
    · unfold setK; rw [if_pos v1, ← set_at x nd hp']
      apply List.ext_getElem?
      intro i
      have ei := congrArg (fun l => l[i]?) e
      simp only [List.getElem?_map] at ei
      simp only [List.getElem?_map, Array.getElem?_toList, Array.getElem?_modify, List.getElem?_set]
      by_cases hij : j = i
      · subst hij
        rw [if_pos rfl]
        have hjl : j < ks.length := (List.getElem?_eq_some_iff.1 hp).1
        rw [hj]
        simp [hjl, kvE]
      · rw [if_neg hij, if_neg hij]
        simpa using ei
theorem MapW.delete (hm : P.underlying mty = some (.map kt et)) (hd : P.underlying kt = some .string) (h : MapW w m ks) (k : ByteArray) (ty : TypeId) :
    ∃ w', (Builtin.delete_ #[mty, kt] ty #[.map (some m), .string k]).run P w = .ok (.tuple #[]) w' ∧ MapW w' m (delK ks k) ∧ Ext (One m) w w' := by
  have nd := h.nodup
  obtain ⟨es, c, hb, st, e⟩ := h.ex
  rcases findNow_spec (d := .string) (k := .string k) trivial es.toList 0 (kv_keys e) with ⟨h1, h2⟩ | ⟨j, y, h1, h2, h3⟩
  · have hg : ∀ p ∈ ks, p.1 ≠ k := (fun p hp he => by
      have : kvE p ∈ es.toList.map (fun e => (e.key, e.val)) := by rw [e]; exact List.mem_map.2 ⟨p, hp, rfl⟩
      obtain ⟨x, hx, hxe⟩ := List.mem_map.1 this
      exact h2 x hx ((congrArg Prod.fst hxe).trans (by show Value.string p.1 = _; rw [he])))
    refine ⟨putMap w m es c, ?_, ⟨_, _, (heap_set hb).1, st, ?_⟩, Ext.putMap⟩
    · simp [Builtin.delete_, run_underlying hm, Go.MapKept.run_getObj_map hb, Go.MapKept.run_checkKey hd (d := .string) (k := .string k) trivial, Go.MapKept.run_findKey hd h1, Go.MapKept.run_setObj_map _ hb, Result.andThen, putMap]
    · rw [e]; unfold delK
      rw [List.filter_eq_self.2 (fun p hp => by simpa using hg p hp)]
  · obtain ⟨p, hp, hk, hv⟩ := kv_at e h2
    have hpk : p.1 = k := by rw [hk] at h3; cases h3; rfl
    have hp' : ks[j]? = some (k, p.2) := by rw [hp, ← hpk]
    refine ⟨putMap w m (es.eraseIdxIfInBounds j) c, ?_, ⟨_, _, (heap_set hb).1, stamped_erase st _, ?_⟩, Ext.putMap⟩
    · simp [Builtin.delete_, run_underlying hm, Go.MapKept.run_getObj_map hb, Go.MapKept.run_checkKey hd (d := .string) (k := .string k) trivial, Go.MapKept.run_findKey hd h1, Go.MapKept.run_setObj_map _ hb, Result.andThen, putMap]
    · rw [← erase_at nd hp']
      have hjl : j < es.size := by have := (List.getElem?_eq_some_iff.1 h2).1; simpa using this
      unfold Array.eraseIdxIfInBounds
      rw [dif_pos hjl, Array.toList_eraseIdx, map_erase, e, ← map_erase]
end
end Go.Proofs.Ytakbkpklfihfiaa

/- Layer 12 (ledger), in plain words: what each call comes to. No program in sight. -/
namespace Go.Proofs.Ytakbkpklfihfiaa
open F64
set_option linter.unusedVariables false
set_option linter.unusedSimpArgs false

structure Cl where
  stamp : Int
  code : Int
  real : Nat
structure Lg where
  epoch : Int
  mem : List Int
  next : List Int
  done : Int
  keys : Ks
  cl : Nat → Cl

def newL (xs : List Int) : Lg := ⟨0, xs, xs, 0, [], fun _ => ⟨0, 0, 0⟩⟩
def fullB (g : Lg) : Bool := decide (g.done = (g.epoch + 1) * 4)
def setNext (g : Lg) (n : List Int) : Lg := ⟨g.epoch, g.mem, n, g.done, g.keys, g.cl⟩
def setKeys (g : Lg) (k : Ks) : Lg := ⟨g.epoch, g.mem, g.next, g.done, k, g.cl⟩
def setDone (g : Lg) (d : Int) : Lg := ⟨g.epoch, g.mem, g.next, d, g.keys, g.cl⟩
def setCl (g : Lg) (i : Nat) (c : Cl) : Lg := ⟨g.epoch, g.mem, g.next, g.done, g.keys, fun j => if j = i then c else g.cl j⟩
def moveL (g : Lg) (n : List Int) (e : Int) : Lg := if e = 0 then setNext g n else g
def moveC (e : Int) : Int := if e = 0 then 0 else if e = 7 then 3 else if e = 10 then 6 else if e = 8 then 4 else 5
def applyL (g : Lg) (o : Opn) : Lg :=
  if o.kind = 6 then moveL g (joinL g.next o.id) (joinE g.next o.id)
  else if o.kind = 7 then moveL g (leaveL g.next o.id) (leaveE g.next o.id)
  else if hasK g.keys o.key = true then
    (if o.kind = 1 then setKeys g (setK g.keys o.key (canonN o.real))
     else if o.kind = 2 then setKeys g (setK g.keys o.key (addN (valK g.keys o.key) o.real))
     else if o.kind = 3 then setKeys g (setK g.keys o.key (mostN (valK g.keys o.key) o.real))
     else if o.kind = 4 then setKeys g (delK g.keys o.key)
     else setKeys g (setK g.keys o.key (valK g.keys o.key)))
  else if o.kind = 1 then (if g.keys.length = 16 then g else setKeys g (setK g.keys o.key (canonN o.real)))
  else g
def applyR (g : Lg) (o : Opn) : Rsl :=
  if o.kind = 6 then ⟨moveC (joinE g.next o.id), 0⟩
  else if o.kind = 7 then ⟨moveC (leaveE g.next o.id), 0⟩
  else if hasK g.keys o.key = true then
    (if o.kind = 1 then ⟨0, canonN o.real⟩
     else if o.kind = 2 then ⟨0, addN (valK g.keys o.key) o.real⟩
     else if o.kind = 3 then ⟨0, mostN (valK g.keys o.key) o.real⟩
     else if o.kind = 4 then ⟨0, valK g.keys o.key⟩
     else ⟨0, valK g.keys o.key⟩)
  else if o.kind = 1 then (if g.keys.length = 16 then ⟨2, 0⟩ else ⟨0, canonN o.real⟩)
  else ⟨1, 0⟩
def doE (g : Lg) (r : Req) : Int := if rightB r = false ∧ nullB r = false then 1 else if fullB g = true then 18 else 0
def tick (g : Lg) : Lg := setDone g (g.done + 1)
def idxR (r : Req) : Nat := (r.client - 1).toNat
def doL (g : Lg) (r : Req) : Lg :=
  if doE g r ≠ 0 then g else if nullB r = true then tick g
  else if r.stamp < (g.cl (idxR r)).stamp then tick g
  else if (g.cl (idxR r)).stamp < r.stamp then setCl (applyL (tick g) r.op) (idxR r) ⟨r.stamp, (applyR (tick g) r.op).code, (applyR (tick g) r.op).real⟩
  else tick g
def doR (g : Lg) (r : Req) : Rsl :=
  if doE g r ≠ 0 then ⟨0, 0⟩ else if nullB r = true then ⟨8, 0⟩
  else if r.stamp < (g.cl (idxR r)).stamp then ⟨7, 0⟩
  else if (g.cl (idxR r)).stamp < r.stamp then applyR (tick g) r.op
  else ⟨(g.cl (idxR r)).code, (g.cl (idxR r)).real⟩
def turnE (g : Lg) : Int := if fullB g = false then 18 else if g.epoch = 60 then 3 else 0
def turnL (g : Lg) : Lg := if turnE g = 0 then ⟨g.epoch + 1, g.next, g.next, g.done, g.keys, g.cl⟩ else g

/-- What holds of a ledger at all times. -/
structure Inv (g : Lg) : Prop where
  ep : 0 ≤ g.epoch ∧ g.epoch ≤ 60
  mm : membersB g.mem = true
  mn : membersB g.next = true
  dn : 4 * g.epoch ≤ g.done ∧ g.done ≤ 4 * (g.epoch + 1)
  kl : g.keys.length ≤ 16
  kb : ∀ p ∈ g.keys, 1 ≤ p.1.size ∧ p.1.size ≤ 16 ∧ p.2 < 18446744073709551616 ∧ canonN p.2 = p.2
  cb : ∀ i, 0 ≤ (g.cl i).stamp ∧ (g.cl i).stamp ≤ 1048576 ∧ 0 ≤ (g.cl i).code ∧ (g.cl i).code ≤ 8 ∧ (g.cl i).real < 18446744073709551616 ∧ canonN (g.cl i).real = (g.cl i).real ∧ ((g.cl i).stamp = 0 → (g.cl i).code = 0 ∧ (g.cl i).real = 0)

theorem of_filt {α : Type} {p : α → Bool} {a : α} {l : List α} (h : a ∈ l.filter p) : a ∈ l := (List.mem_filter.1 h).1
theorem canon0 : canonN 0 = 0 := by decide +kernel
theorem inv_new {xs : List Int} (h : membersB xs = true) : Inv (newL xs) where
  ep := by simp [newL]
  mm := h
  mn := h
  dn := by simp [newL]
  kl := by simp [newL]
  kb := by simp [newL]
  cb := fun i => by simp [newL, canon0]
theorem val_ok {g : Lg} (h : Inv g) (k : ByteArray) : valK g.keys k < 18446744073709551616 ∧ canonN (valK g.keys k) = valK g.keys k := by
  unfold valK
  cases hg : getK g.keys k with
  | none => exact ⟨by simp, by simp [canon0]⟩
  | some x =>
    unfold getK at hg
    rw [Option.map_eq_some_iff] at hg
    obtain ⟨p, hp, rfl⟩ := hg
    have := h.kb p (List.mem_of_find?_eq_some hp)
    exact ⟨this.2.2.1, this.2.2.2⟩
theorem join_members {l : List Int} {id : Int} (h : joinE l id = 0) : membersB (joinL l id) = true := by
  have he := h
  unfold joinE at he
  by_cases hf : (membersB l && decide (0 ≤ id) && decide (id < 16)) = true
  · rw [if_pos hf] at he
    have hid : 0 ≤ id ∧ id < 16 := by simp only [Bool.and_eq_true, decide_eq_true_eq] at hf; exact ⟨hf.1.2, hf.2⟩
    have hm : membersB l = true := by simp only [Bool.and_eq_true] at hf; exact hf.1.1
    obtain ⟨m1, m2, m3, m4⟩ := members_facts hm
    cases hh : hasB l id
    · rw [hh] at he
      have h10 : l.length ≠ 10 := by intro e; simp [e] at he
      have hn : id ∉ l := fun hm => by have := (hasB_iff l id).2 hm; rw [hh] at this; cases this
      obtain ⟨s1, s2, s3⟩ := sorted_place l id m2
      have hJ : joinL l id = l.filter (fun x => decide (x < id)) ++ id :: l.filter (fun x => decide (id ≤ x)) := by unfold joinL; rw [if_pos h]
      have hlen : (joinL l id).length = l.length + 1 := by rw [hJ, s2, s3]; simp; omega
      refine members_of ?_ ?_ (by omega) (by omega)
      · intro x hx
        rw [hJ] at hx
        rcases List.mem_append.1 hx with hx | hx
        · exact m1 x (of_filt hx)
        · rcases List.mem_cons.1 hx with rfl | hx
          · exact hid
          · exact m1 x (of_filt hx)
      · rw [hJ, List.pairwise_append]
        refine ⟨m2.filter _, ?_, ?_⟩
        · rw [List.pairwise_cons]
          refine ⟨fun x hx => ?_, m2.filter _⟩
          have := (List.mem_filter.1 hx).2
          have hle : id ≤ x := of_decide_eq_true this
          have hne : x ≠ id := fun e => hn (e ▸ (List.mem_filter.1 hx).1)
          omega
        · intro x hx y hy
          have hx' : x < id := of_decide_eq_true (List.mem_filter.1 hx).2
          rcases List.mem_cons.1 hy with rfl | hy
          · exact hx'
          · have : id ≤ y := of_decide_eq_true (List.mem_filter.1 hy).2
            omega
    · rw [hh] at he; simp at he
  · rw [if_neg hf] at he; cases he
theorem leave_members {l : List Int} {id : Int} (h : leaveE l id = 0) : membersB (leaveL l id) = true := by
  have he := h
  unfold leaveE at he
  by_cases hf : (membersB l && decide (0 ≤ id) && decide (id < 16)) = true
  · rw [if_pos hf] at he
    have hm : membersB l = true := by simp only [Bool.and_eq_true] at hf; exact hf.1.1
    obtain ⟨m1, m2, m3, m4⟩ := members_facts hm
    cases hh : hasB l id
    · rw [hh] at he; simp at he
    · rw [hh] at he
      have h4 : l.length ≠ 4 := by intro e; simp [e] at he
      obtain ⟨k1, k2⟩ := leave_facts l id m2 hh
      have hJ : leaveL l id = l.filter (fun x => x != id) := by unfold leaveL; rw [if_pos h]
      have hlen : (leaveL l id).length = l.length - 1 := by rw [hJ, k2]; simp; omega
      refine members_of ?_ ?_ (by omega) (by omega)
      · intro x hx
        rw [hJ] at hx
        exact m1 x (of_filt hx)
      · rw [hJ]; exact m2.filter _
  · rw [if_neg hf] at he; cases he
theorem inv_next {g : Lg} (h : Inv g) {n : List Int} (hn : membersB n = true) : Inv (setNext g n) := ⟨h.ep, h.mm, hn, h.dn, h.kl, h.kb, h.cb⟩
theorem inv_keys {g : Lg} (h : Inv g) {k : Ks} (hl : k.length ≤ 16) (hk : ∀ p ∈ k, 1 ≤ p.1.size ∧ p.1.size ≤ 16 ∧ p.2 < 18446744073709551616 ∧ canonN p.2 = p.2) : Inv (setKeys g k) := ⟨h.ep, h.mm, h.mn, h.dn, hl, hk, h.cb⟩
theorem inv_put {g : Lg} (h : Inv g) {k : ByteArray} {x : Nat} (hk : 1 ≤ k.size ∧ k.size ≤ 16) (hx : x < 18446744073709551616) (hc : canonN x = x) (hl : hasK g.keys k = true ∨ g.keys.length ≠ 16) : Inv (setKeys g (setK g.keys k x)) := by
  refine inv_keys h ?_ ?_
  · rw [setK_length]
    have := h.kl
    split
    · exact this
    · rename_i hh
      rcases hl with hl | hl
      · exact absurd hl hh
      · omega
  · intro p hp
    rcases mem_setK hp with rfl | hp
    · exact ⟨hk.1, hk.2, hx, hc⟩
    · exact h.kb p hp
theorem inv_apply {g : Lg} (h : Inv g) {o : Opn} (ho : opB o = true) (hx : o.real < 18446744073709551616) : Inv (applyL g o) ∧ 0 ≤ (applyR g o).code ∧ (applyR g o).code ≤ 8 ∧ (applyR g o).real < 18446744073709551616 ∧ canonN (applyR g o).real = (applyR g o).real := by
  have hv := val_ok h o.key
  have mc : ∀ e, 0 ≤ moveC e ∧ moveC e ≤ 8 := by intro e; unfold moveC; (repeat' split) <;> decide
  have hz : (0 : Nat) < 18446744073709551616 := by decide
  have hk : o.kind ≠ 6 → o.kind ≠ 7 → 1 ≤ o.key.size ∧ o.key.size ≤ 16 := by
    intro h6 h7
    have kk : keyB o = true → 1 ≤ o.key.size ∧ o.key.size ≤ 16 := by
      intro hh; unfold keyB at hh; simp only [Bool.and_eq_true, decide_eq_true_eq] at hh; omega
    unfold opB at ho
    split at ho
    · simp only [Bool.and_eq_true] at ho; exact kk ho.2
    · split at ho
      · exact kk ho
      · rw [if_neg (by omega)] at ho; cases ho
  unfold applyL applyR
  by_cases h6 : o.kind = 6
  · rw [if_pos h6, if_pos h6]
    refine ⟨?_, (mc _).1, (mc _).2, hz, canon0⟩
    unfold moveL; split
    · rename_i e; exact inv_next h (join_members e)
    · exact h
  · rw [if_neg h6, if_neg h6]
    by_cases h7 : o.kind = 7
    · rw [if_pos h7, if_pos h7]
      refine ⟨?_, (mc _).1, (mc _).2, hz, canon0⟩
      unfold moveL; split
      · rename_i e; exact inv_next h (leave_members e)
      · exact h
    · rw [if_neg h7, if_neg h7]
      have hks := hk h6 h7
      by_cases hh : hasK g.keys o.key = true
      · rw [if_pos hh, if_pos hh]
        by_cases h1 : o.kind = 1
        · rw [if_pos h1, if_pos h1]
          exact ⟨inv_put h hks (canon_lt hx) (canon_idem _) (.inl hh), by simp, by simp, canon_lt hx, canon_idem _⟩
        · rw [if_neg h1, if_neg h1]
          by_cases h2 : o.kind = 2
          · rw [if_pos h2, if_pos h2]
            exact ⟨inv_put h hks (addN_lt _ _) (canon_addN _ _) (.inl hh), by simp, by simp, addN_lt _ _, canon_addN _ _⟩
          · rw [if_neg h2, if_neg h2]
            by_cases h3 : o.kind = 3
            · rw [if_pos h3, if_pos h3]
              exact ⟨inv_put h hks (mostN_lt hv.1 hx) (canon_mostN _ _) (.inl hh), by simp, by simp, mostN_lt hv.1 hx, canon_mostN _ _⟩
            · rw [if_neg h3, if_neg h3]
              by_cases h4 : o.kind = 4
              · rw [if_pos h4, if_pos h4]
                refine ⟨inv_keys h ?_ (fun p hp => h.kb p (of_filt hp)), by simp, by simp, hv.1, hv.2⟩
                exact Nat.le_trans (List.length_filter_le _ _) h.kl
              · rw [if_neg h4, if_neg h4]
                exact ⟨inv_put h hks hv.1 hv.2 (.inl hh), by simp, by simp, hv.1, hv.2⟩
      · rw [if_neg hh, if_neg hh]
        by_cases h1 : o.kind = 1
        · rw [if_pos h1, if_pos h1]
          by_cases hl : g.keys.length = 16
          · rw [if_pos hl, if_pos hl]; exact ⟨h, by simp, by simp, hz, canon0⟩
          · rw [if_neg hl, if_neg hl]
            exact ⟨inv_put h hks (canon_lt hx) (canon_idem _) (.inr hl), by simp, by simp, canon_lt hx, canon_idem _⟩
        · rw [if_neg h1, if_neg h1]; exact ⟨h, by simp, by simp, hz, canon0⟩
theorem inv_tick {g : Lg} (h : Inv g) (hf : fullB g = false) : Inv (tick g) := by
  have : ¬ g.done = (g.epoch + 1) * 4 := of_decide_eq_false hf
  have := h.dn
  exact ⟨h.ep, h.mm, h.mn, by show 4 * g.epoch ≤ g.done + 1 ∧ g.done + 1 ≤ 4 * (g.epoch + 1); omega, h.kl, h.kb, h.cb⟩
theorem doE_cases {g : Lg} {r : Req} : doE g r = 0 ↔ (rightB r = true ∨ nullB r = true) ∧ fullB g = false := by
  unfold doE
  cases rightB r <;> cases nullB r <;> cases fullB g <;> simp
theorem rightB_facts {r : Req} (h : rightB r = true) : 1 ≤ r.client ∧ r.client ≤ 8 ∧ 1 ≤ r.stamp ∧ r.stamp ≤ 1048576 ∧ opB r.op = true := by
  unfold rightB withinB at h
  simp only [Bool.and_eq_true, decide_eq_true_eq] at h
  obtain ⟨⟨⟨a, b⟩, c, d⟩, e⟩ := h
  exact ⟨a, b, c, d, e⟩
theorem null_not_right {r : Req} (h : nullB r = true) : rightB r = false := by
  cases hr : rightB r
  · rfl
  · have := rightB_facts hr
    unfold nullB at h
    simp only [Bool.and_eq_true, decide_eq_true_eq] at h
    omega
theorem inv_do {g : Lg} (h : Inv g) (r : Req) (hx : r.op.real < 18446744073709551616) : Inv (doL g r) ∧ 0 ≤ (doR g r).code ∧ (doR g r).code ≤ 8 ∧ (doR g r).real < 18446744073709551616 ∧ canonN (doR g r).real = (doR g r).real := by
  have hz : (0 : Nat) < 18446744073709551616 := by decide
  unfold doL doR
  by_cases he : doE g r = 0
  · have he' : ¬ doE g r ≠ 0 := by simp [he]
    rw [if_neg he', if_neg he']
    obtain ⟨hr, hf⟩ := doE_cases.1 he
    have ht := inv_tick h hf
    by_cases hn : nullB r = true
    · rw [if_pos hn, if_pos hn]; exact ⟨ht, by simp, by simp, hz, canon0⟩
    · rw [if_neg hn, if_neg hn]
      have hr := rightB_facts (hr.resolve_right hn)
      by_cases h1 : r.stamp < (g.cl (idxR r)).stamp
      · rw [if_pos h1, if_pos h1]; exact ⟨ht, by simp, by simp, hz, canon0⟩
      · rw [if_neg h1, if_neg h1]
        by_cases h2 : (g.cl (idxR r)).stamp < r.stamp
        · rw [if_pos h2, if_pos h2]
          obtain ⟨a1, a2, a3, a4, a5⟩ := inv_apply ht (o := r.op) hr.2.2.2.2 hx
          refine ⟨⟨a1.ep, a1.mm, a1.mn, a1.dn, a1.kl, a1.kb, ?_⟩, a2, a3, a4, a5⟩
          intro i
          show 0 ≤ (if i = idxR r then _ else _ : Cl).stamp ∧ _
          have := a1.cb i
          unfold setCl
          simp only
          split
          · refine ⟨?_, ?_, a2, a3, a4, a5, ?_⟩ <;> simp only <;> omega
          · exact this
        · rw [if_neg h2, if_neg h2]
          have := h.cb (idxR r)
          exact ⟨ht, this.2.2.1, this.2.2.2.1, this.2.2.2.2.1, this.2.2.2.2.2.1⟩
  · rw [if_pos he, if_pos he]; exact ⟨h, by simp, by simp, hz, canon0⟩
theorem inv_turn {g : Lg} (h : Inv g) : Inv (turnL g) := by
  unfold turnL
  split
  · rename_i e
    have he := e
    unfold turnE at he
    cases hf : fullB g
    · rw [hf] at he; simp at he
    · rw [hf] at he
      have hd : g.done = (g.epoch + 1) * 4 := of_decide_eq_true hf
      have h60 : ¬ g.epoch = 60 := by intro e; simp [e] at he
      have := h.ep
      exact ⟨by show 0 ≤ g.epoch + 1 ∧ g.epoch + 1 ≤ 60; omega, h.mn, h.mn, by show 4 * (g.epoch + 1) ≤ g.done ∧ g.done ≤ 4 * (g.epoch + 1 + 1); omega, h.kl, h.kb, h.cb⟩
  · exact h
end Go.Proofs.Ytakbkpklfihfiaa

/- Texts of layer 11, in plain words. No program in sight. -/
namespace Go.Proofs.Ytakbkpklfihfiaa
open F64
set_option linter.unusedVariables false
set_option linter.unusedSimpArgs false

def keyL (r : Req) : List UInt8 := r.op.key.data.toList
def reqT (r : Req) : List UInt8 := big1 1 ++ big1 r.client ++ big4 r.stamp ++ big1 r.op.kind ++ (big2 (keyL r).length ++ keyL r) ++ big8 (canonN r.op.real) ++ big1 r.op.id
def reqW (lim : Int) (r : Req) : Wr := byteW (bitsW (textW (byteW (longW (byteW (byteW (newW lim) 1) r.client) r.stamp) r.op.kind) (keyL r)) (canonN r.op.real)) r.op.id
/-- A request's text, and its error. -/
def reqL (r : Req) : List UInt8 := if nullB r = true then [0] else if rightB r = true then reqT r else []
def reqS (r : Req) : ByteArray := ⟨(reqL r).toArray⟩
def reqE (r : Req) : Int := if nullB r = true then 0 else if rightB r = true then 0 else 1
theorem put_good {W : Wr} (h : W.err = 0) {c : List UInt8} (hc : (c.length : Int) ≤ W.room) : putW W true c = ⟨W.bs ++ c, W.room - c.length, 0⟩ := by
  unfold putW addW
  rw [if_pos h, if_pos rfl, if_neg (by omega), h]
theorem op_bounds {o : Opn} (h : opB o = true) : 0 ≤ o.kind ∧ o.kind ≤ 255 ∧ 0 ≤ o.id ∧ o.id ≤ 255 ∧ o.key.size ≤ 16 := by
  have kk : keyB o = true → o.key.size ≤ 16 ∧ o.id = 0 := by
    intro hh; unfold keyB at hh; simp only [Bool.and_eq_true, decide_eq_true_eq] at hh; exact ⟨hh.1.2, hh.2⟩
  unfold opB at h
  split at h
  · simp only [Bool.and_eq_true] at h
    have := kk h.2; omega
  · split at h
    · have := kk h; omega
    · split at h
      · simp only [Bool.and_eq_true, decide_eq_true_eq] at h; omega
      · cases h
theorem okN_of {n hi : Int} (h0 : 0 ≤ n) (h1 : n ≤ hi) : okN n hi = true := by unfold okN; simp [h0, h1]
theorem reqT_length (r : Req) : ((reqT r).length : Int) = 18 + (keyL r).length := by
  unfold reqT
  simp [big1, big2, big4, big8]
  omega
theorem req_run {r : Req} (h : rightB r = true) {lim : Int} (hl : 35 ≤ lim) : reqW lim r = ⟨reqT r, lim - (reqT r).length, 0⟩ := by
  obtain ⟨h1, h2, h3, h4, h5⟩ := rightB_facts h
  obtain ⟨o1, o2, o3, o4, o5⟩ := op_bounds h5
  have hk : (keyL r).length ≤ 16 := by have : (keyL r).length = r.op.key.size := size_data _; omega
  have hn : newW lim = ⟨[], lim, 0⟩ := by unfold newW; rw [if_pos (by omega)]
  unfold reqW byteW longW textW bitsW
  rw [hn, okN_of (by decide) (by decide), okN_of (by omega) (by omega), okN_of (by omega) (by omega), okN_of o1 o2, okN_of o3 o4, decide_eq_true (by omega : (keyL r).length ≤ 65535)]
  have p1 := put_good (W := ⟨[], lim, 0⟩) rfl (c := big1 1) (by simp [big1]; omega)
  rw [p1]
  have p2 := put_good (W := ⟨[] ++ big1 1, lim - (big1 1).length, 0⟩) rfl (c := big1 r.client) (by simp [big1]; omega)
  rw [p2]
  have p3 := put_good (W := ⟨[] ++ big1 1 ++ big1 r.client, lim - (big1 1).length - (big1 r.client).length, 0⟩) rfl (c := big4 r.stamp) (by simp [big1, big4]; omega)
  rw [p3]
  have p4 := put_good (W := ⟨[] ++ big1 1 ++ big1 r.client ++ big4 r.stamp, lim - (big1 1).length - (big1 r.client).length - (big4 r.stamp).length, 0⟩) rfl (c := big1 r.op.kind) (by simp [big1, big4]; omega)
  rw [p4]
  have p5 := put_good (W := ⟨[] ++ big1 1 ++ big1 r.client ++ big4 r.stamp ++ big1 r.op.kind, lim - (big1 1).length - (big1 r.client).length - (big4 r.stamp).length - (big1 r.op.kind).length, 0⟩) rfl (c := big2 (keyL r).length ++ keyL r) (by simp [big1, big2, big4]; omega)
  rw [p5]
  have p6 := put_good (W := ⟨[] ++ big1 1 ++ big1 r.client ++ big4 r.stamp ++ big1 r.op.kind ++ (big2 (keyL r).length ++ keyL r), lim - (big1 1).length - (big1 r.client).length - (big4 r.stamp).length - (big1 r.op.kind).length - (big2 (keyL r).length ++ keyL r).length, 0⟩) rfl (c := big8 (canonN r.op.real)) (by simp [big1, big2, big4, big8]; omega)
  rw [p6]
  have p7 := put_good (W := ⟨[] ++ big1 1 ++ big1 r.client ++ big4 r.stamp ++ big1 r.op.kind ++ (big2 (keyL r).length ++ keyL r) ++ big8 (canonN r.op.real), lim - (big1 1).length - (big1 r.client).length - (big4 r.stamp).length - (big1 r.op.kind).length - (big2 (keyL r).length ++ keyL r).length - (big8 (canonN r.op.real)).length, 0⟩) rfl (c := big1 r.op.id) (by simp [big1, big2, big4, big8]; omega)
  rw [p7]
  unfold reqT
  congr 1
  simp [big1, big2, big4, big8]
  omega
theorem reqW_ok {r : Req} (h : rightB r = true) {lim : Int} (hl : 35 ≤ lim) : doneS (reqW lim r) = reqS r ∧ (reqW lim r).err = reqE r := by
  have hn : ¬ nullB r = true := fun e => by rw [null_not_right e] at h; cases h
  rw [req_run h hl]
  unfold doneS reqS reqL reqE
  rw [if_pos rfl, if_neg hn, if_pos h, if_neg hn, if_pos h]
  exact ⟨rfl, rfl⟩
/-! ### What is prepared -/
def headW (lim sg a b c : Int) : Wr := longW (longW (longW (byteW (newW lim) sg) a) b) c
def headL (sg a b c : Int) : List UInt8 := big1 sg ++ big4 a ++ big4 b ++ big4 c
def ok32 (a b c : Int) : Bool := okN a 4294967295 && okN b 4294967295 && okN c 4294967295
def prepB (e v s : Int) (r : Req) : Bool := decide (reqE r = 0) && ok32 e v s
def prepL (e v s : Int) (r : Req) : List UInt8 := if prepB e v s r = true then headL 80 e v s ++ reqL r else []
def prepS (e v s : Int) (r : Req) : ByteArray := ⟨(prepL e v s r).toArray⟩
def prepE (e v s : Int) (r : Req) : Int := if prepB e v s r = true then 0 else 1
theorem err_stays {W : Wr} (h : W.err ≠ 0) (ok : Bool) (c : List UInt8) : (putW W ok c).err = W.err := by unfold putW; rw [if_neg h]
theorem head_run {lim sg a b c : Int} (hl : 13 ≤ lim) (hs : 0 ≤ sg ∧ sg ≤ 255) : (ok32 a b c = true → headW lim sg a b c = ⟨headL sg a b c, lim - 13, 0⟩) ∧ (ok32 a b c = false → (headW lim sg a b c).err ≠ 0) := by
  have hn : newW lim = ⟨[], lim, 0⟩ := by unfold newW; rw [if_pos (by omega)]
  have p1 : byteW (newW lim) sg = ⟨big1 sg, lim - 1, 0⟩ := by
    unfold byteW
    rw [hn, okN_of hs.1 hs.2, put_good rfl (by simp [big1]; omega)]
    simp [big1]
  unfold headW ok32
  rw [p1]
  cases h1 : okN a 4294967295
  · refine ⟨fun h => by simp at h, fun _ => ?_⟩
    have e1 : (longW ⟨big1 sg, lim - 1, 0⟩ a).err = 4 := by unfold longW putW; rw [h1]; rfl
    unfold longW at e1 ⊢
    rw [err_stays (by rw [err_stays (by rw [e1]; decide), e1]; decide), err_stays (by rw [e1]; decide), e1]; decide
  · have p2 : longW ⟨big1 sg, lim - 1, 0⟩ a = ⟨big1 sg ++ big4 a, lim - 5, 0⟩ := by
      unfold longW
      rw [h1, put_good rfl (by simp [big4]; omega)]
      simp [big4]; omega
    rw [p2]
    cases h2 : okN b 4294967295
    · refine ⟨fun h => by simp at h, fun _ => ?_⟩
      have e1 : (longW ⟨big1 sg ++ big4 a, lim - 5, 0⟩ b).err = 4 := by unfold longW putW; rw [h2]; rfl
      unfold longW at e1 ⊢
      rw [err_stays (by rw [e1]; decide), e1]; decide
    · have p3 : longW ⟨big1 sg ++ big4 a, lim - 5, 0⟩ b = ⟨big1 sg ++ big4 a ++ big4 b, lim - 9, 0⟩ := by
        unfold longW
        rw [h2, put_good rfl (by simp [big4]; omega)]
        simp [big4]; omega
      rw [p3]
      cases h3 : okN c 4294967295
      · refine ⟨fun h => by simp at h, fun _ => ?_⟩
        have e1 : (longW ⟨big1 sg ++ big4 a ++ big4 b, lim - 9, 0⟩ c).err = 4 := by unfold longW putW; rw [h3]; rfl
        rw [e1]; decide
      · refine ⟨fun _ => ?_, fun h => by simp at h⟩
        unfold longW
        rw [h3, put_good rfl (by simp [big4]; omega)]
        unfold headL
        simp [big4]; omega
end Go.Proofs.Ytakbkpklfihfiaa

/- Layer 16 (change), in plain words. No program in sight. -/
namespace Go.Proofs.Ytakbkpklfihfiaa
open F64
set_option linter.unusedVariables false
set_option linter.unusedSimpArgs false

structure Ct where
  view : Int
  slot : Int
  req : Req
  sigs : List Sg
structure Ch where
  from_ : Int
  view : Int
  certs : List Ct
  by_ : Int
  text : ByteArray
instance : Inhabited Ct := ⟨⟨0, 0, ⟨0, 0, ⟨0, ByteArray.empty, 0, 0⟩⟩, []⟩⟩
def ctAt (l : List Ct) (j : Nat) : Ct := l.getD j default
theorem ctAt_get {l : List Ct} {j : Nat} (h : j < l.length) : ctAt l j = l[j] := by unfold ctAt; rw [List.getD_eq_getElem?_getD, List.getElem?_eq_getElem h]; rfl
/-- Signers are nodes. -/
def nodesB : List Sg → Bool
  | [] => true
  | s :: t => decide (0 ≤ s.by_) && decide (s.by_ < 200) && nodesB t
theorem nodes_drop (l : List Sg) (i : Nat) (h : i < l.length) : nodesB (l.drop i) = (decide (0 ≤ (sgAt l i).by_) && decide ((sgAt l i).by_ < 200) && nodesB (l.drop (i + 1))) := by
  rw [List.drop_eq_getElem_cons h, sgAt_get h]; rfl
def askedB (r : Req) : Bool := rightB r || nullB r
def slotB (epoch slot : Int) : Bool := decide (epoch * 4 + 1 ≤ slot) && decide (slot < epoch * 4 + 5)
def headB (epoch behind : Int) (x : Ct) : Bool := decide (behind < x.slot) && slotB epoch x.slot && decide (0 ≤ x.view) && decide (x.view ≤ 15) && decide (x.sigs.length ≤ 16)
def fitsB (epoch behind : Int) (x : Ct) : Bool := headB epoch behind x && nodesB x.sigs && askedB x.req
def certsB (epoch : Int) : Int → List Ct → Bool
  | _, [] => true
  | last, x :: t => fitsB epoch last x && certsB epoch x.slot t
theorem certs_drop (epoch : Int) (l : List Ct) (last : Int) (i : Nat) (h : i < l.length) : certsB epoch last (l.drop i) = (fitsB epoch last (ctAt l i) && certsB epoch (ctAt l i).slot (l.drop (i + 1))) := by
  rw [List.drop_eq_getElem_cons h, ctAt_get h]; rfl
def topB (epoch : Int) (c : Ch) : Bool := decide (0 ≤ epoch) && decide (epoch ≤ 60) && decide (0 ≤ c.from_) && decide (c.from_ < 16) && decide (1 ≤ c.view) && decide (c.view ≤ 15) && decide (c.certs.length ≤ 4)
def mayB (epoch : Int) (c : Ch) : Bool := topB epoch c && certsB epoch 0 c.certs

def wSig (W : Wr) (s : Sg) : Wr := textW (byteW W s.by_) s.text.data.toList
def wSigs (W : Wr) (l : List Sg) : Wr := l.foldl wSig W
def wCert (W : Wr) (x : Ct) : Wr := wSigs (byteW (textW (wordW (byteW W x.view) x.slot) (reqL x.req)) x.sigs.length) x.sigs
def wCerts (W : Wr) (l : List Ct) : Wr := l.foldl wCert W
def wTop (epoch : Int) (c : Ch) : Wr := byteW (byteW (byteW (wordW (byteW (newW 65535) 86) epoch) c.from_) c.view) c.certs.length
def chW (epoch : Int) (c : Ch) : Wr := wCerts (wTop epoch c) c.certs
def chS (epoch : Int) (c : Ch) : ByteArray := if mayB epoch c = true then doneS (chW epoch c) else ⟨#[]⟩
def chE (epoch : Int) (c : Ch) : Int := if mayB epoch c = true then (if (chW epoch c).err = 0 then 0 else 3) else 1
theorem wSigs_take (W : Wr) (l : List Sg) (i : Nat) (h : i < l.length) : wSigs W (l.take (i + 1)) = wSig (wSigs W (l.take i)) (sgAt l i) := by
  unfold wSigs
  rw [List.take_succ_eq_append_getElem h, List.foldl_append, sgAt_get h]; rfl
theorem wCerts_take (W : Wr) (l : List Ct) (i : Nat) (h : i < l.length) : wCerts W (l.take (i + 1)) = wCert (wCerts W (l.take i)) (ctAt l i) := by
  unfold wCerts
  rw [List.take_succ_eq_append_getElem h, List.foldl_append, ctAt_get h]; rfl
end Go.Proofs.Ytakbkpklfihfiaa

/- A map from keys of one kind to values, as the list of its entries: what the machine's operations on it come to. -/
namespace Go.Proofs.Ytakbkpklfihfiaa
open Go.RowKit Go.MapKept
set_option linter.unusedSimpArgs false
set_option linter.unusedVariables false

section
variable {K V : Type} [DecidableEq K]
def getG (ks : List (K × V)) (k : K) : Option V := (ks.find? (fun p => decide (p.1 = k))).map (·.2)
def hasG (ks : List (K × V)) (k : K) : Bool := (getG ks k).isSome
def setG (ks : List (K × V)) (k : K) (x : V) : List (K × V) := if hasG ks k = true then ks.map (fun p => if p.1 = k then (k, x) else p) else ks ++ [(k, x)]
theorem getG_none {ks : List (K × V)} {k : K} : getG ks k = none ↔ ∀ p ∈ ks, p.1 ≠ k := by
  unfold getG; rw [Option.map_eq_none_iff, List.find?_eq_none]; simp
theorem getG_at {ks : List (K × V)} {k : K} {j : Nat} {x : V} (nd : (ks.map (·.1)).Nodup) (h : ks[j]? = some (k, x)) : getG ks k = some x := by
  induction ks generalizing j with
  | nil => simp at h
  | cons p ps ih =>
    have nd' : p.1 ∉ ps.map (·.1) ∧ (ps.map (·.1)).Nodup := by simpa using nd
    cases j with
    | zero =>
      have : p = (k, x) := by simpa using h
      subst this
      simp [getG, List.find?_cons]
    | succ j =>
      have h' : ps[j]? = some (k, x) := by simpa using h
      have hm : k ∈ ps.map (·.1) := by
        have := List.mem_of_getElem? h'
        exact List.mem_map.2 ⟨_, this, rfl⟩
      have hne : p.1 ≠ k := fun e => nd'.1 (e ▸ hm)
      have := ih nd'.2 h'
      unfold getG at this ⊢
      rw [List.find?_cons, decide_eq_false hne]
      exact this
theorem getG_mem {ks : List (K × V)} {k : K} {x : V} (h : getG ks k = some x) : (k, x) ∈ ks := by
  unfold getG at h
  cases hf : ks.find? (fun p => decide (p.1 = k)) with
  | none => rw [hf] at h; simp at h
  | some p =>
    rw [hf] at h
    have h1 := List.find?_some hf
    have h2 := List.mem_of_find?_eq_some hf
    simp at h1 h
    obtain ⟨a, b⟩ := p
    simp at h1 h
    subst h1; subst h
    exact h2
theorem setG_at {ks : List (K × V)} {k : K} {j : Nat} {x : V} (y : V) (nd : (ks.map (·.1)).Nodup) (h : ks[j]? = some (k, x)) : ks.set j (k, y) = ks.map (fun p => if p.1 = k then (k, y) else p) := by
  induction ks generalizing j with
  | nil => simp at h
  | cons p ps ih =>
    have nd' : p.1 ∉ ps.map (·.1) ∧ (ps.map (·.1)).Nodup := by simpa using nd
    cases j with
    | zero =>
      have : p = (k, x) := by simpa using h
      subst this
      simp only [List.set_cons_zero, List.map_cons, if_true]
      congr 1
      have : ∀ q ∈ ps, (if q.1 = k then (k, y) else q) = q := by
        intro q hq
        rw [if_neg]
        intro e
        exact nd'.1 (List.mem_map.2 ⟨q, hq, e⟩)
      conv => lhs; rw [← List.map_id ps]
      exact List.map_congr_left (fun q hq => (this q hq).symm)
    | succ j =>
      have h' : ps[j]? = some (k, x) := by simpa using h
      have hm : k ∈ ps.map (·.1) := List.mem_map.2 ⟨_, List.mem_of_getElem? h', rfl⟩
      have hne : p.1 ≠ k := fun e => nd'.1 (e ▸ hm)
      simp only [List.set_cons_succ, List.map_cons, if_neg hne]
      rw [ih nd'.2 h']
theorem getG_setNew {ks : List (K × V)} {k : K} {x : V} (h : hasG ks k = false) (k' : K) : getG (ks ++ [(k, x)]) k' = if k' = k then some x else getG ks k' := by
  have hn : getG ks k = none := by unfold hasG at h; cases hg : getG ks k; rfl; rw [hg] at h; cases h
  unfold getG
  rw [List.find?_append]
  by_cases hk : k' = k
  · subst hk
    have : ks.find? (fun p => decide (p.1 = k')) = none := List.find?_eq_none.2 (fun p hp => by simpa using getG_none.1 hn p hp)
    rw [this, if_pos rfl]
    simp
  · rw [if_neg hk]
    have : [(k, x)].find? (fun p : K × V => decide (p.1 = k')) = none := by
      rw [List.find?_cons, decide_eq_false (fun e => hk e.symm)]; rfl
    rw [this]; simp
theorem setG_new {ks : List (K × V)} {k : K} (x : V) (h : hasG ks k = false) : setG ks k x = ks ++ [(k, x)] := by unfold setG; rw [if_neg (by rw [h]; simp)]

end
section
variable {K V : Type}
/-- How keys and values lie in a map. -/
structure MEnc (K V : Type) where
  d : TypeDesc
  ke : K → Value
  ve : V → Value
  key : ∀ k, IsKey d (ke k)
  inj : ∀ a b, ke a = ke b → a = b
def MEnc.kv (E : MEnc K V) (p : K × V) : Value × Value := (E.ke p.1, E.ve p.2)
/-- Block m is a map that holds just these entries, in the order in which they came. -/
structure MapG (E : MEnc K V) (w : World) (m : Nat) (ks : List (K × V)) : Prop where
  ex : ∃ es clock, w.heap[m]? = some (.map es clock) ∧ Stamped es clock ∧ es.toList.map (fun e => (e.key, e.val)) = ks.map E.kv
variable {E : MEnc K V}
theorem MapG.lt {w : World} {m : Nat} {ks : List (K × V)} (h : MapG E w m ks) : m < w.heap.size := by
  obtain ⟨es, c, h, _⟩ := h.ex
  exact (Array.getElem?_eq_some_iff.1 h).1
theorem MapG.ext {S : Nat → Prop} {w w' : World} {m : Nat} {ks : List (K × V)} (h : MapG E w m ks) (x : Ext S w w') (hs : ¬ S m) : MapG E w' m ks := by
  have hl := h.lt
  obtain ⟨es, c, h, r⟩ := h.ex
  exact ⟨es, c, (x.block m hl hs).trans h, r⟩
theorem MapG.extN {w w' : World} {m : Nat} {ks : List (K × V)} (h : MapG E w m ks) (x : Ext Non w w') : MapG E w' m ks := h.ext x fun f => f
theorem MapG.empty {w : World} {m : Nat} (h : w.heap[m]? = some (.map #[] 0)) : MapG E w m [] := ⟨#[], 0, h, stamped_empty 0, rfl⟩
theorem MapG.nodup {w : World} {m : Nat} {ks : List (K × V)} (h : MapG E w m ks) : (ks.map (·.1)).Nodup := by
  obtain ⟨es, c, _, st, e⟩ := h.ex
  have h3 := st.2.2
  have e2 : es.toList.map (·.key) = (ks.map (·.1)).map E.ke := by
    have := congrArg (List.map Prod.fst) e
    rw [List.map_map, List.map_map] at this
    rw [List.map_map]
    exact this
  rw [e2] at h3
  unfold List.Nodup at h3 ⊢
  rw [List.pairwise_map] at h3
  exact h3.imp (fun hne e => hne (by rw [e]))
theorem kvG_keys {es : Array MapEntry} {ks : List (K × V)} (e : es.toList.map (fun e => (e.key, e.val)) = ks.map E.kv) : ∀ x ∈ es.toList, IsKey E.d x.key := by
  intro x hx
  have : (x.key, x.val) ∈ ks.map E.kv := by rw [← e]; exact List.mem_map.2 ⟨x, hx, rfl⟩
  obtain ⟨p, _, hp⟩ := List.mem_map.1 this
  have : x.key = E.ke p.1 := (congrArg Prod.fst hp).symm
  rw [this]; exact E.key _
theorem kvG_at {es : Array MapEntry} {ks : List (K × V)} (e : es.toList.map (fun e => (e.key, e.val)) = ks.map E.kv) {j : Nat} {x : MapEntry} (h : es.toList[j]? = some x) :
    ∃ p, ks[j]? = some p ∧ x.key = E.ke p.1 ∧ x.val = E.ve p.2 := by
  have := congrArg (fun l => l[j]?) e
  simp only [List.getElem?_map, h, Option.map_some] at this
  cases hk : ks[j]? with
  | none => rw [hk] at this; simp at this
  | some p =>
    rw [hk] at this
    simp only [Option.map_some, Option.some.injEq, MEnc.kv, Prod.mk.injEq] at this
    exact ⟨p, rfl, this.1, this.2⟩
variable {P : Program} {w : World} {mty kt et : TypeId} {m : Nat} {ks : List (K × V)}
theorem MapG.find [DecidableEq K] (h : MapG E w m ks) (k : K) {es : Array MapEntry} (e : es.toList.map (fun e => (e.key, e.val)) = ks.map E.kv) :
    (getG ks k = none ∧ Instr.findNow E.d (E.ke k) es.toList 0 = some none ∧ ∀ x ∈ es.toList, x.key ≠ E.ke k) ∨
    (∃ (j : Nat) (x : MapEntry) (v : V), getG ks k = some v ∧ ks[j]? = some (k, v) ∧ Instr.findNow E.d (E.ke k) es.toList 0 = some (some (j, x.val)) ∧ es.toList[j]? = some x ∧ x.key = E.ke k ∧ x.val = E.ve v) := by
  have nd := h.nodup
  rcases findNow_spec (d := E.d) (k := E.ke k) (E.key k) es.toList 0 (kvG_keys e) with ⟨h1, h2⟩ | ⟨j, x, h1, h2, h3⟩
  · refine .inl ⟨getG_none.2 (fun p hp he => ?_), h1, h2⟩
    have : E.kv p ∈ es.toList.map (fun e => (e.key, e.val)) := by rw [e]; exact List.mem_map.2 ⟨p, hp, rfl⟩
    obtain ⟨x, hx, hxe⟩ := List.mem_map.1 this
    exact h2 x hx ((congrArg Prod.fst hxe).trans (by show E.ke p.1 = _; rw [he]))
  · obtain ⟨p, hp, hk, hv⟩ := kvG_at e h2
    have hpk : p.1 = k := E.inj _ _ (hk.symm.trans h3)
    refine .inr ⟨j, x, p.2, getG_at nd (by rw [hp, ← hpk]), by rw [hp, ← hpk], by simpa using h1, h2, h3, hv⟩
theorem MapG.lookup [DecidableEq K] {z : V} (hm : P.underlying mty = some (.map kt et)) (hd : P.underlying kt = some E.d) (hz : (zeroValue et).run P w = .ok (E.ve z) w) (h : MapG E w m ks) (k : K) :
    (Instr.lookup mty (.map (some m)) (E.ke k) true).run P w = .ok (.tuple #[E.ve ((getG ks k).getD z), .bool (hasG ks k)]) w := by
  have H := h
  obtain ⟨es, c, hb, st, e⟩ := h.ex
  rcases H.find k e with ⟨hg, h1, h2⟩ | ⟨j, x, v, hg, hj, h1, h2, h3, hv⟩
  · have v1 : hasG ks k = false := by unfold hasG; rw [hg]; rfl
    rw [v1, hg]
    simp [Instr.lookup, run_underlying hm, Go.MapKept.run_getObj_map hb, Go.MapKept.run_checkKey hd (d := E.d) (k := E.ke k) (E.key k), Go.MapKept.run_findKey hd h1, hz, Result.andThen]
  · have v1 : hasG ks k = true := by unfold hasG; rw [hg]; rfl
    rw [v1, hg]
    simp [Instr.lookup, run_underlying hm, Go.MapKept.run_getObj_map hb, Go.MapKept.run_checkKey hd (d := E.d) (k := E.ke k) (E.key k), Go.MapKept.run_findKey hd h1, hv, Result.andThen]
theorem MapG.len (hm : P.underlying mty = some (.map kt et)) (h : MapG E w m ks) (ty : TypeId) :
    (Builtin.len_ #[mty] ty #[.map (some m)]).run P w = .ok (.int .i64 ks.length) w := by
  obtain ⟨es, c, hb, st, e⟩ := h.ex
  have : es.size = ks.length := by have := congrArg List.length e; simpa using this
  simp [Builtin.len_, run_underlying hm, Go.MapKept.run_getObj_map hb, Result.andThen, goInt, this]
/-- Another map in the place of a block. -/
def putMapG (w : World) (m : Nat) (es : Array MapEntry) (c : Nat) : World := { w with heap := w.heap.setIfInBounds m (.map es c) }
theorem Ext.putMapG {w : World} {m : Nat} {es : Array MapEntry} {c : Nat} : Ext (One m) w (putMapG w m es c) :=
  ⟨rfl, rfl, rfl, by simp [Proofs.Ytakbkpklfihfiaa.putMapG], fun k hk hs => by
    have : m ≠ k := fun e => hs e.symm
    simp [Proofs.Ytakbkpklfihfiaa.putMapG, this]⟩
theorem MapG.update [DecidableEq K] (hm : P.underlying mty = some (.map kt et)) (hd : P.underlying kt = some E.d) (h : MapG E w m ks) (k : K) (x : V) :
    ∃ w', (Instr.mapUpdate mty (.map (some m)) (E.ke k) (E.ve x)).run P w = .ok () w' ∧ MapG E w' m (setG ks k x) ∧ Ext (One m) w w' := by
  have H := h
  have nd := h.nodup
  obtain ⟨es, c, hb, st, e⟩ := h.ex
  rcases H.find k e with ⟨hg, h1, h2⟩ | ⟨j, y, v, hg, hp', h1, h2, h3, hv⟩
  · have v1 : ¬ hasG ks k = true := by unfold hasG; rw [hg]; simp
    refine ⟨putMapG w m (es.push { key := E.ke k, val := E.ve x, born := c }) (c + 1), ?_, ⟨_, _, (heap_set hb).1, stamped_push st h2, ?_⟩, Ext.putMapG⟩
    · simp [Instr.mapUpdate, run_underlying hm, Go.MapKept.run_getObj_map hb, Go.MapKept.run_checkKey hd (d := E.d) (k := E.ke k) (E.key k), Go.MapKept.run_findKey hd h1, Go.MapKept.run_setObj_map _ hb, Result.andThen, putMapG]
    · unfold setG; rw [if_neg v1]; simp [e, MEnc.kv]
  · have v1 : hasG ks k = true := by unfold hasG; rw [hg]; rfl
    have hj : es[j]? = some y := by simpa using h2
    refine ⟨putMapG w m (es.modify j fun e => { e with key := E.ke k, val := E.ve x }) c, ?_, ⟨_, _, (heap_set hb).1, stamped_modify st _ _ (fun _ _ => rfl) (fun e' _ he' => by rw [hj] at he'; cases he'; exact h3.symm), ?_⟩, Ext.putMapG⟩
    · simp [Instr.mapUpdate, run_underlying hm, Go.MapKept.run_getObj_map hb, Go.MapKept.run_checkKey hd (d := E.d) (k := E.ke k) (E.key k), Go.MapKept.run_findKey hd h1, Go.MapKept.run_setObj_map _ hb, hj, h3, Go.MapKept.run_keyThatStays (d := E.d) (k := E.ke k) (E.key k), Result.andThen, putMapG]
    · unfold setG; rw [if_pos v1, ← setG_at x nd hp']
      apply List.ext_getElem?
      intro i
      have ei := congrArg (fun l => l[i]?) e
      simp only [List.getElem?_map] at ei
      simp only [List.getElem?_map, Array.getElem?_toList, Array.getElem?_modify, List.getElem?_set]
      by_cases hij : j = i
      · subst hij
        rw [if_pos rfl]
        have hjl : j < ks.length := (List.getElem?_eq_some_iff.1 hp').1
        rw [hj]
        simp [hjl, MEnc.kv]
      · rw [if_neg hij, if_neg hij]
        simpa using ei
end
end Go.Proofs.Ytakbkpklfihfiaa
