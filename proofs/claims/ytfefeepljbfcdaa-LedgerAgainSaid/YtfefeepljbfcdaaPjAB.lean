/- Joined texts: Data, PackP, TermsP. What each proves stands at its head; no conditions beside those in its theorems. -/
import Derived.Test.YtfefeepljbfcdaaPjAA
/- Plain data of the layers: requests, results, configurations, and what is reckoned of them. No program in sight. -/
namespace Go.Proofs.Ytfefeepljbfcdaa
open F64
set_option linter.unusedVariables false

structure Opn where
  kind : Int
  key : ByteArray
  real : Nat
  id : Int
structure Req where
  client : Int
  stamp : Int
  op : Opn
structure Rsl where
  code : Int
  real : Nat

/-! ### Bytes as lists -/
theorem size_data (b : ByteArray) : b.data.toList.length = b.size := rfl
theorem toList_loop (b : ByteArray) (n : Nat) : ∀ i r, b.size - i = n → ByteArray.toList.loop b i r = r.reverse ++ b.data.toList.drop i := by
  induction n with
  | zero =>
    intro i r h
    unfold ByteArray.toList.loop
    rw [if_neg (by omega)]
    have : b.data.toList.length ≤ i := by rw [size_data]; omega
    rw [List.drop_eq_nil_of_le this, List.append_nil]
  | succ n ih =>
    intro i r h
    unfold ByteArray.toList.loop
    have hi : i < b.size := by omega
    rw [if_pos hi, ih (i + 1) _ (by omega)]
    have hl : i < b.data.toList.length := by rw [size_data]; exact hi
    rw [List.drop_eq_getElem_cons hl, List.reverse_cons, List.append_assoc]
    congr 1
    simp only [List.singleton_append]
    congr 1
    have : b.get! i = b.data[i]! := rfl
    rw [this, getElem!_pos b.data i hi]
    exact Array.getElem_toList _
theorem toList_data (b : ByteArray) : b.toList = b.data.toList := by
  unfold ByteArray.toList
  rw [toList_loop b _ 0 [] rfl]; simp
theorem toList_nil (b : ByteArray) : b.toList = [] ↔ b.size = 0 := by
  rw [toList_data, ← List.length_eq_zero_iff, size_data]
theorem toList_inj {a b : ByteArray} (h : a.toList = b.toList) : a = b := by
  rw [toList_data, toList_data] at h
  cases a; cases b; simp at h; simp [h]

/-! ### Layer 7 -/
/-- Members rise from behind last on, below 16. -/
def risingB : Int → List Int → Bool
  | _, [] => true
  | last, x :: xs => decide (last < x) && decide (x < 16) && risingB x xs
theorem risingB_drop (l : List Int) (last : Int) (i : Nat) (h : i < l.length) : risingB last (l.drop i) = (decide (last < l[i]) && decide (l[i] < 16) && risingB l[i] (l.drop (i + 1))) := by
  rw [List.drop_eq_getElem_cons h]; rfl
def membersB (l : List Int) : Bool := risingB (-1) l && decide (4 ≤ l.length) && decide (l.length ≤ 10)
theorem rising_facts (l : List Int) : ∀ last, risingB last l = true → (∀ x ∈ l, last < x ∧ x < 16) ∧ l.Pairwise (· < ·) := by
  induction l with
  | nil => intro last _; exact ⟨fun _ h => (List.not_mem_nil h).elim, List.Pairwise.nil⟩
  | cons x xs ih =>
    intro last h
    simp only [risingB, Bool.and_eq_true, decide_eq_true_eq] at h
    obtain ⟨⟨h1, h2⟩, h3⟩ := h
    obtain ⟨a, b⟩ := ih x h3
    refine ⟨?_, List.pairwise_cons.2 ⟨fun y hy => (a y hy).1, b⟩⟩
    intro y hy
    rcases List.mem_cons.1 hy with rfl | hy
    · exact ⟨h1, h2⟩
    · have := a y hy; exact ⟨by omega, this.2⟩
theorem rising_of (l : List Int) : ∀ last, (∀ x ∈ l, last < x ∧ x < 16) → l.Pairwise (· < ·) → risingB last l = true := by
  induction l with
  | nil => intro _ _ _; rfl
  | cons x xs ih =>
    intro last h p
    have hx := h x (List.mem_cons_self)
    have hp := List.pairwise_cons.1 p
    simp only [risingB, Bool.and_eq_true, decide_eq_true_eq]
    exact ⟨hx, ih x (fun y hy => ⟨hp.1 y hy, (h y (List.mem_cons_of_mem _ hy)).2⟩) hp.2⟩
theorem members_facts {l : List Int} (h : membersB l = true) : (∀ x ∈ l, 0 ≤ x ∧ x < 16) ∧ l.Pairwise (· < ·) ∧ 4 ≤ l.length ∧ l.length ≤ 10 := by
  unfold membersB at h
  simp only [Bool.and_eq_true, decide_eq_true_eq] at h
  obtain ⟨a, b⟩ := rising_facts l (-1) h.1.1
  exact ⟨fun x hx => ⟨by have := (a x hx).1; omega, (a x hx).2⟩, b, h.1.2, h.2⟩
theorem members_of {l : List Int} (h : ∀ x ∈ l, 0 ≤ x ∧ x < 16) (p : l.Pairwise (· < ·)) (h4 : 4 ≤ l.length) (h10 : l.length ≤ 10) : membersB l = true := by
  unfold membersB
  rw [rising_of l (-1) (fun x hx => ⟨by have := (h x hx).1; omega, (h x hx).2⟩) p]
  simp [h4, h10]

def hasB (l : List Int) (id : Int) : Bool := l.contains id
theorem hasB_iff (l : List Int) (id : Int) : hasB l id = true ↔ id ∈ l := by unfold hasB; exact List.contains_iff_mem
/-- Where a number parts a rising row. -/
def placeI (xs : List Int) (t : Int) : Nat := (xs.filter (fun x => decide (x < t))).length
theorem part_filter (xs : List Int) (t : Int) (i : Nat) (h0 : ∀ k (h : k < xs.length), k < i → xs[k] < t) (h1 : ∀ k (h : k < xs.length), i ≤ k → t ≤ xs[k]) :
    xs.filter (fun x => decide (x < t)) = xs.take i ∧ xs.filter (fun x => decide (t ≤ x)) = xs.drop i := by
  have hx : xs = xs.take i ++ xs.drop i := (List.take_append_drop i xs).symm
  have a : ∀ x ∈ xs.take i, x < t := by
    intro x hx
    obtain ⟨k, hk, rfl⟩ := List.getElem_of_mem hx
    simp only [List.length_take] at hk
    rw [List.getElem_take]
    exact h0 k (by omega) (by omega)
  have b : ∀ x ∈ xs.drop i, t ≤ x := by
    intro x hx
    obtain ⟨k, hk, rfl⟩ := List.getElem_of_mem hx
    simp only [List.length_drop] at hk
    rw [List.getElem_drop]
    exact h1 _ (by omega) (by omega)
  constructor
  · conv => lhs; rw [hx]
    rw [List.filter_append, List.filter_eq_self.2 (fun x hx => decide_eq_true (a x hx)), List.filter_eq_nil_iff.2 (fun x hx => by have := b x hx; simp; omega), List.append_nil]
  · conv => lhs; rw [hx]
    rw [List.filter_append, List.filter_eq_nil_iff.2 (fun x hx => by have := a x hx; simp; omega), List.filter_eq_self.2 (fun x hx => decide_eq_true (b x hx)), List.nil_append]
theorem place_of {xs : List Int} {t : Int} {i : Nat} (hi : i ≤ xs.length) (h0 : ∀ k (h : k < xs.length), k < i → xs[k] < t) (h1 : ∀ k (h : k < xs.length), i ≤ k → t ≤ xs[k]) : placeI xs t = i := by
  unfold placeI
  rw [(part_filter xs t i h0 h1).1, List.length_take]; omega
theorem place_contains {xs : List Int} {t : Int} {i : Nat} (p : xs.Pairwise (· < ·)) (h0 : ∀ k (h : k < xs.length), k < i → xs[k] < t) (h1 : ∀ k (h : k < xs.length), i ≤ k → t ≤ xs[k]) :
    hasB xs t = true ↔ ∃ h : i < xs.length, xs[i] = t := by
  rw [hasB_iff]
  constructor
  · intro h
    obtain ⟨k, hk, e⟩ := List.getElem_of_mem h
    have k0 : ¬ k < i := fun hlt => by have := h0 k hk hlt; omega
    have hi : i < xs.length := by omega
    refine ⟨hi, ?_⟩
    by_cases hki : k = i
    · subst hki; exact e
    · have := List.pairwise_iff_getElem.1 p i k hi hk (by omega)
      have := h1 i hi (Nat.le_refl _)
      omega
  · rintro ⟨h, e⟩
    rw [← e]; exact List.getElem_mem h

def confB (epoch : Int) (l : List Int) : Bool := decide (0 ≤ epoch) && decide (epoch ≤ 60) && membersB l
/-- The members with id, and why not. -/
def joinE (l : List Int) (id : Int) : Int :=
  if membersB l && decide (0 ≤ id) && decide (id < 16) then
    if hasB l id then 7 else if l.length = 10 then 10 else 0
  else 1
def joinL (l : List Int) (id : Int) : List Int := if joinE l id = 0 then l.filter (fun x => decide (x < id)) ++ id :: l.filter (fun x => decide (id ≤ x)) else []
def leaveE (l : List Int) (id : Int) : Int :=
  if membersB l && decide (0 ≤ id) && decide (id < 16) then
    if hasB l id then if l.length = 4 then 9 else 0 else 8
  else 1
def leaveL (l : List Int) (id : Int) : List Int := if leaveE l id = 0 then l.filter (fun x => x != id) else []

theorem sorted_place (xs : List Int) (t : Int) (p : xs.Pairwise (· < ·)) : placeI xs t ≤ xs.length ∧ xs.filter (fun x => decide (x < t)) = xs.take (placeI xs t) ∧ xs.filter (fun x => decide (t ≤ x)) = xs.drop (placeI xs t) := by
  refine ⟨List.length_filter_le _ _, ?_⟩
  induction xs with
  | nil => exact ⟨rfl, rfl⟩
  | cons x xs ih =>
    have hp := List.pairwise_cons.1 p
    obtain ⟨a, b⟩ := ih hp.2
    by_cases h : x < t
    · have e : placeI (x :: xs) t = placeI xs t + 1 := by unfold placeI; simp [h]
      rw [e]
      constructor
      · rw [List.filter_cons, if_pos (decide_eq_true h), List.take_succ_cons, a]
      · rw [List.filter_cons, if_neg (by simp; omega), List.drop_succ_cons, b]
    · have hall : ∀ y ∈ x :: xs, t ≤ y := by
        intro y hy
        rcases List.mem_cons.1 hy with rfl | hy
        · omega
        · have := hp.1 y hy; omega
      have e0 : (x :: xs).filter (fun x => decide (x < t)) = [] := List.filter_eq_nil_iff.2 (fun y hy => by have := hall y hy; simp; omega)
      have e : placeI (x :: xs) t = 0 := by unfold placeI; rw [e0]; rfl
      rw [e, e0]
      exact ⟨rfl, List.filter_eq_self.2 (fun y hy => decide_eq_true (hall y hy))⟩

theorem leave_facts (xs : List Int) (t : Int) (p : xs.Pairwise (· < ·)) (h : hasB xs t = true) :
    placeI xs t < xs.length ∧ xs.filter (fun x => x != t) = xs.take (placeI xs t) ++ xs.drop (placeI xs t + 1) := by
  rw [hasB_iff] at h
  induction xs with
  | nil => exact (List.not_mem_nil h).elim
  | cons x xs ih =>
    have hp := List.pairwise_cons.1 p
    by_cases hx : x < t
    · have e : placeI (x :: xs) t = placeI xs t + 1 := by unfold placeI; simp [hx]
      have hm : t ∈ xs := by
        rcases List.mem_cons.1 h with rfl | h
        · omega
        · exact h
      obtain ⟨a, b⟩ := ih hp.2 hm
      rw [e]
      refine ⟨by simp; omega, ?_⟩
      rw [List.filter_cons, if_pos (by simp; omega), b]
      simp
    · have hall : ∀ y ∈ xs, t < y := by
        intro y hy; have := hp.1 y hy; omega
      have ht : x = t := by
        rcases List.mem_cons.1 h with h | h
        · exact h.symm
        · have := hall t h; omega
      subst ht
      have e0 : (x :: xs).filter (fun y => decide (y < x)) = [] := List.filter_eq_nil_iff.2 (fun y hy => by
        rcases List.mem_cons.1 hy with rfl | hy
        · simp
        · have := hall y hy; simp; omega)
      have e : placeI (x :: xs) x = 0 := by unfold placeI; rw [e0]; rfl
      rw [e]
      refine ⟨by simp, ?_⟩
      rw [List.filter_cons, if_neg (by simp)]
      simp only [List.take_zero, List.nil_append, Nat.zero_add, List.drop_succ_cons, List.drop_zero]
      exact List.filter_eq_self.2 (fun y hy => by have := hall y hy; simp; omega)

/-! ### Layer 11 -/
def withinB (n lo hi : Int) : Bool := decide (lo ≤ n) && decide (n ≤ hi)
def noneB (x : Nat) : Bool := decide (canonN x = 0)
def keyB (o : Opn) : Bool := decide (0 < o.key.size) && decide (o.key.size ≤ 16) && decide (o.id = 0)
def opB (o : Opn) : Bool :=
  if o.kind = 4 ∨ o.kind = 5 then noneB o.real && keyB o
  else if o.kind = 1 ∨ o.kind = 2 ∨ o.kind = 3 then keyB o
  else if o.kind = 6 ∨ o.kind = 7 then decide (o.key.size = 0) && noneB o.real && decide (0 ≤ o.id) && decide (o.id < 16)
  else false
def rightB (r : Req) : Bool := withinB r.client 1 8 && withinB r.stamp 1 1048576 && opB r.op
def nullB (r : Req) : Bool := decide (r.client = 0) && decide (r.stamp = 0) && decide (r.op.kind = 0) && decide (r.op.id = 0) && decide (r.op.key.size = 0) && noneB r.op.real
end Go.Proofs.Ytfefeepljbfcdaa

/- Layer 1 (pack), in plain words: what a writer writes. No program in sight. -/
namespace Go.Proofs.Ytfefeepljbfcdaa
set_option linter.unusedVariables false
set_option linter.unusedSimpArgs false

structure Wr where
  bs : List UInt8
  room : Int
  err : Int
/-- A number's last byte. -/
def lowB (n : Int) : UInt8 := UInt8.ofNat (n % 256).toNat
def big1 (n : Int) : List UInt8 := [lowB n]
def big2 (n : Int) : List UInt8 := [lowB (n / 256), lowB n]
def big4 (n : Int) : List UInt8 := [lowB (n / 16777216), lowB (n / 65536), lowB (n / 256), lowB n]
def big8 (n : Int) : List UInt8 := big4 (n / 4294967296) ++ big4 n
def failW (W : Wr) (e : Int) : Wr := ⟨W.bs, W.room, e⟩
def addW (W : Wr) (c : List UInt8) : Wr := if W.room < c.length then failW W 3 else ⟨W.bs ++ c, W.room - c.length, W.err⟩
/-- A field: written if nothing failed before and it may be. -/
def putW (W : Wr) (ok : Bool) (c : List UInt8) : Wr := if W.err = 0 then (if ok = true then addW W c else failW W 4) else W
def okN (n hi : Int) : Bool := decide (0 ≤ n) && decide (n ≤ hi)
def byteW (W : Wr) (n : Int) : Wr := putW W (okN n 255) (big1 n)
def wordW (W : Wr) (n : Int) : Wr := putW W (okN n 65535) (big2 n)
def longW (W : Wr) (n : Int) : Wr := putW W (okN n 4294967295) (big4 n)
def bitsW (W : Wr) (n : Int) : Wr := putW W true (big8 n)
def textW (W : Wr) (s : List UInt8) : Wr := putW W (decide (s.length ≤ 65535)) (big2 s.length ++ s)
def newW (limit : Int) : Wr := ⟨[], if 0 < limit then limit else 0, 0⟩
def doneS (W : Wr) : ByteArray := if W.err = 0 then ⟨W.bs.toArray⟩ else ⟨#[]⟩
theorem lowB_toNat (n : Int) : ((lowB n).toNat : Int) = n % 256 := by
  unfold lowB
  rw [UInt8.toNat_ofNat']
  have := Int.emod_nonneg n (show (256 : Int) ≠ 0 by decide)
  have := Int.emod_lt_of_pos n (show (0 : Int) < 256 by decide)
  omega
/-- A writer's bytes and room stay within what it began with. -/
structure WOk (W : Wr) : Prop where
  room : 0 ≤ W.room
  lim : W.bs.length + W.room ≤ 1048576
theorem WOk.fail {W : Wr} (h : WOk W) (e : Int) : WOk (failW W e) := ⟨h.room, h.lim⟩
theorem WOk.add {W : Wr} (h : WOk W) (c : List UInt8) : WOk (addW W c) := by
  unfold addW
  split
  · exact h.fail 3
  · have := h.room; have := h.lim
    exact ⟨by show 0 ≤ W.room - c.length; omega, by show ((W.bs ++ c).length : Int) + (W.room - c.length) ≤ 1048576; rw [List.length_append]; omega⟩
theorem WOk.put {W : Wr} (h : WOk W) (ok : Bool) (c : List UInt8) : WOk (putW W ok c) := by
  unfold putW
  split
  · split
    · exact h.add c
    · exact h.fail 4
  · exact h
theorem WOk.new {n : Int} (h : n ≤ 1048576) : WOk (newW n) := by
  unfold newW
  constructor
  · show 0 ≤ (if 0 < n then n else 0); split <;> omega
  · show ((([] : List UInt8).length : Nat) : Int) + (if 0 < n then n else 0) ≤ 1048576; simp; split <;> omega
end Go.Proofs.Ytfefeepljbfcdaa

/- Layers 7 and 9 (council, terms), in plain words. No program in sight. -/
namespace Go.Proofs.Ytfefeepljbfcdaa
set_option linter.unusedVariables false
set_option linter.unusedSimpArgs false

structure Sg where
  by_ : Int
  text : ByteArray
instance : Inhabited Sg := ⟨⟨0, ByteArray.empty⟩⟩
/-- The signatures from behind last on: of this text, of members, rising. -/
def chainB (xs : List Int) (text : ByteArray) : Int → List Sg → Bool
  | _, [] => true
  | last, s :: t => decide (s.text = text) && decide (last < s.by_) && hasB xs s.by_ && chainB xs text s.by_ t
end Go.Proofs.Ytfefeepljbfcdaa
