/- Joined texts: RdP. What each proves stands at its head; no conditions beside those in its theorems. -/
import Derived.Test.YtfefeepljbfcdaaPjAA
import Derived.Test.YtfefeepljbfcdaaPjAB
/- Layer 1 (pack), in plain words: reading bytes. No program in sight. -/
namespace Go.Proofs.Ytfefeepljbfcdaa
set_option linter.unusedVariables false
set_option linter.unusedSimpArgs false
/-- A reader: what is left; whether something could not be read. -/
structure Rd where
  s : List UInt8
  bad : Bool
def beN (l : List UInt8) : Nat := l.foldl (fun n c => n * 256 + c.toNat) 0
def canR (k : Nat) (r : Rd) : Bool := !r.bad && decide (k ≤ r.s.length)
def numV (k : Nat) (r : Rd) : Nat := if canR k r = true then beN (r.s.take k) else 0
def numR (k : Nat) (r : Rd) : Rd := if canR k r = true then ⟨r.s.drop k, false⟩ else ⟨r.s, true⟩
def txtN (r : Rd) : Nat := beN (r.s.take 2)
def canT (r : Rd) : Bool := canR 2 r && decide (txtN r ≤ r.s.length - 2)
def textV (r : Rd) : List UInt8 := if canT r = true then (r.s.drop 2).take (txtN r) else []
def textR (r : Rd) : Rd := if canT r = true then ⟨r.s.drop (2 + txtN r), false⟩ else ⟨r.s, true⟩
def endE (r : Rd) : Int := if r.bad = true then 2 else if r.s = [] then 0 else 5
/-- Bytes as a string. -/
def sB (l : List UInt8) : ByteArray := ⟨l.toArray⟩
theorem sB_of (s : ByteArray) : sB s.data.toList = s := by unfold sB; simp
theorem sB_toList (l : List UInt8) : (sB l).data.toList = l := by unfold sB; simp
theorem sB_size (l : List UInt8) : (sB l).size = l.length := by unfold sB; rfl
theorem beN_take {l : List UInt8} {i : Nat} (h : i < l.length) : beN (l.take (i + 1)) = beN (l.take i) * 256 + l[i].toNat := by
  unfold beN
  rw [List.take_succ_eq_append_getElem h, List.foldl_append]; rfl
theorem beN_snoc (l : List UInt8) (c : UInt8) : beN (l ++ [c]) = beN l * 256 + c.toNat := by unfold beN; rw [List.foldl_append]; rfl
theorem beN_lt : ∀ (n : Nat) (l : List UInt8), l.length = n → beN l < 256 ^ n := by
  intro n
  induction n with
  | zero => intro l h; have : l = [] := List.eq_nil_of_length_eq_zero h; subst this; decide
  | succ n ih =>
    intro l h
    have hne : l ≠ [] := by intro e; rw [e] at h; simp at h
    obtain ⟨t, c, rfl⟩ : ∃ t c, l = t ++ [c] := ⟨l.dropLast, l.getLast hne, (List.dropLast_concat_getLast hne).symm⟩
    have hl : t.length = n := by simpa using h
    have := ih t hl
    have hc := c.toNat_lt
    rw [beN_snoc, Nat.pow_succ]
    omega
theorem numV_lt (k : Nat) (r : Rd) : numV k r < 256 ^ k := by
  unfold numV
  split
  · rename_i h
    unfold canR at h
    simp only [Bool.and_eq_true, decide_eq_true_eq] at h
    exact beN_lt k _ (by rw [List.length_take]; omega)
  · exact Nat.pow_pos (by decide)
/-! What is read of what was written. -/
theorem lowB_nat (n : Int) (h : 0 ≤ n) : (lowB n).toNat = n.toNat % 256 := by
  have := lowB_toNat n
  omega
theorem num_of {k : Nat} {bs t : List UInt8} (hl : bs.length = k) : numV k ⟨bs ++ t, false⟩ = beN bs ∧ numR k ⟨bs ++ t, false⟩ = ⟨t, false⟩ := by
  have hc : canR k ⟨bs ++ t, false⟩ = true := by unfold canR; simp; omega
  unfold numV numR
  rw [if_pos hc, if_pos hc]
  subst hl
  exact ⟨by rw [List.take_left], by rw [List.drop_left]⟩
theorem beN_big1 {n : Int} (h : 0 ≤ n ∧ n ≤ 255) : beN (big1 n) = n.toNat := by
  unfold beN big1
  simp only [List.foldl_cons, List.foldl_nil, lowB_nat n h.1]; omega
theorem beN_big2 {n : Int} (h : 0 ≤ n ∧ n ≤ 65535) : beN (big2 n) = n.toNat := by
  unfold beN big2
  simp only [List.foldl_cons, List.foldl_nil, lowB_nat n h.1, lowB_nat (n / 256) (by omega)]; omega
theorem beN_big4 {n : Int} (h : 0 ≤ n ∧ n ≤ 4294967295) : beN (big4 n) = n.toNat := by
  unfold beN big4
  simp only [List.foldl_cons, List.foldl_nil, lowB_nat n h.1, lowB_nat (n / 256) (by omega), lowB_nat (n / 65536) (by omega), lowB_nat (n / 16777216) (by omega)]; omega
theorem beN_big8 {n : Int} (h : 0 ≤ n ∧ n ≤ 18446744073709551615) : beN (big8 n) = n.toNat := by
  unfold beN big8 big4
  simp only [List.cons_append, List.nil_append, List.foldl_cons, List.foldl_nil, lowB_nat n h.1, lowB_nat (n / 256) (by omega), lowB_nat (n / 65536) (by omega), lowB_nat (n / 16777216) (by omega), lowB_nat (n / 4294967296) (by omega), lowB_nat (n / 4294967296 / 256) (by omega), lowB_nat (n / 4294967296 / 65536) (by omega), lowB_nat (n / 4294967296 / 16777216) (by omega)]; omega
theorem num1_of {n : Int} (h : 0 ≤ n ∧ n ≤ 255) (t : List UInt8) : numV 1 ⟨big1 n ++ t, false⟩ = n.toNat ∧ numR 1 ⟨big1 n ++ t, false⟩ = ⟨t, false⟩ := by
  obtain ⟨h1, h2⟩ := num_of (k := 1) (bs := big1 n) (t := t) rfl
  exact ⟨by rw [h1, beN_big1 h], h2⟩
theorem num2_of {n : Int} (h : 0 ≤ n ∧ n ≤ 65535) (t : List UInt8) : numV 2 ⟨big2 n ++ t, false⟩ = n.toNat ∧ numR 2 ⟨big2 n ++ t, false⟩ = ⟨t, false⟩ := by
  obtain ⟨h1, h2⟩ := num_of (k := 2) (bs := big2 n) (t := t) rfl
  exact ⟨by rw [h1, beN_big2 h], h2⟩
theorem num4_of {n : Int} (h : 0 ≤ n ∧ n ≤ 4294967295) (t : List UInt8) : numV 4 ⟨big4 n ++ t, false⟩ = n.toNat ∧ numR 4 ⟨big4 n ++ t, false⟩ = ⟨t, false⟩ := by
  obtain ⟨h1, h2⟩ := num_of (k := 4) (bs := big4 n) (t := t) rfl
  exact ⟨by rw [h1, beN_big4 h], h2⟩
theorem num8_of {n : Int} (h : 0 ≤ n ∧ n ≤ 18446744073709551615) (t : List UInt8) : numV 8 ⟨big8 n ++ t, false⟩ = n.toNat ∧ numR 8 ⟨big8 n ++ t, false⟩ = ⟨t, false⟩ := by
  obtain ⟨h1, h2⟩ := num_of (k := 8) (bs := big8 n) (t := t) rfl
  exact ⟨by rw [h1, beN_big8 h], h2⟩
theorem text_of {s : List UInt8} (h : s.length ≤ 65535) (t : List UInt8) : textV ⟨big2 s.length ++ s ++ t, false⟩ = s ∧ textR ⟨big2 s.length ++ s ++ t, false⟩ = ⟨t, false⟩ := by
  have e : big2 s.length ++ s ++ t = big2 s.length ++ (s ++ t) := by rw [List.append_assoc]
  have hn : txtN ⟨big2 s.length ++ s ++ t, false⟩ = s.length := by
    unfold txtN
    rw [e]
    show beN ((big2 s.length ++ (s ++ t)).take (big2 (s.length : Int)).length) = _
    rw [List.take_left, beN_big2 (by omega)]; omega
  have hc : canT ⟨big2 s.length ++ s ++ t, false⟩ = true := by
    unfold canT canR
    rw [hn]
    simp [big2]
  unfold textV textR
  rw [if_pos hc, if_pos hc, hn]
  have hd : (big2 (s.length : Int) ++ s ++ t).drop 2 = s ++ t := by rw [e]; show (big2 (s.length : Int) ++ (s ++ t)).drop (big2 (s.length : Int)).length = _; rw [List.drop_left]
  refine ⟨?_, ?_⟩
  · show ((big2 (s.length : Int) ++ s ++ t).drop 2).take s.length = s
    rw [hd, List.take_left]
  · show (⟨(big2 (s.length : Int) ++ s ++ t).drop (2 + s.length), false⟩ : Rd) = ⟨t, false⟩
    rw [← List.drop_drop, hd, List.drop_left]
end Go.Proofs.Ytfefeepljbfcdaa
