/- Layer 1 (pack), in plain words: what a writer writes. No program in sight. -/
import Derived.Test.YtekbonciafbjiaaData
namespace Go.Proofs.Ytekbonciafbjiaa
set_option linter.unusedVariables false
set_option linter.unusedSimpArgs false

structure Wr where
  bs : List UInt8
  room : Int
  err : Int
/-- A number's last byte. -/
def lowB (n : Int) : UInt8 := UInt8.ofNat (n % 256).toNat
def big1 (n : Int) : List UInt8 := [lowB n]
def big2 (n : Int) : List UInt8 := [lowB (n / 256), lowB n]
def big4 (n : Int) : List UInt8 := [lowB (n / 16777216), lowB (n / 65536), lowB (n / 256), lowB n]
def big8 (n : Int) : List UInt8 := big4 (n / 4294967296) ++ big4 n
def failW (W : Wr) (e : Int) : Wr := ⟨W.bs, W.room, e⟩
def addW (W : Wr) (c : List UInt8) : Wr := if W.room < c.length then failW W 3 else ⟨W.bs ++ c, W.room - c.length, W.err⟩
/-- A field: written if nothing failed before and it may be. -/
def putW (W : Wr) (ok : Bool) (c : List UInt8) : Wr := if W.err = 0 then (if ok = true then addW W c else failW W 4) else W
def okN (n hi : Int) : Bool := decide (0 ≤ n) && decide (n ≤ hi)
def byteW (W : Wr) (n : Int) : Wr := putW W (okN n 255) (big1 n)
def wordW (W : Wr) (n : Int) : Wr := putW W (okN n 65535) (big2 n)
def longW (W : Wr) (n : Int) : Wr := putW W (okN n 4294967295) (big4 n)
def bitsW (W : Wr) (n : Int) : Wr := putW W true (big8 n)
def textW (W : Wr) (s : List UInt8) : Wr := putW W (decide (s.length ≤ 65535)) (big2 s.length ++ s)
def newW (limit : Int) : Wr := ⟨[], if 0 < limit then limit else 0, 0⟩
def doneS (W : Wr) : ByteArray := if W.err = 0 then ⟨W.bs.toArray⟩ else ⟨#[]⟩
theorem lowB_toNat (n : Int) : ((lowB n).toNat : Int) = n % 256 := by
  unfold lowB
  rw [UInt8.toNat_ofNat']
  have := Int.emod_nonneg n (show (256 : Int) ≠ 0 by decide)
  have := Int.emod_lt_of_pos n (show (0 : Int) < 256 by decide)
  omega
/-- A writer's bytes and room stay within what it began with. -/
structure WOk (W : Wr) : Prop where
  room : 0 ≤ W.room
  lim : W.bs.length + W.room ≤ 1048576
theorem WOk.fail {W : Wr} (h : WOk W) (e : Int) : WOk (failW W e) := ⟨h.room, h.lim⟩
theorem WOk.add {W : Wr} (h : WOk W) (c : List UInt8) : WOk (addW W c) := by
  unfold addW
  split
  · exact h.fail 3
  · have := h.room; have := h.lim
    exact ⟨by show 0 ≤ W.room - c.length; omega, by show ((W.bs ++ c).length : Int) + (W.room - c.length) ≤ 1048576; rw [List.length_append]; omega⟩
theorem WOk.put {W : Wr} (h : WOk W) (ok : Bool) (c : List UInt8) : WOk (putW W ok c) := by
  unfold putW
  split
  · split
    · exact h.add c
    · exact h.fail 4
  · exact h
theorem WOk.new {n : Int} (h : n ≤ 1048576) : WOk (newW n) := by
  unfold newW
  constructor
  · show 0 ≤ (if 0 < n then n else 0); split <;> omega
  · show ((([] : List UInt8).length : Nat) : Int) + (if 0 < n then n else 0) ≤ 1048576; simp; split <;> omega
end Go.Proofs.Ytekbonciafbjiaa
