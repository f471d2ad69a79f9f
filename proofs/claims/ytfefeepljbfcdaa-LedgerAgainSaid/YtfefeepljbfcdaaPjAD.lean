/- Joined texts: Iter. What each proves stands at its head; no conditions beside those in its theorems. -/
import Derived.Test.YtfefeepljbfcdaaProg
import Derived.Shelf.SlIter.Nil
import Derived.Shelf.SortM.Plain
import Derived.Shelf.SortM.SortNone
import Derived.Ground.GgzProg
import Derived.Ground.SlgmProg
/- maps.Keys and slices.Sorted: the kit's contracts laid at this program (the tables of numbers were printed by the kit's program; the contracts are the kit's). -/
namespace Go.Proofs.Ytfefeepljbfcdaa
open Go.RowKit Go.Maps Go.Sort Go.Shelf
def keysLay_ren : Go.Shelf.Ren := ⟨fun | 7 => 46 | 10 => 76 | n => n, fun | 23 => 76 | 26 => 9 | 3 => 41 | 28 => 98 | 0 => 0 | 27 => 97 | 33 => 130 | 4 => 4 | n => n, fun | n => n⟩
theorem keysLay : Go.Proofs.SlLaysZ.n7 Try.prog keysLay_ren := {
  mixed := by kernel_rfl
  f7 := ⟨Try.f46.name, by decide, Try.func46.trans (congrArg some (by kernel_rfl))⟩
  f10 := ⟨Try.f76.name, by decide, Try.func76.trans (congrArg some (by kernel_rfl))⟩
  t0 := Try.underlying0
  a0 := Try.isAgg0
  z0 := Try.sizeOf0
  v0 := Try.zeroValue0
  t4 := Try.underlying4
  a4 := Try.isAgg4
  z4 := Try.sizeOf4
  v4 := Try.zeroValue4
  t23 := Try.underlying76
  a23 := Try.isAgg76
  z23 := Try.sizeOf76
  v23 := Try.zeroValue76
  t26 := Try.underlying9
  a26 := Try.isAgg9
  z26 := Try.sizeOf9
  v26 := Try.zeroValue9
  t27 := Try.underlying97
  a27 := Try.isAgg97
  z27 := Try.sizeOf97
  v27 := Try.zeroValue97
  t28 := Try.underlying98
  a28 := Try.isAgg98
  z28 := Try.sizeOf98
  v28 := Try.zeroValue98
  t33 := Try.underlying130
  a33 := Try.isAgg130
  z33 := Try.sizeOf130
  v33 := Try.zeroValue130 }
def sortedLay_ren : Go.Shelf.Ren := ⟨fun | 6 => 45 | 8 => 74 | 9 => 75 | 11 => 91 | 13 => 93 | 12 => 92 | 23 => 110 | 24 => 111 | 14 => 101 | 15 => 102 | 16 => 103 | 17 => 104 | 18 => 105 | 19 => 106 | 20 => 107 | 21 => 108 | 22 => 109 | 25 => 114 | 26 => 115 | 27 => 116 | 28 => 117 | 29 => 118 | 30 => 119 | 31 => 123 | n => n, fun | 26 => 9 | 28 => 98 | 24 => 95 | 0 => 0 | 3 => 3 | 37 => 128 | 48 => 155 | 50 => 33 | 4 => 4 | 40 => 148 | 39 => 147 | 45 => 137 | 5 => 5 | 9 => 9 | 51 => 162 | 55 => 165 | 57 => 171 | 58 => 172 | 33 => 130 | n => n, fun | n => n⟩
theorem sortedLay : Go.Proofs.SlLaysZ.n6 Try.prog sortedLay_ren := {
  mixed := by kernel_rfl
  f6 := ⟨Try.f45.name, by decide, Try.func45.trans (congrArg some (by kernel_rfl))⟩
  f8 := ⟨Try.f74.name, by decide, Try.func74.trans (congrArg some (by kernel_rfl))⟩
  f11 := ⟨Try.f91.name, by decide, Try.func91.trans (congrArg some (by kernel_rfl))⟩
  t0 := Try.underlying0
  a0 := Try.isAgg0
  z0 := Try.sizeOf0
  v0 := Try.zeroValue0
  t24 := Try.underlying95
  a24 := Try.isAgg95
  z24 := Try.sizeOf95
  v24 := Try.zeroValue95
  t26 := Try.underlying9
  a26 := Try.isAgg9
  z26 := Try.sizeOf9
  v26 := Try.zeroValue9
  t28 := Try.underlying98
  a28 := Try.isAgg98
  z28 := Try.sizeOf98
  v28 := Try.zeroValue98
  i26 := by kernel_rfl }
def sortLay_ren : Go.Shelf.Ren := ⟨fun | 6 => 75 | 8 => 93 | 9 => 92 | 19 => 110 | 20 => 111 | 21 => 101 | 22 => 102 | 23 => 103 | 24 => 104 | 25 => 105 | 26 => 106 | 27 => 107 | 28 => 108 | 29 => 109 | 36 => 114 | 31 => 115 | 32 => 116 | 37 => 117 | 38 => 118 | 39 => 119 | 41 => 123 | n => n, fun | 27 => 95 | 29 => 9 | 3 => 3 | 32 => 128 | 26 => 95 | 0 => 0 | 44 => 155 | 46 => 33 | 4 => 4 | 36 => 148 | 35 => 147 | 41 => 137 | 5 => 5 | 9 => 9 | 53 => 162 | 57 => 165 | 63 => 171 | 64 => 172 | n => n, fun | n => n⟩
theorem sortLay : Go.Proofs.SlLaysM.n6 Try.prog sortLay_ren := {
  mixed := by kernel_rfl
  f6 := ⟨Try.f75.name, by decide, Try.func75.trans (congrArg some (by kernel_rfl))⟩
  f8 := Try.func93.trans (congrArg some (by kernel_rfl))
  f9 := ⟨Try.f92.name, by decide, Try.func92.trans (congrArg some (by kernel_rfl))⟩
  f19 := Try.func110.trans (congrArg some (by kernel_rfl))
  f20 := Try.func111.trans (congrArg some (by kernel_rfl))
  f21 := ⟨Try.f101.name, by decide, Try.func101.trans (congrArg some (by kernel_rfl))⟩
  f22 := ⟨Try.f102.name, by decide, Try.func102.trans (congrArg some (by kernel_rfl))⟩
  f23 := ⟨Try.f103.name, by decide, Try.func103.trans (congrArg some (by kernel_rfl))⟩
  f24 := ⟨Try.f104.name, by decide, Try.func104.trans (congrArg some (by kernel_rfl))⟩
  f25 := ⟨Try.f105.name, by decide, Try.func105.trans (congrArg some (by kernel_rfl))⟩
  f26 := ⟨Try.f106.name, by decide, Try.func106.trans (congrArg some (by kernel_rfl))⟩
  f27 := ⟨Try.f107.name, by decide, Try.func107.trans (congrArg some (by kernel_rfl))⟩
  f28 := ⟨Try.f108.name, by decide, Try.func108.trans (congrArg some (by kernel_rfl))⟩
  f29 := ⟨Try.f109.name, by decide, Try.func109.trans (congrArg some (by kernel_rfl))⟩
  f31 := Try.func115.trans (congrArg some (by kernel_rfl))
  f32 := Try.func116.trans (congrArg some (by kernel_rfl))
  f36 := ⟨Try.f114.name, by decide, Try.func114.trans (congrArg some (by kernel_rfl))⟩
  f37 := ⟨Try.f117.name, by decide, Try.func117.trans (congrArg some (by kernel_rfl))⟩
  f38 := ⟨Try.f118.name, by decide, Try.func118.trans (congrArg some (by kernel_rfl))⟩
  f39 := ⟨Try.f119.name, by decide, Try.func119.trans (congrArg some (by kernel_rfl))⟩
  f41 := ⟨Try.f123.name, by decide, Try.func123.trans (congrArg some (by kernel_rfl))⟩
  t0 := Try.underlying0
  a0 := Try.isAgg0
  z0 := Try.sizeOf0
  v0 := Try.zeroValue0
  t3 := Try.underlying3
  a3 := Try.isAgg3
  z3 := Try.sizeOf3
  v3 := Try.zeroValue3
  t4 := Try.underlying4
  a4 := Try.isAgg4
  z4 := Try.sizeOf4
  v4 := Try.zeroValue4
  t5 := Try.underlying5
  a5 := Try.isAgg5
  z5 := Try.sizeOf5
  v5 := Try.zeroValue5
  t9 := Try.underlying9
  a9 := Try.isAgg9
  z9 := Try.sizeOf9
  v9 := Try.zeroValue9
  t26 := Try.underlying95
  a26 := Try.isAgg95
  z26 := Try.sizeOf95
  v26 := Try.zeroValue95
  t27 := Try.underlying95
  a27 := Try.isAgg95
  z27 := Try.sizeOf95
  v27 := Try.zeroValue95
  t29 := Try.underlying9
  a29 := Try.isAgg9
  z29 := Try.sizeOf9
  v29 := Try.zeroValue9
  t32 := Try.underlying128
  a32 := Try.isAgg128
  z32 := Try.sizeOf128
  v32 := Try.zeroValue128
  t35 := Try.underlying147
  a35 := Try.isAgg147
  z35 := Try.sizeOf147
  v35 := Try.zeroValue147
  t36 := Try.underlying148
  a36 := Try.isAgg148
  z36 := Try.sizeOf148
  v36 := Try.zeroValue148
  t41 := Try.underlying137
  a41 := Try.isAgg137
  z41 := Try.sizeOf137
  v41 := Try.zeroValue137
  t44 := Try.underlying155
  a44 := Try.isAgg155
  z44 := Try.sizeOf155
  v44 := Try.zeroValue155
  t46 := Try.underlying33
  a46 := Try.isAgg33
  z46 := Try.sizeOf33
  v46 := Try.zeroValue33
  t53 := Try.underlying162
  a53 := Try.isAgg162
  z53 := Try.sizeOf162
  v53 := Try.zeroValue162
  t57 := Try.underlying165
  a57 := Try.isAgg165
  z57 := Try.sizeOf165
  v57 := Try.zeroValue165
  t63 := Try.underlying171
  a63 := Try.isAgg171
  z63 := Try.sizeOf171
  v63 := Try.zeroValue171
  t64 := Try.underlying172
  a64 := Try.isAgg172
  z64 := Try.sizeOf172
  v64 := Try.zeroValue172 }
theorem sorts_in (m : Nat) : AnyZ.SortsIn Try.prog sortedLay_ren Fence.wide m :=
  ⟨fun blk off cap ss W hH hblk hsz => callsIn_wide.2 (AnyM.slices_Sort_string sortLay blk off cap ss W hH hblk hsz),
   fun p cap W => callsIn_wide.2 (AnyM.slices_Sort_string_none sortLay p cap W)⟩
theorem maps_Keys (mb : Option Nat) (W : World) : Calls Try.prog 46 #[.map mb] W fun e w' => e = .returned (.func (.func 76) #[] #[.pointer (some ⟨W.heap.size, 0, none⟩)]) ∧ w' = W.alloc (.cells #[.map mb] 76) :=
  (callsIn_wide (n := 5)).1 (AnyZ.keys_in keysLay Fence.wide 5 trivial rfl mb W)
set_option maxHeartbeats 1000000 in
theorem slices_Sorted_keys {H : Type} (b nn : Nat) (D0 : DataW H) (R : Value → Option (DataW H × List MemPlace)) (w : World) (hown : w.ownsMap Try.prog 9 R b nn D0) (hmax : Maps.size D0 ≤ maxLen) (hbytes : Maps.size D0 * 16 ≤ 140737488355328) :
    Calls Try.prog 45 #[.func (.func 76) #[] #[.pointer (some ⟨w.heap.size, 0, none⟩)]] (w.alloc (.cells #[.map (some b)] 76)) fun e w' => ∃ (v : Value) (ss : List (List UInt8)), e = .returned v ∧ ss.Perm (strKeys D0) ∧
      w'.ownsRow (w.alloc (.cells #[.map (some b)] 76)).heap.size 9 1 v ss.length ((ss.mergeSort (fun x y => decide (x ≤ y))).map encStr) ∧ Below (w.alloc (.cells #[.map (some b)] 76)).heap.size (w.alloc (.cells #[.map (some b)] 76)) w' := by
  have hbl := hown.lt
  have hseq : SeqGives Fence.wide 2 Try.prog 76 #[.pointer (some ⟨w.heap.size, 0, none⟩)] encStr (fun ss => ss.Perm (strKeys D0)) (Maps.size D0) (w.alloc (.cells #[.map (some b)] 76)) :=
    AnyZ.keys_gives (ρ := keysLay_ren) { keysLay with } Fence.wide _ trivial rfl (by omega) w.heap.size b nn D0 _ (by simp) (by simp) (by
      obtain ⟨es, clock, hb, Ft, hs, hD⟩ := hown
      exact ⟨es, clock, (Below.heap_alloc _ _ b hbl).trans hb, Ft, hs, hD⟩)
  refine ((callsIn_wide (n := 5)).1 (AnyZ.sorted_in sortedLay Fence.wide 5 trivial trivial trivial trivial rfl (by omega) (sorts_in _) (enters_of Try.func75 (by kernel_rfl) rfl) 76 #[.pointer (some ⟨w.heap.size, 0, none⟩)] trivial (enters_of Try.func76 (by kernel_rfl) rfl) _ _ hmax hbytes _ hseq)).mono ?_
  rintro e w' ⟨v, ss, he, hp, ho, -, hb⟩
  exact ⟨v, ss, he, hp, ho, hb⟩
end Go.Proofs.Ytfefeepljbfcdaa
