/- Joined texts: Iter. What each proves stands at its head; no conditions beside those in its theorems. -/
import Derived.Test.YtfefeepljbfcdaaGreatProg
import Derived.Shelf.SlIter.Nil
import Derived.Shelf.SortM.Plain
import Derived.Shelf.SortM.SortNone
import Derived.Ground.GgzProg
import Derived.Ground.SlgmProg
/- maps.Keys and slices.Sorted: the kit's contracts laid at this program (the tables of numbers were printed by the kit's program; the contracts are the kit's). -/
namespace Go.Proofs.YtfefeepljbfcdaaGreat
open Go.RowKit Go.Maps Go.Sort Go.Shelf
def keysLay_ren : Go.Shelf.Ren := ⟨fun | 7 => 48 | 10 => 86 | n => n, fun | 23 => 59 | 26 => 9 | 3 => 46 | 28 => 102 | 0 => 0 | 27 => 101 | 33 => 127 | 4 => 4 | n => n, fun | n => n⟩
theorem keysLay : Go.Proofs.SlLaysZ.n7 Tryz.prog keysLay_ren := {
 mixed := by kernel_rfl
 f7 := ⟨Tryz.f48.name, by decide, Tryz.func48.trans (congrArg some (by kernel_rfl))⟩
 f10 := ⟨Tryz.f86.name, by decide, Tryz.func86.trans (congrArg some (by kernel_rfl))⟩
 t0 := Tryz.underlying0
 a0 := Tryz.isAgg0
 z0 := Tryz.sizeOf0
 v0 := Tryz.zeroValue0
 t4 := Tryz.underlying4
 a4 := Tryz.isAgg4
 z4 := Tryz.sizeOf4
 v4 := Tryz.zeroValue4
 t23 := Tryz.underlying59
 a23 := Tryz.isAgg59
 z23 := Tryz.sizeOf59
 v23 := Tryz.zeroValue59
 t26 := Tryz.underlying9
 a26 := Tryz.isAgg9
 z26 := Tryz.sizeOf9
 v26 := Tryz.zeroValue9
 t27 := Tryz.underlying101
 a27 := Tryz.isAgg101
 z27 := Tryz.sizeOf101
 v27 := Tryz.zeroValue101
 t28 := Tryz.underlying102
 a28 := Tryz.isAgg102
 z28 := Tryz.sizeOf102
 v28 := Tryz.zeroValue102
 t33 := Tryz.underlying127
 a33 := Tryz.isAgg127
 z33 := Tryz.sizeOf127
 v33 := Tryz.zeroValue127 }
def sortedLay_ren : Go.Shelf.Ren := ⟨fun | 6 => 47 | 8 => 84 | 9 => 85 | 11 => 111 | 13 => 113 | 12 => 112 | 23 => 130 | 24 => 131 | 14 => 121 | 15 => 122 | 16 => 123 | 17 => 124 | 18 => 125 | 19 => 126 | 20 => 127 | 21 => 128 | 22 => 129 | 25 => 138 | 26 => 139 | 27 => 140 | 28 => 141 | 29 => 142 | 30 => 143 | 31 => 145 | n => n, fun | 26 => 9 | 28 => 102 | 24 => 99 | 0 => 0 | 3 => 3 | 37 => 125 | 48 => 166 | 50 => 35 | 4 => 4 | 40 => 159 | 39 => 158 | 45 => 148 | 5 => 5 | 9 => 9 | 51 => 175 | 55 => 178 | 57 => 180 | 58 => 181 | 33 => 127 | n => n, fun | n => n⟩
theorem sortedLay : Go.Proofs.SlLaysZ.n6 Tryz.prog sortedLay_ren := {
 mixed := by kernel_rfl
 f6 := ⟨Tryz.f47.name, by decide, Tryz.func47.trans (congrArg some (by kernel_rfl))⟩
 f8 := ⟨Tryz.f84.name, by decide, Tryz.func84.trans (congrArg some (by kernel_rfl))⟩
 f11 := ⟨Tryz.f111.name, by decide, Tryz.func111.trans (congrArg some (by kernel_rfl))⟩
 t0 := Tryz.underlying0
 a0 := Tryz.isAgg0
 z0 := Tryz.sizeOf0
 v0 := Tryz.zeroValue0
 t24 := Tryz.underlying99
 a24 := Tryz.isAgg99
 z24 := Tryz.sizeOf99
 v24 := Tryz.zeroValue99
 t26 := Tryz.underlying9
 a26 := Tryz.isAgg9
 z26 := Tryz.sizeOf9
 v26 := Tryz.zeroValue9
 t28 := Tryz.underlying102
 a28 := Tryz.isAgg102
 z28 := Tryz.sizeOf102
 v28 := Tryz.zeroValue102
 i26 := by kernel_rfl }
def sortLay_ren : Go.Shelf.Ren := ⟨fun | 6 => 85 | 8 => 113 | 9 => 112 | 19 => 130 | 20 => 131 | 21 => 121 | 22 => 122 | 23 => 123 | 24 => 124 | 25 => 125 | 26 => 126 | 27 => 127 | 28 => 128 | 29 => 129 | 36 => 138 | 31 => 139 | 32 => 140 | 37 => 141 | 38 => 142 | 39 => 143 | 41 => 145 | n => n, fun | 27 => 99 | 29 => 9 | 3 => 3 | 32 => 125 | 26 => 99 | 0 => 0 | 44 => 166 | 46 => 35 | 4 => 4 | 36 => 159 | 35 => 158 | 41 => 148 | 5 => 5 | 9 => 9 | 53 => 175 | 57 => 178 | 63 => 180 | 64 => 181 | n => n, fun | n => n⟩
theorem sortLay : Go.Proofs.SlLaysM.n6 Tryz.prog sortLay_ren := {
 mixed := by kernel_rfl
 f6 := ⟨Tryz.f85.name, by decide, Tryz.func85.trans (congrArg some (by kernel_rfl))⟩
 f8 := Tryz.func113.trans (congrArg some (by kernel_rfl))
 f9 := ⟨Tryz.f112.name, by decide, Tryz.func112.trans (congrArg some (by kernel_rfl))⟩
 f19 := Tryz.func130.trans (congrArg some (by kernel_rfl))
 f20 := Tryz.func131.trans (congrArg some (by kernel_rfl))
 f21 := ⟨Tryz.f121.name, by decide, Tryz.func121.trans (congrArg some (by kernel_rfl))⟩
 f22 := ⟨Tryz.f122.name, by decide, Tryz.func122.trans (congrArg some (by kernel_rfl))⟩
 f23 := ⟨Tryz.f123.name, by decide, Tryz.func123.trans (congrArg some (by kernel_rfl))⟩
 f24 := ⟨Tryz.f124.name, by decide, Tryz.func124.trans (congrArg some (by kernel_rfl))⟩
 f25 := ⟨Tryz.f125.name, by decide, Tryz.func125.trans (congrArg some (by kernel_rfl))⟩
 f26 := ⟨Tryz.f126.name, by decide, Tryz.func126.trans (congrArg some (by kernel_rfl))⟩
 f27 := ⟨Tryz.f127.name, by decide, Tryz.func127.trans (congrArg some (by kernel_rfl))⟩
 f28 := ⟨Tryz.f128.name, by decide, Tryz.func128.trans (congrArg some (by kernel_rfl))⟩
 f29 := ⟨Tryz.f129.name, by decide, Tryz.func129.trans (congrArg some (by kernel_rfl))⟩
 f31 := Tryz.func139.trans (congrArg some (by kernel_rfl))
 f32 := Tryz.func140.trans (congrArg some (by kernel_rfl))
 f36 := ⟨Tryz.f138.name, by decide, Tryz.func138.trans (congrArg some (by kernel_rfl))⟩
 f37 := ⟨Tryz.f141.name, by decide, Tryz.func141.trans (congrArg some (by kernel_rfl))⟩
 f38 := ⟨Tryz.f142.name, by decide, Tryz.func142.trans (congrArg some (by kernel_rfl))⟩
 f39 := ⟨Tryz.f143.name, by decide, Tryz.func143.trans (congrArg some (by kernel_rfl))⟩
 f41 := ⟨Tryz.f145.name, by decide, Tryz.func145.trans (congrArg some (by kernel_rfl))⟩
 t0 := Tryz.underlying0
 a0 := Tryz.isAgg0
 z0 := Tryz.sizeOf0
 v0 := Tryz.zeroValue0
 t3 := Tryz.underlying3
 a3 := Tryz.isAgg3
 z3 := Tryz.sizeOf3
 v3 := Tryz.zeroValue3
 t4 := Tryz.underlying4
 a4 := Tryz.isAgg4
 z4 := Tryz.sizeOf4
 v4 := Tryz.zeroValue4
 t5 := Tryz.underlying5
 a5 := Tryz.isAgg5
 z5 := Tryz.sizeOf5
 v5 := Tryz.zeroValue5
 t9 := Tryz.underlying9
 a9 := Tryz.isAgg9
 z9 := Tryz.sizeOf9
 v9 := Tryz.zeroValue9
 t26 := Tryz.underlying99
 a26 := Tryz.isAgg99
 z26 := Tryz.sizeOf99
 v26 := Tryz.zeroValue99
 t27 := Tryz.underlying99
 a27 := Tryz.isAgg99
 z27 := Tryz.sizeOf99
 v27 := Tryz.zeroValue99
 t29 := Tryz.underlying9
 a29 := Tryz.isAgg9
 z29 := Tryz.sizeOf9
 v29 := Tryz.zeroValue9
 t32 := Tryz.underlying125
 a32 := Tryz.isAgg125
 z32 := Tryz.sizeOf125
 v32 := Tryz.zeroValue125
 t35 := Tryz.underlying158
 a35 := Tryz.isAgg158
 z35 := Tryz.sizeOf158
 v35 := Tryz.zeroValue158
 t36 := Tryz.underlying159
 a36 := Tryz.isAgg159
 z36 := Tryz.sizeOf159
 v36 := Tryz.zeroValue159
 t41 := Tryz.underlying148
 a41 := Tryz.isAgg148
 z41 := Tryz.sizeOf148
 v41 := Tryz.zeroValue148
 t44 := Tryz.underlying166
 a44 := Tryz.isAgg166
 z44 := Tryz.sizeOf166
 v44 := Tryz.zeroValue166
 t46 := Tryz.underlying35
 a46 := Tryz.isAgg35
 z46 := Tryz.sizeOf35
 v46 := Tryz.zeroValue35
 t53 := Tryz.underlying175
 a53 := Tryz.isAgg175
 z53 := Tryz.sizeOf175
 v53 := Tryz.zeroValue175
 t57 := Tryz.underlying178
 a57 := Tryz.isAgg178
 z57 := Tryz.sizeOf178
 v57 := Tryz.zeroValue178
 t63 := Tryz.underlying180
 a63 := Tryz.isAgg180
 z63 := Tryz.sizeOf180
 v63 := Tryz.zeroValue180
 t64 := Tryz.underlying181
 a64 := Tryz.isAgg181
 z64 := Tryz.sizeOf181
 v64 := Tryz.zeroValue181 }
theorem sorts_in (m : Nat) : AnyZ.SortsIn Tryz.prog sortedLay_ren Fence.wide m :=
  ⟨fun blk off cap ss W hH hblk hsz => callsIn_wide.2 (AnyM.slices_Sort_string sortLay blk off cap ss W hH hblk hsz),
   fun p cap W => callsIn_wide.2 (AnyM.slices_Sort_string_none sortLay p cap W)⟩
theorem maps_Keys (mb : Option Nat) (W : World) : Calls Tryz.prog 48 #[.map mb] W fun e w' => e = .returned (.func (.func 86) #[] #[.pointer (some ⟨W.heap.size, 0, none⟩)]) ∧ w' = W.alloc (.cells #[.map mb] 59) :=
 (callsIn_wide (n := 5)).1 (AnyZ.keys_in keysLay Fence.wide 5 trivial rfl mb W)
set_option maxHeartbeats 1000000 in
theorem slices_Sorted_keys {H : Type} (b nn : Nat) (D0 : DataW H) (R : Value → Option (DataW H × List MemPlace)) (w : World) (hown : w.ownsMap Tryz.prog 9 R b nn D0) (hmax : Maps.size D0 ≤ maxLen) (hbytes : Maps.size D0 * 16 ≤ 140737488355328) :
  Calls Tryz.prog 47 #[.func (.func 86) #[] #[.pointer (some ⟨w.heap.size, 0, none⟩)]] (w.alloc (.cells #[.map (some b)] 59)) fun e w' => ∃ (v : Value) (ss : List (List UInt8)), e = .returned v ∧ ss.Perm (strKeys D0) ∧
   w'.ownsRow (w.alloc (.cells #[.map (some b)] 59)).heap.size 9 1 v ss.length ((ss.mergeSort (fun x y => decide (x ≤ y))).map encStr) ∧ Below (w.alloc (.cells #[.map (some b)] 59)).heap.size (w.alloc (.cells #[.map (some b)] 59)) w' := by
 have hbl := hown.lt
 have hseq : SeqGives Fence.wide 2 Tryz.prog 86 #[.pointer (some ⟨w.heap.size, 0, none⟩)] encStr (fun ss => ss.Perm (strKeys D0)) (Maps.size D0) (w.alloc (.cells #[.map (some b)] 59)) :=
  AnyZ.keys_gives (ρ := keysLay_ren) { keysLay with } Fence.wide _ trivial rfl (by omega) w.heap.size b nn D0 _ (by simp) (by simp) (by
   obtain ⟨es, clock, hb, Ft, hs, hD⟩ := hown
   exact ⟨es, clock, (Below.heap_alloc _ _ b hbl).trans hb, Ft, hs, hD⟩)
 refine ((callsIn_wide (n := 5)).1 (AnyZ.sorted_in sortedLay Fence.wide 5 trivial trivial trivial trivial rfl (by omega) (sorts_in _) (enters_of Tryz.func85 (by kernel_rfl) rfl) 86 #[.pointer (some ⟨w.heap.size, 0, none⟩)] trivial (enters_of Tryz.func86 (by kernel_rfl) rfl) _ _ hmax hbytes _ hseq)).mono ?_
 rintro e w' ⟨v, ss, he, hp, ho, -, hb⟩
 exact ⟨v, ss, he, hp, ho, hb⟩
end Go.Proofs.YtfefeepljbfcdaaGreat
