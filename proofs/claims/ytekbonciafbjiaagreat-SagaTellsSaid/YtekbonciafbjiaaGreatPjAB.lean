/- Joined texts: Iter. What each proves stands at its head; no conditions beside those in its theorems. -/
import Derived.Test.YtekbonciafbjiaaGreatProg
import Derived.Shelf.SlIter.Nil
import Derived.Shelf.SortM.Plain
import Derived.Shelf.SortM.SortNone
import Derived.Ground.GgzProg
import Derived.Ground.SlgmProg
/- maps.Keys and slices.Sorted: the kit's contracts laid at this program (the tables of numbers were printed by the kit's program; the contracts are the kit's). -/
namespace Go.Proofs.YtekbonciafbjiaaGreat
open Go.RowKit Go.Maps Go.Sort Go.Shelf
def keysLay_ren : Go.Shelf.Ren := ⟨fun | 7 => 64 | 10 => 95 | n => n, fun | 23 => 96 | 26 => 9 | 3 => 45 | 28 => 115 | 0 => 0 | 27 => 114 | 33 => 140 | 4 => 4 | n => n, fun | n => n⟩
theorem keysLay : Go.Proofs.SlLaysZ.n7 Tryz.prog keysLay_ren := {
  mixed := by kernel_rfl
  f7 := ⟨Tryz.f64.name, by decide, Tryz.func64.trans (congrArg some (by kernel_rfl))⟩
  f10 := ⟨Tryz.f95.name, by decide, Tryz.func95.trans (congrArg some (by kernel_rfl))⟩
  t0 := Tryz.underlying0
  a0 := Tryz.isAgg0
  z0 := Tryz.sizeOf0
  v0 := Tryz.zeroValue0
  t4 := Tryz.underlying4
  a4 := Tryz.isAgg4
  z4 := Tryz.sizeOf4
  v4 := Tryz.zeroValue4
  t23 := Tryz.underlying96
  a23 := Tryz.isAgg96
  z23 := Tryz.sizeOf96
  v23 := Tryz.zeroValue96
  t26 := Tryz.underlying9
  a26 := Tryz.isAgg9
  z26 := Tryz.sizeOf9
  v26 := Tryz.zeroValue9
  t27 := Tryz.underlying114
  a27 := Tryz.isAgg114
  z27 := Tryz.sizeOf114
  v27 := Tryz.zeroValue114
  t28 := Tryz.underlying115
  a28 := Tryz.isAgg115
  z28 := Tryz.sizeOf115
  v28 := Tryz.zeroValue115
  t33 := Tryz.underlying140
  a33 := Tryz.isAgg140
  z33 := Tryz.sizeOf140
  v33 := Tryz.zeroValue140 }
def sortedLay_ren : Go.Shelf.Ren := ⟨fun | 6 => 63 | 8 => 93 | 9 => 94 | 11 => 113 | 13 => 115 | 12 => 114 | 23 => 129 | 24 => 130 | 14 => 120 | 15 => 121 | 16 => 122 | 17 => 123 | 18 => 124 | 19 => 125 | 20 => 126 | 21 => 127 | 22 => 128 | 25 => 134 | 26 => 135 | 27 => 136 | 28 => 137 | 29 => 138 | 30 => 139 | 31 => 141 | n => n, fun | 26 => 9 | 28 => 115 | 24 => 112 | 0 => 0 | 3 => 3 | 37 => 138 | 48 => 172 | 50 => 26 | 4 => 4 | 40 => 165 | 39 => 164 | 45 => 160 | 5 => 5 | 9 => 9 | 51 => 177 | 55 => 181 | 57 => 183 | 58 => 184 | 33 => 140 | n => n, fun | n => n⟩
theorem sortedLay : Go.Proofs.SlLaysZ.n6 Tryz.prog sortedLay_ren := {
  mixed := by kernel_rfl
  f6 := ⟨Tryz.f63.name, by decide, Tryz.func63.trans (congrArg some (by kernel_rfl))⟩
  f8 := ⟨Tryz.f93.name, by decide, Tryz.func93.trans (congrArg some (by kernel_rfl))⟩
  f11 := ⟨Tryz.f113.name, by decide, Tryz.func113.trans (congrArg some (by kernel_rfl))⟩
  t0 := Tryz.underlying0
  a0 := Tryz.isAgg0
  z0 := Tryz.sizeOf0
  v0 := Tryz.zeroValue0
  t24 := Tryz.underlying112
  a24 := Tryz.isAgg112
  z24 := Tryz.sizeOf112
  v24 := Tryz.zeroValue112
  t26 := Tryz.underlying9
  a26 := Tryz.isAgg9
  z26 := Tryz.sizeOf9
  v26 := Tryz.zeroValue9
  t28 := Tryz.underlying115
  a28 := Tryz.isAgg115
  z28 := Tryz.sizeOf115
  v28 := Tryz.zeroValue115
  i26 := by kernel_rfl }
def sortLay_ren : Go.Shelf.Ren := ⟨fun | 6 => 94 | 8 => 115 | 9 => 114 | 19 => 129 | 20 => 130 | 21 => 120 | 22 => 121 | 23 => 122 | 24 => 123 | 25 => 124 | 26 => 125 | 27 => 126 | 28 => 127 | 29 => 128 | 36 => 134 | 31 => 135 | 32 => 136 | 37 => 137 | 38 => 138 | 39 => 139 | 41 => 141 | n => n, fun | 27 => 112 | 29 => 9 | 3 => 3 | 32 => 138 | 26 => 112 | 0 => 0 | 44 => 172 | 46 => 26 | 4 => 4 | 36 => 165 | 35 => 164 | 41 => 160 | 5 => 5 | 9 => 9 | 53 => 177 | 57 => 181 | 63 => 183 | 64 => 184 | n => n, fun | n => n⟩
theorem sortLay : Go.Proofs.SlLaysM.n6 Tryz.prog sortLay_ren := {
  mixed := by kernel_rfl
  f6 := ⟨Tryz.f94.name, by decide, Tryz.func94.trans (congrArg some (by kernel_rfl))⟩
  f8 := Tryz.func115.trans (congrArg some (by kernel_rfl))
  f9 := ⟨Tryz.f114.name, by decide, Tryz.func114.trans (congrArg some (by kernel_rfl))⟩
  f19 := Tryz.func129.trans (congrArg some (by kernel_rfl))
  f20 := Tryz.func130.trans (congrArg some (by kernel_rfl))
  f21 := ⟨Tryz.f120.name, by decide, Tryz.func120.trans (congrArg some (by kernel_rfl))⟩
  f22 := ⟨Tryz.f121.name, by decide, Tryz.func121.trans (congrArg some (by kernel_rfl))⟩
  f23 := ⟨Tryz.f122.name, by decide, Tryz.func122.trans (congrArg some (by kernel_rfl))⟩
  f24 := ⟨Tryz.f123.name, by decide, Tryz.func123.trans (congrArg some (by kernel_rfl))⟩
  f25 := ⟨Tryz.f124.name, by decide, Tryz.func124.trans (congrArg some (by kernel_rfl))⟩
  f26 := ⟨Tryz.f125.name, by decide, Tryz.func125.trans (congrArg some (by kernel_rfl))⟩
  f27 := ⟨Tryz.f126.name, by decide, Tryz.func126.trans (congrArg some (by kernel_rfl))⟩
  f28 := ⟨Tryz.f127.name, by decide, Tryz.func127.trans (congrArg some (by kernel_rfl))⟩
  f29 := ⟨Tryz.f128.name, by decide, Tryz.func128.trans (congrArg some (by kernel_rfl))⟩
  f31 := Tryz.func135.trans (congrArg some (by kernel_rfl))
  f32 := Tryz.func136.trans (congrArg some (by kernel_rfl))
  f36 := ⟨Tryz.f134.name, by decide, Tryz.func134.trans (congrArg some (by kernel_rfl))⟩
  f37 := ⟨Tryz.f137.name, by decide, Tryz.func137.trans (congrArg some (by kernel_rfl))⟩
  f38 := ⟨Tryz.f138.name, by decide, Tryz.func138.trans (congrArg some (by kernel_rfl))⟩
  f39 := ⟨Tryz.f139.name, by decide, Tryz.func139.trans (congrArg some (by kernel_rfl))⟩
  f41 := ⟨Tryz.f141.name, by decide, Tryz.func141.trans (congrArg some (by kernel_rfl))⟩
  t0 := Tryz.underlying0
  a0 := Tryz.isAgg0
  z0 := Tryz.sizeOf0
  v0 := Tryz.zeroValue0
  t3 := Tryz.underlying3
  a3 := Tryz.isAgg3
  z3 := Tryz.sizeOf3
  v3 := Tryz.zeroValue3
  t4 := Tryz.underlying4
  a4 := Tryz.isAgg4
  z4 := Tryz.sizeOf4
  v4 := Tryz.zeroValue4
  t5 := Tryz.underlying5
  a5 := Tryz.isAgg5
  z5 := Tryz.sizeOf5
  v5 := Tryz.zeroValue5
  t9 := Tryz.underlying9
  a9 := Tryz.isAgg9
  z9 := Tryz.sizeOf9
  v9 := Tryz.zeroValue9
  t26 := Tryz.underlying112
  a26 := Tryz.isAgg112
  z26 := Tryz.sizeOf112
  v26 := Tryz.zeroValue112
  t27 := Tryz.underlying112
  a27 := Tryz.isAgg112
  z27 := Tryz.sizeOf112
  v27 := Tryz.zeroValue112
  t29 := Tryz.underlying9
  a29 := Tryz.isAgg9
  z29 := Tryz.sizeOf9
  v29 := Tryz.zeroValue9
  t32 := Tryz.underlying138
  a32 := Tryz.isAgg138
  z32 := Tryz.sizeOf138
  v32 := Tryz.zeroValue138
  t35 := Tryz.underlying164
  a35 := Tryz.isAgg164
  z35 := Tryz.sizeOf164
  v35 := Tryz.zeroValue164
  t36 := Tryz.underlying165
  a36 := Tryz.isAgg165
  z36 := Tryz.sizeOf165
  v36 := Tryz.zeroValue165
  t41 := Tryz.underlying160
  a41 := Tryz.isAgg160
  z41 := Tryz.sizeOf160
  v41 := Tryz.zeroValue160
  t44 := Tryz.underlying172
  a44 := Tryz.isAgg172
  z44 := Tryz.sizeOf172
  v44 := Tryz.zeroValue172
  t46 := Tryz.underlying26
  a46 := Tryz.isAgg26
  z46 := Tryz.sizeOf26
  v46 := Tryz.zeroValue26
  t53 := Tryz.underlying177
  a53 := Tryz.isAgg177
  z53 := Tryz.sizeOf177
  v53 := Tryz.zeroValue177
  t57 := Tryz.underlying181
  a57 := Tryz.isAgg181
  z57 := Tryz.sizeOf181
  v57 := Tryz.zeroValue181
  t63 := Tryz.underlying183
  a63 := Tryz.isAgg183
  z63 := Tryz.sizeOf183
  v63 := Tryz.zeroValue183
  t64 := Tryz.underlying184
  a64 := Tryz.isAgg184
  z64 := Tryz.sizeOf184
  v64 := Tryz.zeroValue184 }
theorem sorts_in (m : Nat) : AnyZ.SortsIn Tryz.prog sortedLay_ren Fence.wide m :=
  ⟨fun blk off cap ss W hH hblk hsz => callsIn_wide.2 (AnyM.slices_Sort_string sortLay blk off cap ss W hH hblk hsz),
   fun p cap W => callsIn_wide.2 (AnyM.slices_Sort_string_none sortLay p cap W)⟩
theorem maps_Keys (mb : Option Nat) (W : World) : Calls Tryz.prog 64 #[.map mb] W fun e w' => e = .returned (.func (.func 95) #[] #[.pointer (some ⟨W.heap.size, 0, none⟩)]) ∧ w' = W.alloc (.cells #[.map mb] 96) :=
  (callsIn_wide (n := 5)).1 (AnyZ.keys_in keysLay Fence.wide 5 trivial rfl mb W)
set_option maxHeartbeats 1000000 in
theorem slices_Sorted_keys {H : Type} (b nn : Nat) (D0 : DataW H) (R : Value → Option (DataW H × List MemPlace)) (w : World) (hown : w.ownsMap Tryz.prog 9 R b nn D0) (hmax : Maps.size D0 ≤ maxLen) (hbytes : Maps.size D0 * 16 ≤ 140737488355328) :
    Calls Tryz.prog 63 #[.func (.func 95) #[] #[.pointer (some ⟨w.heap.size, 0, none⟩)]] (w.alloc (.cells #[.map (some b)] 96)) fun e w' => ∃ (v : Value) (ss : List (List UInt8)), e = .returned v ∧ ss.Perm (strKeys D0) ∧
      w'.ownsRow (w.alloc (.cells #[.map (some b)] 96)).heap.size 9 1 v ss.length ((ss.mergeSort (fun x y => decide (x ≤ y))).map encStr) ∧ Below (w.alloc (.cells #[.map (some b)] 96)).heap.size (w.alloc (.cells #[.map (some b)] 96)) w' := by
  have hbl := hown.lt
  have hseq : SeqGives Fence.wide 2 Tryz.prog 95 #[.pointer (some ⟨w.heap.size, 0, none⟩)] encStr (fun ss => ss.Perm (strKeys D0)) (Maps.size D0) (w.alloc (.cells #[.map (some b)] 96)) :=
    AnyZ.keys_gives (ρ := keysLay_ren) { keysLay with } Fence.wide _ trivial rfl (by omega) w.heap.size b nn D0 _ (by simp) (by simp) (by
      obtain ⟨es, clock, hb, Ft, hs, hD⟩ := hown
      exact ⟨es, clock, (Below.heap_alloc _ _ b hbl).trans hb, Ft, hs, hD⟩)
  refine ((callsIn_wide (n := 5)).1 (AnyZ.sorted_in sortedLay Fence.wide 5 trivial trivial trivial trivial rfl (by omega) (sorts_in _) (enters_of Tryz.func94 (by kernel_rfl) rfl) 95 #[.pointer (some ⟨w.heap.size, 0, none⟩)] trivial (enters_of Tryz.func95 (by kernel_rfl) rfl) _ _ hmax hbytes _ hseq)).mono ?_
  rintro e w' ⟨v, ss, he, hp, ho, -, hb⟩
  exact ⟨v, ss, he, hp, ho, hb⟩
end Go.Proofs.YtekbonciafbjiaaGreat
