/-
  slices.Sorted(maps.Keys(m)) at this program: the shelf's contracts laid at its numbers (by wip/tools/plainlay.py), and the two methods 'keys'.
-/
import Derived.Shelf.SlIter.Nil
import Derived.Shelf.SlIterI.Nil
import Derived.Shelf.SortM.Plain
import Derived.Shelf.SortM.SortNone
import Derived.Ground.GgzProg
import Derived.Ground.SlgmProg
import Derived.Test.YtjggeodnoigkkaaA
namespace Go.Proofs
open Go.RowKit Go.Maps Go.Sort Go.Shelf

def Try.keys66_ren : Go.Shelf.Ren := ⟨fun | 7 => 66 | 10 => 80 | n => n, fun | 23 => 69 | 26 => 9 | 3 => 84 | 28 => 109 | 0 => 0 | 27 => 108 | 33 => 65 | 4 => 4 | n => n, fun | n => n⟩
theorem Try.keys66 : Go.Proofs.SlLaysZ.n7 Try.prog Try.keys66_ren := {
  mixed := by kernel_rfl
  f7 := ⟨Try.f66.name, by decide, Try.func66.trans (congrArg some (by kernel_rfl))⟩
  f10 := ⟨Try.f80.name, by decide, Try.func80.trans (congrArg some (by kernel_rfl))⟩
  t0 := Try.underlying0
  a0 := Try.isAgg0
  z0 := Try.sizeOf0
  v0 := Try.zeroValue0
  t4 := Try.underlying4
  a4 := Try.isAgg4
  z4 := Try.sizeOf4
  v4 := Try.zeroValue4
  t23 := Try.underlying69
  a23 := Try.isAgg69
  z23 := Try.sizeOf69
  v23 := Try.zeroValue69
  t26 := Try.underlying9
  a26 := Try.isAgg9
  z26 := Try.sizeOf9
  v26 := Try.zeroValue9
  t27 := Try.underlying108
  a27 := Try.isAgg108
  z27 := Try.sizeOf108
  v27 := Try.zeroValue108
  t28 := Try.underlying109
  a28 := Try.isAgg109
  z28 := Try.sizeOf109
  v28 := Try.zeroValue109
  t33 := Try.underlying65
  a33 := Try.isAgg65
  z33 := Try.sizeOf65
  v33 := Try.zeroValue65
}

def Try.sorted65_ren : Go.Shelf.Ren := ⟨fun | 6 => 65 | 8 => 78 | 9 => 79 | 11 => 85 | 13 => 84 | 12 => 86 | 23 => 96 | 24 => 97 | 14 => 98 | 15 => 99 | 16 => 100 | 17 => 101 | 18 => 102 | 19 => 103 | 20 => 104 | 21 => 105 | 22 => 106 | 25 => 113 | 26 => 108 | 27 => 109 | 28 => 114 | 29 => 115 | 30 => 116 | 31 => 118 | n => n, fun | 26 => 9 | 28 => 109 | 24 => 35 | 0 => 0 | 3 => 3 | 37 => 120 | 48 => 135 | 50 => 137 | 4 => 4 | 40 => 128 | 39 => 127 | 45 => 112 | 5 => 5 | 9 => 9 | 51 => 144 | 55 => 148 | 57 => 152 | 58 => 153 | 33 => 65 | n => n, fun | n => n⟩
theorem Try.sorted65 : Go.Proofs.SlLaysZ.n6 Try.prog Try.sorted65_ren := {
  mixed := by kernel_rfl
  f6 := ⟨Try.f65.name, by decide, Try.func65.trans (congrArg some (by kernel_rfl))⟩
  f8 := ⟨Try.f78.name, by decide, Try.func78.trans (congrArg some (by kernel_rfl))⟩
  f11 := ⟨Try.f85.name, by decide, Try.func85.trans (congrArg some (by kernel_rfl))⟩
  t0 := Try.underlying0
  a0 := Try.isAgg0
  z0 := Try.sizeOf0
  v0 := Try.zeroValue0
  t24 := Try.underlying35
  a24 := Try.isAgg35
  z24 := Try.sizeOf35
  v24 := Try.zeroValue35
  t26 := Try.underlying9
  a26 := Try.isAgg9
  z26 := Try.sizeOf9
  v26 := Try.zeroValue9
  t28 := Try.underlying109
  a28 := Try.isAgg109
  z28 := Try.sizeOf109
  v28 := Try.zeroValue109
  i26 := by kernel_rfl
}

def Try.sort79_ren : Go.Shelf.Ren := ⟨fun | 6 => 79 | 8 => 84 | 9 => 86 | 19 => 96 | 20 => 97 | 21 => 98 | 22 => 99 | 23 => 100 | 24 => 101 | 25 => 102 | 26 => 103 | 27 => 104 | 28 => 105 | 29 => 106 | 36 => 113 | 31 => 108 | 32 => 109 | 37 => 114 | 38 => 115 | 39 => 116 | 41 => 118 | n => n, fun | 27 => 35 | 29 => 9 | 3 => 3 | 32 => 120 | 26 => 35 | 0 => 0 | 44 => 135 | 46 => 137 | 4 => 4 | 36 => 128 | 35 => 127 | 41 => 112 | 5 => 5 | 9 => 9 | 53 => 144 | 57 => 148 | 63 => 152 | 64 => 153 | n => n, fun | n => n⟩
theorem Try.sort79 : Go.Proofs.SlLaysM.n6 Try.prog Try.sort79_ren := {
  mixed := by kernel_rfl
  f6 := ⟨Try.f79.name, by decide, Try.func79.trans (congrArg some (by kernel_rfl))⟩
  f8 := Try.func84.trans (congrArg some (by kernel_rfl))
  f9 := ⟨Try.f86.name, by decide, Try.func86.trans (congrArg some (by kernel_rfl))⟩
  f19 := Try.func96.trans (congrArg some (by kernel_rfl))
  f20 := Try.func97.trans (congrArg some (by kernel_rfl))
  f21 := ⟨Try.f98.name, by decide, Try.func98.trans (congrArg some (by kernel_rfl))⟩
  f22 := ⟨Try.f99.name, by decide, Try.func99.trans (congrArg some (by kernel_rfl))⟩
  f23 := ⟨Try.f100.name, by decide, Try.func100.trans (congrArg some (by kernel_rfl))⟩
  f24 := ⟨Try.f101.name, by decide, Try.func101.trans (congrArg some (by kernel_rfl))⟩
  f25 := ⟨Try.f102.name, by decide, Try.func102.trans (congrArg some (by kernel_rfl))⟩
  f26 := ⟨Try.f103.name, by decide, Try.func103.trans (congrArg some (by kernel_rfl))⟩
  f27 := ⟨Try.f104.name, by decide, Try.func104.trans (congrArg some (by kernel_rfl))⟩
  f28 := ⟨Try.f105.name, by decide, Try.func105.trans (congrArg some (by kernel_rfl))⟩
  f29 := ⟨Try.f106.name, by decide, Try.func106.trans (congrArg some (by kernel_rfl))⟩
  f31 := Try.func108.trans (congrArg some (by kernel_rfl))
  f32 := Try.func109.trans (congrArg some (by kernel_rfl))
  f36 := ⟨Try.f113.name, by decide, Try.func113.trans (congrArg some (by kernel_rfl))⟩
  f37 := ⟨Try.f114.name, by decide, Try.func114.trans (congrArg some (by kernel_rfl))⟩
  f38 := ⟨Try.f115.name, by decide, Try.func115.trans (congrArg some (by kernel_rfl))⟩
  f39 := ⟨Try.f116.name, by decide, Try.func116.trans (congrArg some (by kernel_rfl))⟩
  f41 := ⟨Try.f118.name, by decide, Try.func118.trans (congrArg some (by kernel_rfl))⟩
  t0 := Try.underlying0
  a0 := Try.isAgg0
  z0 := Try.sizeOf0
  v0 := Try.zeroValue0
  t3 := Try.underlying3
  a3 := Try.isAgg3
  z3 := Try.sizeOf3
  v3 := Try.zeroValue3
  t4 := Try.underlying4
  a4 := Try.isAgg4
  z4 := Try.sizeOf4
  v4 := Try.zeroValue4
  t5 := Try.underlying5
  a5 := Try.isAgg5
  z5 := Try.sizeOf5
  v5 := Try.zeroValue5
  t9 := Try.underlying9
  a9 := Try.isAgg9
  z9 := Try.sizeOf9
  v9 := Try.zeroValue9
  t26 := Try.underlying35
  a26 := Try.isAgg35
  z26 := Try.sizeOf35
  v26 := Try.zeroValue35
  t27 := Try.underlying35
  a27 := Try.isAgg35
  z27 := Try.sizeOf35
  v27 := Try.zeroValue35
  t29 := Try.underlying9
  a29 := Try.isAgg9
  z29 := Try.sizeOf9
  v29 := Try.zeroValue9
  t32 := Try.underlying120
  a32 := Try.isAgg120
  z32 := Try.sizeOf120
  v32 := Try.zeroValue120
  t35 := Try.underlying127
  a35 := Try.isAgg127
  z35 := Try.sizeOf127
  v35 := Try.zeroValue127
  t36 := Try.underlying128
  a36 := Try.isAgg128
  z36 := Try.sizeOf128
  v36 := Try.zeroValue128
  t41 := Try.underlying112
  a41 := Try.isAgg112
  z41 := Try.sizeOf112
  v41 := Try.zeroValue112
  t44 := Try.underlying135
  a44 := Try.isAgg135
  z44 := Try.sizeOf135
  v44 := Try.zeroValue135
  t46 := Try.underlying137
  a46 := Try.isAgg137
  z46 := Try.sizeOf137
  v46 := Try.zeroValue137
  t53 := Try.underlying144
  a53 := Try.isAgg144
  z53 := Try.sizeOf144
  v53 := Try.zeroValue144
  t57 := Try.underlying148
  a57 := Try.isAgg148
  z57 := Try.sizeOf148
  v57 := Try.zeroValue148
  t63 := Try.underlying152
  a63 := Try.isAgg152
  z63 := Try.sizeOf152
  v63 := Try.zeroValue152
  t64 := Try.underlying153
  a64 := Try.isAgg153
  z64 := Try.sizeOf153
  v64 := Try.zeroValue153
}

def Try.keys64_ren : Go.Shelf.Ren := ⟨fun | 7 => 64 | 10 => 77 | n => n, fun | 23 => 74 | 26 => 3 | 3 => 3 | 28 => 105 | 0 => 0 | 27 => 104 | 33 => 85 | 4 => 4 | n => n, fun | n => n⟩
theorem Try.keys64 : Go.Proofs.SlLaysZI.n7 Try.prog Try.keys64_ren := {
  mixed := by kernel_rfl
  f7 := ⟨Try.f64.name, by decide, Try.func64.trans (congrArg some (by kernel_rfl))⟩
  f10 := ⟨Try.f77.name, by decide, Try.func77.trans (congrArg some (by kernel_rfl))⟩
  t0 := Try.underlying0
  a0 := Try.isAgg0
  z0 := Try.sizeOf0
  v0 := Try.zeroValue0
  t4 := Try.underlying4
  a4 := Try.isAgg4
  z4 := Try.sizeOf4
  v4 := Try.zeroValue4
  t23 := Try.underlying74
  a23 := Try.isAgg74
  z23 := Try.sizeOf74
  v23 := Try.zeroValue74
  t26 := Try.underlying3
  a26 := Try.isAgg3
  z26 := Try.sizeOf3
  v26 := Try.zeroValue3
  t27 := Try.underlying104
  a27 := Try.isAgg104
  z27 := Try.sizeOf104
  v27 := Try.zeroValue104
  t28 := Try.underlying105
  a28 := Try.isAgg105
  z28 := Try.sizeOf105
  v28 := Try.zeroValue105
  t33 := Try.underlying85
  a33 := Try.isAgg85
  z33 := Try.sizeOf85
  v33 := Try.zeroValue85
}

def Try.sorted63_ren : Go.Shelf.Ren := ⟨fun | 6 => 63 | 8 => 75 | 9 => 76 | 11 => 82 | 13 => 84 | 12 => 83 | 23 => 96 | 24 => 97 | 14 => 87 | 15 => 88 | 16 => 89 | 17 => 90 | 18 => 91 | 19 => 92 | 20 => 93 | 21 => 94 | 22 => 95 | 25 => 107 | 26 => 108 | 27 => 109 | 28 => 110 | 29 => 111 | 30 => 112 | 31 => 117 | n => n, fun | 26 => 3 | 28 => 105 | 24 => 30 | 0 => 0 | 3 => 3 | 37 => 120 | 48 => 135 | 50 => 137 | 4 => 4 | 40 => 128 | 39 => 127 | 45 => 112 | 5 => 5 | 9 => 9 | 51 => 144 | 55 => 148 | 57 => 152 | 58 => 153 | 33 => 85 | n => n, fun | n => n⟩
theorem Try.sorted63 : Go.Proofs.SlLaysZI.n6 Try.prog Try.sorted63_ren := {
  mixed := by kernel_rfl
  f6 := ⟨Try.f63.name, by decide, Try.func63.trans (congrArg some (by kernel_rfl))⟩
  f8 := ⟨Try.f75.name, by decide, Try.func75.trans (congrArg some (by kernel_rfl))⟩
  f11 := ⟨Try.f82.name, by decide, Try.func82.trans (congrArg some (by kernel_rfl))⟩
  t0 := Try.underlying0
  a0 := Try.isAgg0
  z0 := Try.sizeOf0
  v0 := Try.zeroValue0
  t24 := Try.underlying30
  a24 := Try.isAgg30
  z24 := Try.sizeOf30
  v24 := Try.zeroValue30
  t26 := Try.underlying3
  a26 := Try.isAgg3
  z26 := Try.sizeOf3
  v26 := Try.zeroValue3
  t28 := Try.underlying105
  a28 := Try.isAgg105
  z28 := Try.sizeOf105
  v28 := Try.zeroValue105
  i26 := by kernel_rfl
}

def Try.sort76_ren : Go.Shelf.Ren := ⟨fun | 5 => 76 | 8 => 84 | 7 => 83 | 19 => 96 | 20 => 97 | 10 => 87 | 11 => 88 | 12 => 89 | 13 => 90 | 14 => 91 | 15 => 92 | 16 => 93 | 17 => 94 | 18 => 95 | 30 => 107 | 31 => 108 | 32 => 109 | 33 => 110 | 34 => 111 | 35 => 112 | 40 => 117 | n => n, fun | 23 => 30 | 25 => 3 | 3 => 3 | 32 => 120 | 22 => 30 | 0 => 0 | 44 => 135 | 46 => 137 | 4 => 4 | 36 => 128 | 35 => 127 | 41 => 112 | 5 => 5 | 9 => 9 | 53 => 144 | 57 => 148 | 63 => 152 | 64 => 153 | n => n, fun | n => n⟩
theorem Try.sort76 : Go.Proofs.SlLaysM.n5 Try.prog Try.sort76_ren := {
  mixed := by kernel_rfl
  f5 := ⟨Try.f76.name, by decide, Try.func76.trans (congrArg some (by kernel_rfl))⟩
  f7 := ⟨Try.f83.name, by decide, Try.func83.trans (congrArg some (by kernel_rfl))⟩
  f8 := Try.func84.trans (congrArg some (by kernel_rfl))
  f10 := ⟨Try.f87.name, by decide, Try.func87.trans (congrArg some (by kernel_rfl))⟩
  f11 := ⟨Try.f88.name, by decide, Try.func88.trans (congrArg some (by kernel_rfl))⟩
  f12 := ⟨Try.f89.name, by decide, Try.func89.trans (congrArg some (by kernel_rfl))⟩
  f13 := ⟨Try.f90.name, by decide, Try.func90.trans (congrArg some (by kernel_rfl))⟩
  f14 := ⟨Try.f91.name, by decide, Try.func91.trans (congrArg some (by kernel_rfl))⟩
  f15 := ⟨Try.f92.name, by decide, Try.func92.trans (congrArg some (by kernel_rfl))⟩
  f16 := ⟨Try.f93.name, by decide, Try.func93.trans (congrArg some (by kernel_rfl))⟩
  f17 := ⟨Try.f94.name, by decide, Try.func94.trans (congrArg some (by kernel_rfl))⟩
  f18 := ⟨Try.f95.name, by decide, Try.func95.trans (congrArg some (by kernel_rfl))⟩
  f19 := Try.func96.trans (congrArg some (by kernel_rfl))
  f20 := Try.func97.trans (congrArg some (by kernel_rfl))
  f30 := ⟨Try.f107.name, by decide, Try.func107.trans (congrArg some (by kernel_rfl))⟩
  f31 := Try.func108.trans (congrArg some (by kernel_rfl))
  f32 := Try.func109.trans (congrArg some (by kernel_rfl))
  f33 := ⟨Try.f110.name, by decide, Try.func110.trans (congrArg some (by kernel_rfl))⟩
  f34 := ⟨Try.f111.name, by decide, Try.func111.trans (congrArg some (by kernel_rfl))⟩
  f35 := ⟨Try.f112.name, by decide, Try.func112.trans (congrArg some (by kernel_rfl))⟩
  f40 := ⟨Try.f117.name, by decide, Try.func117.trans (congrArg some (by kernel_rfl))⟩
  t0 := Try.underlying0
  a0 := Try.isAgg0
  z0 := Try.sizeOf0
  v0 := Try.zeroValue0
  t3 := Try.underlying3
  a3 := Try.isAgg3
  z3 := Try.sizeOf3
  v3 := Try.zeroValue3
  t4 := Try.underlying4
  a4 := Try.isAgg4
  z4 := Try.sizeOf4
  v4 := Try.zeroValue4
  t5 := Try.underlying5
  a5 := Try.isAgg5
  z5 := Try.sizeOf5
  v5 := Try.zeroValue5
  t9 := Try.underlying9
  a9 := Try.isAgg9
  z9 := Try.sizeOf9
  v9 := Try.zeroValue9
  t22 := Try.underlying30
  a22 := Try.isAgg30
  z22 := Try.sizeOf30
  v22 := Try.zeroValue30
  t23 := Try.underlying30
  a23 := Try.isAgg30
  z23 := Try.sizeOf30
  v23 := Try.zeroValue30
  t25 := Try.underlying3
  a25 := Try.isAgg3
  z25 := Try.sizeOf3
  v25 := Try.zeroValue3
  t32 := Try.underlying120
  a32 := Try.isAgg120
  z32 := Try.sizeOf120
  v32 := Try.zeroValue120
  t35 := Try.underlying127
  a35 := Try.isAgg127
  z35 := Try.sizeOf127
  v35 := Try.zeroValue127
  t36 := Try.underlying128
  a36 := Try.isAgg128
  z36 := Try.sizeOf128
  v36 := Try.zeroValue128
  t41 := Try.underlying112
  a41 := Try.isAgg112
  z41 := Try.sizeOf112
  v41 := Try.zeroValue112
  t44 := Try.underlying135
  a44 := Try.isAgg135
  z44 := Try.sizeOf135
  v44 := Try.zeroValue135
  t46 := Try.underlying137
  a46 := Try.isAgg137
  z46 := Try.sizeOf137
  v46 := Try.zeroValue137
  t53 := Try.underlying144
  a53 := Try.isAgg144
  z53 := Try.sizeOf144
  v53 := Try.zeroValue144
  t57 := Try.underlying148
  a57 := Try.isAgg148
  z57 := Try.sizeOf148
  v57 := Try.zeroValue148
  t63 := Try.underlying152
  a63 := Try.isAgg152
  z63 := Try.sizeOf152
  v63 := Try.zeroValue152
  t64 := Try.underlying153
  a64 := Try.isAgg153
  z64 := Try.sizeOf153
  v64 := Try.zeroValue153
}


theorem Try.sorts65 (m : Nat) : AnyZ.SortsIn Try.prog Try.sorted65_ren Fence.wide m :=
  ⟨fun blk off cap ss W hH hblk hsz => callsIn_wide.2 (AnyM.slices_Sort_string Try.sort79 blk off cap ss W hH hblk hsz),
   fun p cap W => callsIn_wide.2 (AnyM.slices_Sort_string_none Try.sort79 p cap W)⟩
theorem Try.sorts63 (m : Nat) : AnyZI.SortsIn Try.prog Try.sorted63_ren Fence.wide m :=
  ⟨fun blk off cap ss W hH hblk hsz => callsIn_wide.2 (AnyM.slices_Sort_int Try.sort76 blk off cap ss W hH hblk hsz),
   fun p cap W => callsIn_wide.2 (AnyM.slices_Sort_int_none Try.sort76 p cap W)⟩

theorem Try.maps_Keys_66 (mb : Option Nat) (W : World) : Calls Try.prog 66 #[.map mb] W fun e w' => e = .returned (.func (.func 80) #[] #[.pointer (some ⟨W.heap.size, 0, none⟩)]) ∧ w' = W.alloc (.cells #[.map mb] 69) :=
  (callsIn_wide (n := 5)).1 (AnyZ.keys_in Try.keys66 Fence.wide 5 trivial rfl mb W)
theorem Try.maps_Keys_64 (mb : Option Nat) (W : World) : Calls Try.prog 64 #[.map mb] W fun e w' => e = .returned (.func (.func 77) #[] #[.pointer (some ⟨W.heap.size, 0, none⟩)]) ∧ w' = W.alloc (.cells #[.map mb] 74) :=
  (callsIn_wide (n := 5)).1 (AnyZI.keys_in Try.keys64 Fence.wide 5 trivial rfl mb W)

set_option maxHeartbeats 1000000 in
theorem Try.slices_Sorted_keys_65 {H : Type} (b nn : Nat) (D0 : DataW H) (R : Value → Option (DataW H × List MemPlace)) (w : World) (hown : w.ownsMap Try.prog 9 R b nn D0) (hmax : Maps.size D0 ≤ maxLen) (hbytes : Maps.size D0 * 16 ≤ 140737488355328) :
    Calls Try.prog 65 #[.func (.func 80) #[] #[.pointer (some ⟨w.heap.size, 0, none⟩)]] (w.alloc (.cells #[.map (some b)] 69)) fun e w' => ∃ (v : Value) (ss : List (List UInt8)), e = .returned v ∧ ss.Perm (strKeys D0) ∧
      w'.ownsRow (w.alloc (.cells #[.map (some b)] 69)).heap.size 9 1 v ss.length ((ss.mergeSort (fun x y => decide (x ≤ y))).map encStr) ∧ (v = .slice none 0 0 ↔ ss = []) ∧ Below (w.alloc (.cells #[.map (some b)] 69)).heap.size (w.alloc (.cells #[.map (some b)] 69)) w' := by
  have hbl := hown.lt
  have hseq : SeqGives Fence.wide 2 Try.prog 80 #[.pointer (some ⟨w.heap.size, 0, none⟩)] encStr (fun ss => ss.Perm (strKeys D0)) (Maps.size D0) (w.alloc (.cells #[.map (some b)] 69)) :=
    AnyZ.keys_gives (ρ := Try.keys66_ren) { Try.keys66 with } Fence.wide _ trivial rfl (by omega) w.heap.size b nn D0 _ (by simp) (by simp) (by
      obtain ⟨es, clock, hb, Ft, hs, hD⟩ := hown
      exact ⟨es, clock, (Below.heap_alloc _ _ b hbl).trans hb, Ft, hs, hD⟩)
  exact (callsIn_wide (n := 5)).1 (AnyZ.sorted_in Try.sorted65 Fence.wide 5 trivial trivial trivial trivial rfl (by omega) (Try.sorts65 _) (enters_of Try.func79 (by kernel_rfl) rfl) 80 #[.pointer (some ⟨w.heap.size, 0, none⟩)] trivial (enters_of Try.func80 (by kernel_rfl) rfl) _ _ hmax hbytes _ hseq)

set_option maxHeartbeats 1000000 in
theorem Try.slices_Sorted_keys_63 {H : Type} (b nn : Nat) (D0 : DataW H) (R : Value → Option (DataW H × List MemPlace)) (w : World) (hown : w.ownsMap Try.prog 3 R b nn D0) (hmax : Maps.size D0 ≤ maxLen) (hbytes : Maps.size D0 * 8 ≤ 140737488355328) :
    Calls Try.prog 63 #[.func (.func 77) #[] #[.pointer (some ⟨w.heap.size, 0, none⟩)]] (w.alloc (.cells #[.map (some b)] 74)) fun e w' => ∃ (v : Value) (ss : List Int), e = .returned v ∧ ss.Perm (intKeys D0) ∧
      w'.ownsRow (w.alloc (.cells #[.map (some b)] 74)).heap.size 3 1 v ss.length ((ss.mergeSort (fun x y => decide (x ≤ y))).map encZ) ∧ (v = .slice none 0 0 ↔ ss = []) ∧ Below (w.alloc (.cells #[.map (some b)] 74)).heap.size (w.alloc (.cells #[.map (some b)] 74)) w' := by
  have hbl := hown.lt
  have hseq : SeqGives Fence.wide 2 Try.prog 77 #[.pointer (some ⟨w.heap.size, 0, none⟩)] encZ (fun ss => ss.Perm (intKeys D0)) (Maps.size D0) (w.alloc (.cells #[.map (some b)] 74)) :=
    AnyZI.keys_gives (ρ := Try.keys64_ren) { Try.keys64 with } Fence.wide _ trivial rfl (by omega) w.heap.size b nn D0 _ (by simp) (by simp) (by
      obtain ⟨es, clock, hb, Ft, hs, hD⟩ := hown
      exact ⟨es, clock, (Below.heap_alloc _ _ b hbl).trans hb, Ft, hs, hD⟩)
  exact (callsIn_wide (n := 5)).1 (AnyZI.sorted_in Try.sorted63 Fence.wide 5 trivial trivial trivial trivial rfl (by omega) (Try.sorts63 _) (enters_of Try.func76 (by kernel_rfl) rfl) 77 #[.pointer (some ⟨w.heap.size, 0, none⟩)] trivial (enters_of Try.func77 (by kernel_rfl) rfl) _ _ hmax hbytes _ hseq)

namespace Ytjggeodnoigkkaa
open Go.Proofs.YtjggeodnoigkkaaM

/-- A row of the call's own that holds strings. -/
def Strs (w : World) (base : Nat) (v : Value) (l : List Bs) : Prop := w.ownsRow base 9 1 v l.length (l.map encStr) ∧ (v = .slice none 0 0 ↔ l = [])
/-- .. numbers. -/
def Ints (w : World) (base : Nat) (v : Value) (l : List Int) : Prop := w.ownsRow base 3 1 v l.length (l.map encZ) ∧ (v = .slice none 0 0 ↔ l = [])

set_option maxHeartbeats 1000000 in
theorem keys_s (b : Nat) (M : PM) (w : World) (h : PMap w b M) (hsz : M.length * 16 ≤ 140737488355328) :
    Calls Try.prog 34 #[.agg #[.map (some b)]] w fun e w' => ∃ v, e = .returned v ∧ Strs w' w.heap.size v (M.map (·.1)) ∧ Below w.heap.size w w' := by
  have hown := (h.alloc (.cells #[.map (some b)] 71)).2
  have hS := Lib.hid (size_toD pinC.ev M)
  have hmax : Maps.size (toD pinC.ev M) ≤ maxLen := by rw [hS.out]; show M.length ≤ 2^63 - 1; omega
  have hbytes : Maps.size (toD pinC.ev M) * 16 ≤ 140737488355328 := by rw [hS.out]; exact hsz
  have hr := Lib.hid h.1
  clear h hsz
  have hc := Try.slices_Sorted_keys_65 b M.length _ _ _ hown hmax hbytes
  simp only [World.size_alloc] at hc
  go_enter Try.func34, Try.ntmps34
  go_wp2_with (first
    | (go_at_call 66; refine (Try.maps_Keys_66 _ _).mono ?_; rintro e w' ⟨rfl, rfl⟩)
    | (go_at_call 65; refine hc.mono ?_; rintro e w' ⟨v, ss, rfl, hS, hrow, hnil, hb⟩))
  go_ret
  rw [strKeys_toD] at hS
  have hl : ss.length = (M.map (·.1)).length := hS.length_eq
  have hk := keys_sorted_s hr.out hS
  refine ⟨v, rfl, ⟨?_, ?_⟩, ?_⟩
  · rw [hk, hl] at hrow
    exact ownsRow_base_a hrow (by omega)
  · rw [hnil, ← List.length_eq_zero_iff, hl, List.length_eq_zero_iff]
  · exact (((Below.refl _ w).alloc (Nat.le_refl _) _).alloc (by simp) _).trans (hb.mono (by omega))

set_option maxHeartbeats 1000000 in
theorem keys_i (b : Nat) (M : DM) (w : World) (h : DMap w b M) (hsz : M.length * 8 ≤ 140737488355328) :
    Calls Try.prog 33 #[.agg #[.map (some b)]] w fun e w' => ∃ v, e = .returned v ∧ Ints w' w.heap.size v (M.map (·.1)) ∧ Below w.heap.size w w' := by
  have hown := (h.alloc (.cells #[.map (some b)] 76)).2
  have hS := Lib.hid (size_toD intC.ev M)
  have hmax : Maps.size (toD intC.ev M) ≤ maxLen := by rw [hS.out]; show M.length ≤ 2^63 - 1; omega
  have hbytes : Maps.size (toD intC.ev M) * 8 ≤ 140737488355328 := by rw [hS.out]; exact hsz
  have hr := Lib.hid h.1
  clear h hsz
  have hc := Try.slices_Sorted_keys_63 b M.length _ _ _ hown hmax hbytes
  simp only [World.size_alloc] at hc
  go_enter Try.func33, Try.ntmps33
  go_wp2_with (first
    | (go_at_call 64; refine (Try.maps_Keys_64 _ _).mono ?_; rintro e w' ⟨rfl, rfl⟩)
    | (go_at_call 63; refine hc.mono ?_; rintro e w' ⟨v, ss, rfl, hS, hrow, hnil, hb⟩))
  go_ret
  rw [intKeys_toD] at hS
  have hl : ss.length = (M.map (·.1)).length := hS.length_eq
  have hk := keys_sorted_i hr.out hS
  refine ⟨v, rfl, ⟨?_, ?_⟩, ?_⟩
  · rw [hk, hl] at hrow
    exact ownsRow_base_a hrow (by omega)
  · rw [hnil, ← List.length_eq_zero_iff, hl, List.length_eq_zero_iff]
  · exact (((Below.refl _ w).alloc (Nat.le_refl _) _).alloc (by simp) _).trans (hb.mono (by omega))

end Ytjggeodnoigkkaa
end Go.Proofs
