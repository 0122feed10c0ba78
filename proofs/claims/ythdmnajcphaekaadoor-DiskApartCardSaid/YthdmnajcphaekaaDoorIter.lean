/- slices.Sorted(maps.Keys(m)) at this dump: contracts of the shelf, laid by the kit's tools. -/
import Derived.Shelf.SlGeneric
import Derived.Shelf.SlIter.Nil
import Derived.Shelf.SortM.Plain
import Derived.Shelf.SortM.SortNone
import Derived.Ground.GgzProg
import Derived.Ground.SlgmProg
import Derived.Test.YthdmnajcphaekaaDoorProg
namespace Go.Proofs
open Go.RowKit Go.Maps Go.Sort Go.Shelf
def Tryd.keys48_ren : Go.Shelf.Ren := ⟨fun | 7 => 48 | 10 => 57 | n => n, fun | 23 => 67 | 26 => 9 | 3 => 23 | 28 => 83 | 0 => 0 | 27 => 82 | 33 => 75 | 4 => 4 | n => n, fun | n => n⟩
theorem Tryd.keys48 : Go.Proofs.SlLaysZ.n7 Tryd.prog Tryd.keys48_ren := {
  mixed := by kernel_rfl
  f7 := ⟨Tryd.f48.name, by decide, Tryd.func48.trans (congrArg some (by kernel_rfl))⟩
  f10 := ⟨Tryd.f57.name, by decide, Tryd.func57.trans (congrArg some (by kernel_rfl))⟩
  t0 := Tryd.underlying0
  a0 := Tryd.isAgg0
  z0 := Tryd.sizeOf0
  v0 := Tryd.zeroValue0
  t4 := Tryd.underlying4
  a4 := Tryd.isAgg4
  z4 := Tryd.sizeOf4
  v4 := Tryd.zeroValue4
  t23 := Tryd.underlying67
  a23 := Tryd.isAgg67
  z23 := Tryd.sizeOf67
  v23 := Tryd.zeroValue67
  t26 := Tryd.underlying9
  a26 := Tryd.isAgg9
  z26 := Tryd.sizeOf9
  v26 := Tryd.zeroValue9
  t27 := Tryd.underlying82
  a27 := Tryd.isAgg82
  z27 := Tryd.sizeOf82
  v27 := Tryd.zeroValue82
  t28 := Tryd.underlying83
  a28 := Tryd.isAgg83
  z28 := Tryd.sizeOf83
  v28 := Tryd.zeroValue83
  t33 := Tryd.underlying75
  a33 := Tryd.isAgg75
  z33 := Tryd.sizeOf75
  v33 := Tryd.zeroValue75 }
def Tryd.sorted47_ren : Go.Shelf.Ren := ⟨fun | 6 => 47 | 8 => 55 | 9 => 56 | 11 => 65 | 13 => 67 | 12 => 66 | 23 => 81 | 24 => 82 | 14 => 72 | 15 => 73 | 16 => 74 | 17 => 75 | 18 => 76 | 19 => 77 | 20 => 78 | 21 => 79 | 22 => 80 | 25 => 86 | 26 => 87 | 27 => 88 | 28 => 89 | 29 => 90 | 30 => 91 | 31 => 96 | n => n, fun | 26 => 9 | 28 => 83 | 24 => 51 | 0 => 0 | 3 => 3 | 37 => 89 | 48 => 116 | 50 => 24 | 4 => 4 | 40 => 109 | 39 => 108 | 45 => 85 | 5 => 5 | 9 => 9 | 51 => 119 | 55 => 123 | 57 => 133 | 58 => 134 | 33 => 75 | n => n, fun | n => n⟩
theorem Tryd.sorted47 : Go.Proofs.SlLaysZ.n6 Tryd.prog Tryd.sorted47_ren := {
  mixed := by kernel_rfl
  f6 := ⟨Tryd.f47.name, by decide, Tryd.func47.trans (congrArg some (by kernel_rfl))⟩
  f8 := ⟨Tryd.f55.name, by decide, Tryd.func55.trans (congrArg some (by kernel_rfl))⟩
  f11 := ⟨Tryd.f65.name, by decide, Tryd.func65.trans (congrArg some (by kernel_rfl))⟩
  t0 := Tryd.underlying0
  a0 := Tryd.isAgg0
  z0 := Tryd.sizeOf0
  v0 := Tryd.zeroValue0
  t24 := Tryd.underlying51
  a24 := Tryd.isAgg51
  z24 := Tryd.sizeOf51
  v24 := Tryd.zeroValue51
  t26 := Tryd.underlying9
  a26 := Tryd.isAgg9
  z26 := Tryd.sizeOf9
  v26 := Tryd.zeroValue9
  t28 := Tryd.underlying83
  a28 := Tryd.isAgg83
  z28 := Tryd.sizeOf83
  v28 := Tryd.zeroValue83
  i26 := by kernel_rfl }
def Tryd.sort56_ren : Go.Shelf.Ren := ⟨fun | 6 => 56 | 8 => 67 | 9 => 66 | 19 => 81 | 20 => 82 | 21 => 72 | 22 => 73 | 23 => 74 | 24 => 75 | 25 => 76 | 26 => 77 | 27 => 78 | 28 => 79 | 29 => 80 | 36 => 86 | 31 => 87 | 32 => 88 | 37 => 89 | 38 => 90 | 39 => 91 | 41 => 96 | n => n, fun | 27 => 51 | 29 => 9 | 3 => 3 | 32 => 89 | 26 => 51 | 0 => 0 | 44 => 116 | 46 => 24 | 4 => 4 | 36 => 109 | 35 => 108 | 41 => 85 | 5 => 5 | 9 => 9 | 53 => 119 | 57 => 123 | 63 => 133 | 64 => 134 | n => n, fun | n => n⟩
theorem Tryd.sort56 : Go.Proofs.SlLaysM.n6 Tryd.prog Tryd.sort56_ren := {
  mixed := by kernel_rfl
  f6 := ⟨Tryd.f56.name, by decide, Tryd.func56.trans (congrArg some (by kernel_rfl))⟩
  f8 := Tryd.func67.trans (congrArg some (by kernel_rfl))
  f9 := ⟨Tryd.f66.name, by decide, Tryd.func66.trans (congrArg some (by kernel_rfl))⟩
  f19 := Tryd.func81.trans (congrArg some (by kernel_rfl))
  f20 := Tryd.func82.trans (congrArg some (by kernel_rfl))
  f21 := ⟨Tryd.f72.name, by decide, Tryd.func72.trans (congrArg some (by kernel_rfl))⟩
  f22 := ⟨Tryd.f73.name, by decide, Tryd.func73.trans (congrArg some (by kernel_rfl))⟩
  f23 := ⟨Tryd.f74.name, by decide, Tryd.func74.trans (congrArg some (by kernel_rfl))⟩
  f24 := ⟨Tryd.f75.name, by decide, Tryd.func75.trans (congrArg some (by kernel_rfl))⟩
  f25 := ⟨Tryd.f76.name, by decide, Tryd.func76.trans (congrArg some (by kernel_rfl))⟩
  f26 := ⟨Tryd.f77.name, by decide, Tryd.func77.trans (congrArg some (by kernel_rfl))⟩
  f27 := ⟨Tryd.f78.name, by decide, Tryd.func78.trans (congrArg some (by kernel_rfl))⟩
  f28 := ⟨Tryd.f79.name, by decide, Tryd.func79.trans (congrArg some (by kernel_rfl))⟩
  f29 := ⟨Tryd.f80.name, by decide, Tryd.func80.trans (congrArg some (by kernel_rfl))⟩
  f31 := Tryd.func87.trans (congrArg some (by kernel_rfl))
  f32 := Tryd.func88.trans (congrArg some (by kernel_rfl))
  f36 := ⟨Tryd.f86.name, by decide, Tryd.func86.trans (congrArg some (by kernel_rfl))⟩
  f37 := ⟨Tryd.f89.name, by decide, Tryd.func89.trans (congrArg some (by kernel_rfl))⟩
  f38 := ⟨Tryd.f90.name, by decide, Tryd.func90.trans (congrArg some (by kernel_rfl))⟩
  f39 := ⟨Tryd.f91.name, by decide, Tryd.func91.trans (congrArg some (by kernel_rfl))⟩
  f41 := ⟨Tryd.f96.name, by decide, Tryd.func96.trans (congrArg some (by kernel_rfl))⟩
  t0 := Tryd.underlying0
  a0 := Tryd.isAgg0
  z0 := Tryd.sizeOf0
  v0 := Tryd.zeroValue0
  t3 := Tryd.underlying3
  a3 := Tryd.isAgg3
  z3 := Tryd.sizeOf3
  v3 := Tryd.zeroValue3
  t4 := Tryd.underlying4
  a4 := Tryd.isAgg4
  z4 := Tryd.sizeOf4
  v4 := Tryd.zeroValue4
  t5 := Tryd.underlying5
  a5 := Tryd.isAgg5
  z5 := Tryd.sizeOf5
  v5 := Tryd.zeroValue5
  t9 := Tryd.underlying9
  a9 := Tryd.isAgg9
  z9 := Tryd.sizeOf9
  v9 := Tryd.zeroValue9
  t26 := Tryd.underlying51
  a26 := Tryd.isAgg51
  z26 := Tryd.sizeOf51
  v26 := Tryd.zeroValue51
  t27 := Tryd.underlying51
  a27 := Tryd.isAgg51
  z27 := Tryd.sizeOf51
  v27 := Tryd.zeroValue51
  t29 := Tryd.underlying9
  a29 := Tryd.isAgg9
  z29 := Tryd.sizeOf9
  v29 := Tryd.zeroValue9
  t32 := Tryd.underlying89
  a32 := Tryd.isAgg89
  z32 := Tryd.sizeOf89
  v32 := Tryd.zeroValue89
  t35 := Tryd.underlying108
  a35 := Tryd.isAgg108
  z35 := Tryd.sizeOf108
  v35 := Tryd.zeroValue108
  t36 := Tryd.underlying109
  a36 := Tryd.isAgg109
  z36 := Tryd.sizeOf109
  v36 := Tryd.zeroValue109
  t41 := Tryd.underlying85
  a41 := Tryd.isAgg85
  z41 := Tryd.sizeOf85
  v41 := Tryd.zeroValue85
  t44 := Tryd.underlying116
  a44 := Tryd.isAgg116
  z44 := Tryd.sizeOf116
  v44 := Tryd.zeroValue116
  t46 := Tryd.underlying24
  a46 := Tryd.isAgg24
  z46 := Tryd.sizeOf24
  v46 := Tryd.zeroValue24
  t53 := Tryd.underlying119
  a53 := Tryd.isAgg119
  z53 := Tryd.sizeOf119
  v53 := Tryd.zeroValue119
  t57 := Tryd.underlying123
  a57 := Tryd.isAgg123
  z57 := Tryd.sizeOf123
  v57 := Tryd.zeroValue123
  t63 := Tryd.underlying133
  a63 := Tryd.isAgg133
  z63 := Tryd.sizeOf133
  v63 := Tryd.zeroValue133
  t64 := Tryd.underlying134
  a64 := Tryd.isAgg134
  z64 := Tryd.sizeOf134
  v64 := Tryd.zeroValue134 }
theorem Tryd.sorts47 (m : Nat) : AnyZ.SortsIn Tryd.prog Tryd.sorted47_ren Fence.wide m :=
  ⟨fun blk off cap ss W hH hblk hsz => callsIn_wide.2 (AnyM.slices_Sort_string Tryd.sort56 blk off cap ss W hH hblk hsz),
   fun p cap W => callsIn_wide.2 (AnyM.slices_Sort_string_none Tryd.sort56 p cap W)⟩

theorem Tryd.maps_Keys_48 (mb : Option Nat) (W : World) : CallsIn Fence.wide 5 Tryd.prog 48 #[.map mb] W fun e w' => e = .returned (.func (.func 57) #[] #[.pointer (some ⟨W.heap.size, 0, none⟩)]) ∧ w' = W.alloc (.cells #[.map mb] 67) :=
  AnyZ.keys_in Tryd.keys48 Fence.wide 5 trivial rfl mb W

set_option maxHeartbeats 1000000 in
theorem Tryd.slices_Sorted_keys_47_48 {H : Type} (b nn : Nat) (D0 : DataW H) (R : Value → Option (DataW H × List MemPlace)) (w : World) (hown : w.ownsMap Tryd.prog 9 R b nn D0) (hmax : Maps.size D0 ≤ maxLen) (hbytes : Maps.size D0 * 16 ≤ 140737488355328) :
    CallsIn Fence.wide 5 Tryd.prog 47 #[.func (.func 57) #[] #[.pointer (some ⟨w.heap.size, 0, none⟩)]] (w.alloc (.cells #[.map (some b)] 67)) fun e w' => ∃ (v : Value) (ss : List (List UInt8)), e = .returned v ∧ ss.Perm (strKeys D0) ∧
      w'.ownsRow (w.alloc (.cells #[.map (some b)] 67)).heap.size 9 1 v ss.length ((ss.mergeSort (fun x y => decide (x ≤ y))).map encStr) ∧ (v = .slice none 0 0 ↔ ss = []) ∧ Below (w.alloc (.cells #[.map (some b)] 67)).heap.size (w.alloc (.cells #[.map (some b)] 67)) w' := by
  have hbl := hown.lt
  have hseq : SeqGives Fence.wide 2 Tryd.prog 57 #[.pointer (some ⟨w.heap.size, 0, none⟩)] encStr (fun ss => ss.Perm (strKeys D0)) (Maps.size D0) (w.alloc (.cells #[.map (some b)] 67)) :=
    AnyZ.keys_gives (ρ := Tryd.keys48_ren) { Tryd.keys48 with } Fence.wide _ trivial rfl (by omega) w.heap.size b nn D0 _ (by simp) (by simp) (by
      obtain ⟨es, clock, hb, Ft, hs, hD⟩ := hown
      exact ⟨es, clock, (Below.heap_alloc _ _ b hbl).trans hb, Ft, hs, hD⟩)
  exact AnyZ.sorted_in Tryd.sorted47 Fence.wide 5 trivial trivial trivial trivial rfl (by omega) (Tryd.sorts47 _) (enters_of Tryd.func56 (by kernel_rfl) rfl) 57 #[.pointer (some ⟨w.heap.size, 0, none⟩)] trivial (enters_of Tryd.func57 (by kernel_rfl) rfl) _ _ hmax hbytes _ hseq

set_option maxHeartbeats 1000000 in
theorem Tryd.slices_Sorted_keys_nil_47_48 (w : World) :
    CallsIn Fence.wide 5 Tryd.prog 47 #[.func (.func 57) #[] #[.pointer (some ⟨w.heap.size, 0, none⟩)]] (w.alloc (.cells #[.map none] 67)) fun e w' => ∃ (v : Value) (ss : List (List UInt8)), e = .returned v ∧ ss = [] ∧
      w'.ownsRow (w.alloc (.cells #[.map none] 67)).heap.size 9 1 v ss.length ((ss.mergeSort (fun x y => decide (x ≤ y))).map encStr) ∧ (v = .slice none 0 0 ↔ ss = []) ∧ Below (w.alloc (.cells #[.map none] 67)).heap.size (w.alloc (.cells #[.map none] 67)) w' := by
  have hseq : SeqGives Fence.wide 2 Tryd.prog 57 #[.pointer (some ⟨w.heap.size, 0, none⟩)] encStr (fun ss : List (List UInt8) => ss = []) 0 (w.alloc (.cells #[.map none] 67)) :=
    AnyZ.keys_gives_nil (ρ := Tryd.keys48_ren) { Tryd.keys48 with } Fence.wide _ trivial rfl w.heap.size _ (by simp) (by simp)
  exact AnyZ.sorted_in Tryd.sorted47 Fence.wide 5 trivial trivial trivial trivial rfl (by omega) (Tryd.sorts47 _) (enters_of Tryd.func56 (by kernel_rfl) rfl) 57 #[.pointer (some ⟨w.heap.size, 0, none⟩)] trivial (enters_of Tryd.func57 (by kernel_rfl) rfl) _ 0 (Nat.zero_le _) (by omega) _ hseq

end Go.Proofs
