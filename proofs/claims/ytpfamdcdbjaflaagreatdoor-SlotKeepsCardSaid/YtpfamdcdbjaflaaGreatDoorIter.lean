/- slices.Sorted(maps.Keys(m)) at this dump: contracts of the shelf, laid by the kit's tools. -/
import Derived.Shelf.SlGeneric
import Derived.Shelf.SlIter.Nil
import Derived.Shelf.SortM.Plain
import Derived.Shelf.SortM.SortNone
import Derived.Ground.GgzProg
import Derived.Ground.SlgmProg
import Derived.Test.YtpfamdcdbjaflaaGreatDoorProg
namespace Go.Proofs
open Go.RowKit Go.Maps Go.Sort Go.Shelf
def Tryz.keys36_ren : Go.Shelf.Ren := ⟨fun | 7 => 36 | 10 => 62 | n => n, fun | 23 => 51 | 26 => 9 | 3 => 29 | 28 => 72 | 0 => 0 | 27 => 71 | 33 => 34 | 4 => 4 | n => n, fun | n => n⟩
theorem Tryz.keys36 : Go.Proofs.SlLaysZ.n7 Tryz.prog Tryz.keys36_ren := {
  mixed := by kernel_rfl
  f7 := ⟨Tryz.f36.name, by decide, Tryz.func36.trans (congrArg some (by kernel_rfl))⟩
  f10 := ⟨Tryz.f62.name, by decide, Tryz.func62.trans (congrArg some (by kernel_rfl))⟩
  t0 := Tryz.underlying0
  a0 := Tryz.isAgg0
  z0 := Tryz.sizeOf0
  v0 := Tryz.zeroValue0
  t4 := Tryz.underlying4
  a4 := Tryz.isAgg4
  z4 := Tryz.sizeOf4
  v4 := Tryz.zeroValue4
  t23 := Tryz.underlying51
  a23 := Tryz.isAgg51
  z23 := Tryz.sizeOf51
  v23 := Tryz.zeroValue51
  t26 := Tryz.underlying9
  a26 := Tryz.isAgg9
  z26 := Tryz.sizeOf9
  v26 := Tryz.zeroValue9
  t27 := Tryz.underlying71
  a27 := Tryz.isAgg71
  z27 := Tryz.sizeOf71
  v27 := Tryz.zeroValue71
  t28 := Tryz.underlying72
  a28 := Tryz.isAgg72
  z28 := Tryz.sizeOf72
  v28 := Tryz.zeroValue72
  t33 := Tryz.underlying34
  a33 := Tryz.isAgg34
  z33 := Tryz.sizeOf34
  v33 := Tryz.zeroValue34 }
def Tryz.sorted35_ren : Go.Shelf.Ren := ⟨fun | 6 => 35 | 8 => 60 | 9 => 61 | 11 => 75 | 13 => 77 | 12 => 76 | 23 => 101 | 24 => 102 | 14 => 92 | 15 => 93 | 16 => 94 | 17 => 95 | 18 => 96 | 19 => 97 | 20 => 98 | 21 => 99 | 22 => 100 | 25 => 114 | 26 => 115 | 27 => 116 | 28 => 117 | 29 => 118 | 30 => 119 | 31 => 124 | n => n, fun | 26 => 9 | 28 => 72 | 24 => 39 | 0 => 0 | 3 => 3 | 37 => 112 | 48 => 96 | 50 => 42 | 4 => 4 | 40 => 136 | 39 => 135 | 45 => 140 | 5 => 5 | 9 => 9 | 51 => 159 | 55 => 163 | 57 => 169 | 58 => 170 | 33 => 34 | n => n, fun | n => n⟩
theorem Tryz.sorted35 : Go.Proofs.SlLaysZ.n6 Tryz.prog Tryz.sorted35_ren := {
  mixed := by kernel_rfl
  f6 := ⟨Tryz.f35.name, by decide, Tryz.func35.trans (congrArg some (by kernel_rfl))⟩
  f8 := ⟨Tryz.f60.name, by decide, Tryz.func60.trans (congrArg some (by kernel_rfl))⟩
  f11 := ⟨Tryz.f75.name, by decide, Tryz.func75.trans (congrArg some (by kernel_rfl))⟩
  t0 := Tryz.underlying0
  a0 := Tryz.isAgg0
  z0 := Tryz.sizeOf0
  v0 := Tryz.zeroValue0
  t24 := Tryz.underlying39
  a24 := Tryz.isAgg39
  z24 := Tryz.sizeOf39
  v24 := Tryz.zeroValue39
  t26 := Tryz.underlying9
  a26 := Tryz.isAgg9
  z26 := Tryz.sizeOf9
  v26 := Tryz.zeroValue9
  t28 := Tryz.underlying72
  a28 := Tryz.isAgg72
  z28 := Tryz.sizeOf72
  v28 := Tryz.zeroValue72
  i26 := by kernel_rfl }
def Tryz.sort61_ren : Go.Shelf.Ren := ⟨fun | 6 => 61 | 8 => 77 | 9 => 76 | 19 => 101 | 20 => 102 | 21 => 92 | 22 => 93 | 23 => 94 | 24 => 95 | 25 => 96 | 26 => 97 | 27 => 98 | 28 => 99 | 29 => 100 | 36 => 114 | 31 => 115 | 32 => 116 | 37 => 117 | 38 => 118 | 39 => 119 | 41 => 124 | n => n, fun | 27 => 39 | 29 => 9 | 3 => 3 | 32 => 112 | 26 => 39 | 0 => 0 | 44 => 96 | 46 => 42 | 4 => 4 | 36 => 136 | 35 => 135 | 41 => 140 | 5 => 5 | 9 => 9 | 53 => 159 | 57 => 163 | 63 => 169 | 64 => 170 | n => n, fun | n => n⟩
theorem Tryz.sort61 : Go.Proofs.SlLaysM.n6 Tryz.prog Tryz.sort61_ren := {
  mixed := by kernel_rfl
  f6 := ⟨Tryz.f61.name, by decide, Tryz.func61.trans (congrArg some (by kernel_rfl))⟩
  f8 := Tryz.func77.trans (congrArg some (by kernel_rfl))
  f9 := ⟨Tryz.f76.name, by decide, Tryz.func76.trans (congrArg some (by kernel_rfl))⟩
  f19 := Tryz.func101.trans (congrArg some (by kernel_rfl))
  f20 := Tryz.func102.trans (congrArg some (by kernel_rfl))
  f21 := ⟨Tryz.f92.name, by decide, Tryz.func92.trans (congrArg some (by kernel_rfl))⟩
  f22 := ⟨Tryz.f93.name, by decide, Tryz.func93.trans (congrArg some (by kernel_rfl))⟩
  f23 := ⟨Tryz.f94.name, by decide, Tryz.func94.trans (congrArg some (by kernel_rfl))⟩
  f24 := ⟨Tryz.f95.name, by decide, Tryz.func95.trans (congrArg some (by kernel_rfl))⟩
  f25 := ⟨Tryz.f96.name, by decide, Tryz.func96.trans (congrArg some (by kernel_rfl))⟩
  f26 := ⟨Tryz.f97.name, by decide, Tryz.func97.trans (congrArg some (by kernel_rfl))⟩
  f27 := ⟨Tryz.f98.name, by decide, Tryz.func98.trans (congrArg some (by kernel_rfl))⟩
  f28 := ⟨Tryz.f99.name, by decide, Tryz.func99.trans (congrArg some (by kernel_rfl))⟩
  f29 := ⟨Tryz.f100.name, by decide, Tryz.func100.trans (congrArg some (by kernel_rfl))⟩
  f31 := Tryz.func115.trans (congrArg some (by kernel_rfl))
  f32 := Tryz.func116.trans (congrArg some (by kernel_rfl))
  f36 := ⟨Tryz.f114.name, by decide, Tryz.func114.trans (congrArg some (by kernel_rfl))⟩
  f37 := ⟨Tryz.f117.name, by decide, Tryz.func117.trans (congrArg some (by kernel_rfl))⟩
  f38 := ⟨Tryz.f118.name, by decide, Tryz.func118.trans (congrArg some (by kernel_rfl))⟩
  f39 := ⟨Tryz.f119.name, by decide, Tryz.func119.trans (congrArg some (by kernel_rfl))⟩
  f41 := ⟨Tryz.f124.name, by decide, Tryz.func124.trans (congrArg some (by kernel_rfl))⟩
  t0 := Tryz.underlying0
  a0 := Tryz.isAgg0
  z0 := Tryz.sizeOf0
  v0 := Tryz.zeroValue0
  t3 := Tryz.underlying3
  a3 := Tryz.isAgg3
  z3 := Tryz.sizeOf3
  v3 := Tryz.zeroValue3
  t4 := Tryz.underlying4
  a4 := Tryz.isAgg4
  z4 := Tryz.sizeOf4
  v4 := Tryz.zeroValue4
  t5 := Tryz.underlying5
  a5 := Tryz.isAgg5
  z5 := Tryz.sizeOf5
  v5 := Tryz.zeroValue5
  t9 := Tryz.underlying9
  a9 := Tryz.isAgg9
  z9 := Tryz.sizeOf9
  v9 := Tryz.zeroValue9
  t26 := Tryz.underlying39
  a26 := Tryz.isAgg39
  z26 := Tryz.sizeOf39
  v26 := Tryz.zeroValue39
  t27 := Tryz.underlying39
  a27 := Tryz.isAgg39
  z27 := Tryz.sizeOf39
  v27 := Tryz.zeroValue39
  t29 := Tryz.underlying9
  a29 := Tryz.isAgg9
  z29 := Tryz.sizeOf9
  v29 := Tryz.zeroValue9
  t32 := Tryz.underlying112
  a32 := Tryz.isAgg112
  z32 := Tryz.sizeOf112
  v32 := Tryz.zeroValue112
  t35 := Tryz.underlying135
  a35 := Tryz.isAgg135
  z35 := Tryz.sizeOf135
  v35 := Tryz.zeroValue135
  t36 := Tryz.underlying136
  a36 := Tryz.isAgg136
  z36 := Tryz.sizeOf136
  v36 := Tryz.zeroValue136
  t41 := Tryz.underlying140
  a41 := Tryz.isAgg140
  z41 := Tryz.sizeOf140
  v41 := Tryz.zeroValue140
  t44 := Tryz.underlying96
  a44 := Tryz.isAgg96
  z44 := Tryz.sizeOf96
  v44 := Tryz.zeroValue96
  t46 := Tryz.underlying42
  a46 := Tryz.isAgg42
  z46 := Tryz.sizeOf42
  v46 := Tryz.zeroValue42
  t53 := Tryz.underlying159
  a53 := Tryz.isAgg159
  z53 := Tryz.sizeOf159
  v53 := Tryz.zeroValue159
  t57 := Tryz.underlying163
  a57 := Tryz.isAgg163
  z57 := Tryz.sizeOf163
  v57 := Tryz.zeroValue163
  t63 := Tryz.underlying169
  a63 := Tryz.isAgg169
  z63 := Tryz.sizeOf169
  v63 := Tryz.zeroValue169
  t64 := Tryz.underlying170
  a64 := Tryz.isAgg170
  z64 := Tryz.sizeOf170
  v64 := Tryz.zeroValue170 }
theorem Tryz.sorts35 (m : Nat) : AnyZ.SortsIn Tryz.prog Tryz.sorted35_ren Fence.wide m :=
  ⟨fun blk off cap ss W hH hblk hsz => callsIn_wide.2 (AnyM.slices_Sort_string Tryz.sort61 blk off cap ss W hH hblk hsz),
   fun p cap W => callsIn_wide.2 (AnyM.slices_Sort_string_none Tryz.sort61 p cap W)⟩

theorem Tryz.maps_Keys_36 (mb : Option Nat) (W : World) : CallsIn Fence.wide 5 Tryz.prog 36 #[.map mb] W fun e w' => e = .returned (.func (.func 62) #[] #[.pointer (some ⟨W.heap.size, 0, none⟩)]) ∧ w' = W.alloc (.cells #[.map mb] 51) :=
  AnyZ.keys_in Tryz.keys36 Fence.wide 5 trivial rfl mb W

set_option maxHeartbeats 1000000 in
theorem Tryz.slices_Sorted_keys_35_36 {H : Type} (b nn : Nat) (D0 : DataW H) (R : Value → Option (DataW H × List MemPlace)) (w : World) (hown : w.ownsMap Tryz.prog 9 R b nn D0) (hmax : Maps.size D0 ≤ maxLen) (hbytes : Maps.size D0 * 16 ≤ 140737488355328) :
    CallsIn Fence.wide 5 Tryz.prog 35 #[.func (.func 62) #[] #[.pointer (some ⟨w.heap.size, 0, none⟩)]] (w.alloc (.cells #[.map (some b)] 51)) fun e w' => ∃ (v : Value) (ss : List (List UInt8)), e = .returned v ∧ ss.Perm (strKeys D0) ∧
      w'.ownsRow (w.alloc (.cells #[.map (some b)] 51)).heap.size 9 1 v ss.length ((ss.mergeSort (fun x y => decide (x ≤ y))).map encStr) ∧ (v = .slice none 0 0 ↔ ss = []) ∧ Below (w.alloc (.cells #[.map (some b)] 51)).heap.size (w.alloc (.cells #[.map (some b)] 51)) w' := by
  have hbl := hown.lt
  have hseq : SeqGives Fence.wide 2 Tryz.prog 62 #[.pointer (some ⟨w.heap.size, 0, none⟩)] encStr (fun ss => ss.Perm (strKeys D0)) (Maps.size D0) (w.alloc (.cells #[.map (some b)] 51)) :=
    AnyZ.keys_gives (ρ := Tryz.keys36_ren) { Tryz.keys36 with } Fence.wide _ trivial rfl (by omega) w.heap.size b nn D0 _ (by simp) (by simp) (by
      obtain ⟨es, clock, hb, Ft, hs, hD⟩ := hown
      exact ⟨es, clock, (Below.heap_alloc _ _ b hbl).trans hb, Ft, hs, hD⟩)
  exact AnyZ.sorted_in Tryz.sorted35 Fence.wide 5 trivial trivial trivial trivial rfl (by omega) (Tryz.sorts35 _) (enters_of Tryz.func61 (by kernel_rfl) rfl) 62 #[.pointer (some ⟨w.heap.size, 0, none⟩)] trivial (enters_of Tryz.func62 (by kernel_rfl) rfl) _ _ hmax hbytes _ hseq

set_option maxHeartbeats 1000000 in
theorem Tryz.slices_Sorted_keys_nil_35_36 (w : World) :
    CallsIn Fence.wide 5 Tryz.prog 35 #[.func (.func 62) #[] #[.pointer (some ⟨w.heap.size, 0, none⟩)]] (w.alloc (.cells #[.map none] 51)) fun e w' => ∃ (v : Value) (ss : List (List UInt8)), e = .returned v ∧ ss = [] ∧
      w'.ownsRow (w.alloc (.cells #[.map none] 51)).heap.size 9 1 v ss.length ((ss.mergeSort (fun x y => decide (x ≤ y))).map encStr) ∧ (v = .slice none 0 0 ↔ ss = []) ∧ Below (w.alloc (.cells #[.map none] 51)).heap.size (w.alloc (.cells #[.map none] 51)) w' := by
  have hseq : SeqGives Fence.wide 2 Tryz.prog 62 #[.pointer (some ⟨w.heap.size, 0, none⟩)] encStr (fun ss : List (List UInt8) => ss = []) 0 (w.alloc (.cells #[.map none] 51)) :=
    AnyZ.keys_gives_nil (ρ := Tryz.keys36_ren) { Tryz.keys36 with } Fence.wide _ trivial rfl w.heap.size _ (by simp) (by simp)
  exact AnyZ.sorted_in Tryz.sorted35 Fence.wide 5 trivial trivial trivial trivial rfl (by omega) (Tryz.sorts35 _) (enters_of Tryz.func61 (by kernel_rfl) rfl) 62 #[.pointer (some ⟨w.heap.size, 0, none⟩)] trivial (enters_of Tryz.func62 (by kernel_rfl) rfl) _ 0 (Nat.zero_le _) (by omega) _ hseq

end Go.Proofs
