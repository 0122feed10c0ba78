/- The law's answers (layer 4); the walk of DiskNil. -/
import Derived.Test.YthdmnajcphaekaaDoorDiskR
import Derived.Test.YthdmnajcphaekaaDoorDiskNilC
import Derived.Test.YthdmnajcphaekaaDoorConv
namespace Go.Proofs.YthdmnajcphaekaaDoor
open Go.RowKit

theorem ans_change : changeD (dsk0 9) ⟨1, [97], (1 : Int).toNat, [7]⟩ 1 = (0, ⟨[], [⟨1, [97], 1, [7]⟩], 9, 0, false⟩) := by
  have h : refuseD (dsk0 9) ⟨1, [97], 1, [7]⟩ 1 = 0 := by decide
  have := changeD_eq0 (dsk0 9) ⟨1, [97], 1, [7]⟩ 1 h (by decide)
  exact this
theorem ans_read : readE ⟨[], [⟨1, [97], 1, [7]⟩], 9, 0, false⟩ [97] = 0 ∧ readB ⟨[], [⟨1, [97], 1, [7]⟩], 9, 0, false⟩ [97] = [0, 7] := by
  have h : readE ⟨[], [⟨1, [97], 1, [7]⟩], 9, 0, false⟩ [97] = 0 := by decide
  refine ⟨h, ?_⟩
  unfold readB
  rw [if_pos h]
  rfl
theorem rb_one (w : World) (x : UInt8) : RB (w.alloc (.cells #[.int .u8 (x.toNat : Int)] 5)) (some ⟨w.heap.size, 0, none⟩) [x] := RB.one w x rfl
set_option maxRecDepth 20000 in
set_option maxHeartbeats 4000000 in
theorem lawAnswers (w : World) : Calls Tryd.prog 11 #[] w fun e w' => e = .returned (.bool true) ∧ Below w.heap.size w w' := by
  have NW := Lib.hid (diskNew 9 w (by decide) (by decide))
  go_enter Tryd.func11, Tryd.ntmps11
  go_wp2_with fail
  refine NW.out.mono ?_
  rintro e w1 ⟨g, rfl, hd, hb⟩
  have hba : Below w1.heap.size w1 (w1.alloc (.cells #[.int .u8 7] 5)) := (Below.refl _ _).alloc (Nat.le_refl _) _
  have hrb : RB (w1.alloc (.cells #[.int .u8 7] 5)) (some ⟨w1.heap.size, 0, none⟩) [7] := rb_one w1 7
  have PT := Lib.hid (diskPutC [97] 1 [7] (some ⟨w1.heap.size, 0, none⟩) 1 (hd.below hba) hrb (fun _ b hb' hS => by
    have := hS.2
    injection hb' with hb'
    simp at hb'
    omega) (by decide) (by decide) (by decide) (by decide))
  rw [ans_change] at PT
  have HB := Lib.hid (hb.trans (hba.mono hb.size))
  clear hd hb hrb hba NW
  go_wp2_with fail
  refine PT.out.mono ?_
  rintro e w2 ⟨rfl, hd2, hm2⟩
  have RD := Lib.hid (diskReadC [97] hd2 (by decide))
  have hb2 : Below w.heap.size w w2 := hm2.old HB.out HB.out.size (fun b _ hb => hb.1)
  clear hd2 hm2 HB PT
  go_wp2_with fail
  refine RD.out.mono ?_
  rintro e w3 ⟨A, c, rfl, ho, hb3⟩
  rw [ans_read.1, ans_read.2]
  rw [ans_read.2] at ho
  have hcv : (convert 23 9 (.slice A 2 c)).run Tryd.prog w3 = .ok (.string ⟨[0, 7].toArray⟩) w3 := convB c ho.rb
  have hB3 := hb2.trans (hb3.mono hb2.size)
  clear ho hb3 RD hb2
  go_wp2_with fail
  go_ret
  exact ⟨rfl, hB3⟩
set_option maxRecDepth 20000 in
set_option maxHeartbeats 8000000 in
theorem walkDiskNil (w : World) : Calls Tryd.prog 8 #[] w fun e w' => e = .returned (.bool true) ∧ Below w.heap.size w w' := by
  go_enter Tryd.func8, Tryd.ntmps8
  go_wp2_with fail
  refine (diskRead_nil _).mono ?_
  rintro e w' ⟨rfl, rfl⟩
  go_wp2_with fail
  refine (lawAnswers _).mono ?_
  rintro e w1 ⟨rfl, hb1⟩
  go_wp2_with fail
  refine (diskPut_nil _ _ _ _ _).mono ?_
  rintro e w2 ⟨rfl, hb2⟩
  have hB2 := hb1.trans (hb2.mono hb1.size)
  clear hb1 hb2
  go_wp2_with fail
  refine (diskCut_nil _ _).mono ?_
  rintro e w3 ⟨rfl, hb3⟩
  have hB3 := hB2.trans (hb3.mono hB2.size)
  clear hB2 hb3
  go_wp2_with fail
  refine (diskRemove_nil _).mono ?_
  rintro e w4 ⟨rfl, hb4⟩
  have hB4 := hB3.trans (hb4.mono hB3.size)
  clear hB3 hb4
  go_wp2_with fail
  refine (diskSync_nil).mono ?_
  rintro e w5 ⟨rfl, rfl⟩
  go_wp2_with fail
  refine (diskRoom_nil _).mono ?_
  rintro e w5 ⟨rfl, rfl⟩
  go_wp2_with fail
  refine (diskFuse_nil _).mono ?_
  rintro e w5 ⟨rfl, rfl⟩
  go_wp2_with fail
  refine (diskFall_nil _ _).mono ?_
  rintro e w5 ⟨rfl, rfl⟩
  go_wp2_with fail
  refine (diskNames_nil).mono ?_
  rintro e w5 ⟨rfl, rfl⟩
  go_wp2_with fail
  refine (diskUsed_nil).mono ?_
  rintro e w5 ⟨rfl, rfl⟩
  go_wp2_with fail
  refine (diskUnsure_nil).mono ?_
  rintro e w5 ⟨rfl, rfl⟩
  go_wp2_with fail
  refine (diskDown_nil).mono ?_
  rintro e w5 ⟨rfl, rfl⟩
  go_wp2_with fail
  refine (diskCopy_nil).mono ?_
  rintro e w5 ⟨rfl, rfl⟩
  go_wp2_with fail
  go_ret
  exact ⟨rfl, hB4⟩
end Go.Proofs.YthdmnajcphaekaaDoor
