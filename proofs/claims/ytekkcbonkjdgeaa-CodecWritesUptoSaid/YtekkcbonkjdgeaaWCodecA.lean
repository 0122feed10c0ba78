/- The walks of the laws CodecWrites and CodecParts. -/
import Derived.Test.YtekkcbonkjdgeaaPutBytes
import Derived.Test.YtekkcbonkjdgeaaText
import Derived.Test.YtekkcbonkjdgeaaLift
import Derived.Test.YtekkcbonkjdgeaaPlan
namespace Go.Proofs.Ytekkcbonkjdgeaa
open Go.RowKit

theorem concatB (x y : List UInt8) (h : x.length + y.length ≤ 9223372036854775807) (W : World) : (Op.stringOp .add ⟨x.toArray⟩ ⟨y.toArray⟩).run Try.prog W = .ok (.string ⟨(x ++ y).toArray⟩) W := by
  rw [run_string_add_sum W _ _ (by simp [ByteArray.size]; omega), ByteArray.mk_append_mk]

set_option maxHeartbeats 1000000 in
theorem walkCodecWrites (A : Option Addr) (c : Nat) (b : List UInt8) (n : Int) (D : Option Addr) (d : Nat) (x : List UInt8) (w : World) (hb : RB w A b) (hbl : b.length ≤ 1048576) (hn : 0 ≤ n ∧ n ≤ 18446744073709551615) (hx : RB w D x) (hxl : x.length ≤ 1048576) :
    Calls Try.prog 4 #[.slice A b.length c, .int .u64 n, .slice D x.length d] w (Yes w) := by
  obtain ⟨n0, n1⟩ := hn
  go_enter Try.func4, Try.ntmps4
  go_wp2_with fail
  refine (ownB A c b _ hb (by omega)).mono ?_
  rintro e w1 ⟨k1, A1, c1, hk1, hk11, hk12, rfl, ho1, hb1⟩
  go_wp2_with fail
  refine (putNumB A1 c1 k1 n _ ho1.rb (by omega) n0 n1).mono ?_
  rintro e w2 ⟨k2, A2, c2, hk2, hk21, hk22, rfl, ho2, hb2⟩
  have B2 : Below w.heap.size w w2 := hb1.trans (hb2.mono hb1.size)
  have E2 : Hid (k2 = b ++ putNum n.toNat) := Lib.hid (by rw [hk2.out, hk1.out])
  clear hk1 hk11 hk12 ho1 hk2 hk21 hk22 hb1 hb2
  go_wp2_with fail
  refine (ownB A c b _ (hb.below B2) (by omega)).mono ?_
  rintro e w3 ⟨k3, A3, c3, hk3, hk31, hk32, rfl, ho3, hb3⟩
  have B3 : Below w.heap.size w w3 := B2.trans (hb3.mono B2.size)
  have ho2' := ho2.below hb3
  clear ho2
  go_wp2_with fail
  refine (ownB D d x _ (hx.below B3) (by omega)).mono ?_
  rintro e w4 ⟨k4, A4, c4, hk4, hk41, hk42, rfl, ho4, hb4⟩
  have B4 : Below w.heap.size w w4 := B3.trans (hb4.mono B3.size)
  go_wp2_with fail
  have C5 := putBytesB A3 (some ⟨w4.heap.size, 0, none⟩) c3 1 k3 [(A4, c4, k4)] _ ((ho3.rb.below hb4).alloc _) (RBB.one c4 ho4.rb (by omega)) (by simp) (by have := putB_len k4; simp [putAll]; omega)
  refine C5.mono ?_
  rintro e w5 ⟨k5, A5, c5, hk5, hk51, hk52, rfl, ho5, hb5⟩
  have B5 : Below w.heap.size w w5 := (B4.alloc B4.size _).trans (hb5.mono (by have := B4.size; simp; omega))
  have E5 : Hid (k5 = b ++ putB x) := Lib.hid (by rw [hk5.out, hk3.out, hk4.out]; simp [putAll])
  have ho2'' : RB w5 A2 k2 := (((ho2'.rb.below hb4).alloc _).below hb5)
  have hbb := hb.below B5
  have hxx := hx.below B5
  have hsz := B5.size
  clear C5 hk5 hk51 hk52 hk3 hk31 hk32 hk4 hk41 hk42 ho2' ho3 ho4 hb3 hb4 hb5 B2 B3 B4 hb hx
  have hcv1 : ∀ w', Ext w5.drew w' → (convert 23 9 (.slice A2 k2.length c2)).run Try.prog w' = .ok (.string ⟨k2.toArray⟩) w' := fun w' hw => convB c2 (ho2''.drew.below hw)
  have hcv2 : ∀ w', Ext w5.drew w' → (convert 23 9 (.slice A b.length c)).run Try.prog w' = .ok (.string ⟨b.toArray⟩) w' := fun w' hw => convB c (hbb.drew.below hw)
  have hcv3 : ∀ w', Ext w5.drew w' → (convert 23 9 (.slice A5 k5.length c5)).run Try.prog w' = .ok (.string ⟨k5.toArray⟩) w' := fun w' hw => convB c5 (ho5.rb.drew.below hw)
  have hbx : ∀ w', Ext w5.drew w' → RB w' D x := fun w' hw => hxx.drew.below hw
  have HBX := Lib.hid hbx
  have B5' : Below w.heap.size w w5.drew := B5.drew
  clear hbx hxx hbb ho2'' ho5 B5
  go_wp2_with fail
  refine wp_region_plan (by kernel_rfl) [(0, false), (1, true), (2, true), (3, true), (4, true), (5, true), (6, true), (7, false), (8, true), (9, true), (10, true), (11, true), (12, true), (13, true), (14, true), (15, true), (16, true), (17, true), (18, false), (19, true), (20, true), (21, true), (22, true), (23, true)] (by kernel_rfl) (by kernel_rfl) (by decide) ?_
  refine plan_call rfl (by rfl) (fun K hK => ?_)
  go_simp
  refine (codecAnswers _).mono ?_
  rintro e w6 ⟨rfl, hb6⟩
  refine hK _ _ hb6 ?_
  clear hK K
  try simp only [List.getElem_toArray, List.getElem_cons_succ, List.getElem_cons_zero, Act.put, List.setIfInBounds_toArray, List.set_cons_zero, List.set_cons_succ]
  replace hcv1 := fun w' (h : Ext w6 w') => hcv1 w' (Ext.trans hb6 h)
  replace hcv2 := fun w' (h : Ext w6 w') => hcv2 w' (Ext.trans hb6 h)
  replace hcv3 := fun w' (h : Ext w6 w') => hcv3 w' (Ext.trans hb6 h)
  iterate 6
    (refine plan_pure (v := ?_) rfl (by rfl) (fun w' hw' => ?_) ?_; rotate_left; (focus (simp only [List.getElem_toArray, List.getElem_cons_succ, List.getElem_cons_zero]; go_simp; try with_reducible rfl)); try simp only [List.getElem_toArray, List.getElem_cons_succ, List.getElem_cons_zero, Act.put, List.setIfInBounds_toArray, List.set_cons_zero, List.set_cons_succ])
  refine plan_call rfl (by rfl) (fun K hK => ?_)
  go_simp
  refine (refPutNum n _ n0 n1).mono ?_
  rintro e w7 ⟨k7, A7, c7, hk7, hk71, hk72, rfl, ho7, hb7⟩
  refine hK _ _ hb7 ?_
  clear hK K
  try simp only [List.getElem_toArray, List.getElem_cons_succ, List.getElem_cons_zero, Act.put, List.setIfInBounds_toArray, List.set_cons_zero, List.set_cons_succ]
  replace hcv1 := fun w' (h : Ext w7 w') => hcv1 w' (Ext.trans hb7 h)
  replace hcv2 := fun w' (h : Ext w7 w') => hcv2 w' (Ext.trans hb7 h)
  replace hcv3 := fun w' (h : Ext w7 w') => hcv3 w' (Ext.trans hb7 h)
  have hcv7 := fun w' (h : Ext w7 w') => convB c7 (ho7.rb.below h)
  have hk7l : k7.length ≤ 9 := Nat.le_trans hk71 (putNum_len _)
  have hadd7 := concatB b k7 (by omega)
  have heq7 : (k2 == b ++ k7) = true := by rw [E2.out, hk7.out]; simp
  iterate 10
    (refine plan_pure (v := ?_) rfl (by rfl) (fun w' hw' => ?_) ?_; rotate_left; (focus (simp only [List.getElem_toArray, List.getElem_cons_succ, List.getElem_cons_zero]; go_simp; try with_reducible rfl)); try simp only [List.getElem_toArray, List.getElem_cons_succ, List.getElem_cons_zero, Act.put, List.setIfInBounds_toArray, List.set_cons_zero, List.set_cons_succ])
  refine plan_call rfl (by rfl) (fun K hK => ?_)
  go_simp
  refine (refPutBytes D d x _ (HBX.out _ (Ext.trans hb6 hb7)) (by omega)).mono ?_
  rintro e w8 ⟨k8, A8, c8, hk8, hk81, hk82, rfl, ho8, hb8⟩
  refine hK _ _ hb8 ?_
  clear hK K
  try simp only [List.getElem_toArray, List.getElem_cons_succ, List.getElem_cons_zero, Act.put, List.setIfInBounds_toArray, List.set_cons_zero, List.set_cons_succ]
  have hcv8 := fun w' (h : Ext w8 w') => convB c8 (ho8.rb.below h)
  have hk8l : k8.length ≤ x.length + 9 := Nat.le_trans hk81 (putB_len _)
  have hadd8 := concatB b k8 (by omega)
  have heq8 : (k5 == b ++ k8) = true := by rw [E5.out, hk8.out]; simp
  clear hcv1 hcv2 hcv3 hcv7 hadd7 heq7
  iterate 5
    (refine plan_pure (v := ?_) rfl (by rfl) (fun w' hw' => ?_) ?_; rotate_left; (focus (simp only [List.getElem_toArray, List.getElem_cons_succ, List.getElem_cons_zero]; go_simp; try with_reducible rfl)); try simp only [List.getElem_toArray, List.getElem_cons_succ, List.getElem_cons_zero, Act.put, List.setIfInBounds_toArray, List.set_cons_zero, List.set_cons_succ])
  refine plan_end ?_
  go_wp2_with fail
  go_ret
  exact ⟨rfl, B5'.trans ((hb6.mono B5'.size).trans ((hb7.mono (Nat.le_trans B5'.size hb6.size)).trans (hb8.mono (Nat.le_trans B5'.size (Nat.le_trans hb6.size hb7.size)))))⟩
end Go.Proofs.Ytekkcbonkjdgeaa
