/- Put together of: StoE, StoH. -/
import Derived.Test.YtobdmlejabjmiaaGreatDoorZa24
import Derived.Test.YtobdmlejabjmiaaGreatDoorZa17
import Derived.Test.YtobdmlejabjmiaaGreatDoorZa22
import Derived.Test.YtobdmlejabjmiaaGreatDoorZa20
import Derived.Test.YtobdmlejabjmiaaGreatDoorZa25
/- Contracts: configurations and snapshots of one's own (the reference's). -/
namespace Go.Proofs.YtobdmlejabjmiaaGreatDoor
open Go.RowKit
set_option maxRecDepth 20000 in
set_option maxHeartbeats 8000000 in
theorem refOwnConf (V L : Option Addr) (vc lc : Nat) (v l : List Int) (w : World) (hv : RV w V (ncells .i64 v)) (hl : RV w L (ncells .i64 l)) (hn : v.length * 8 ≤ 140737488355328) (hm : l.length * 8 ≤ 140737488355328) :
    Calls Tryz.prog 47 #[.agg #[.slice V v.length vc, .slice L l.length lc]] w fun e w' => ∃ A ac B bc, e = .returned (.agg #[.slice A v.length ac, .slice B l.length bc]) ∧ OV w' w.heap.size 3 A ac (ncells .i64 v) ∧ OV w' w.heap.size 3 B bc (ncells .i64 l) ∧ Below w.heap.size w w' := by
  obtain ⟨i0, hi0, hz0, hz1, hz2⟩ := info_parts int_info
  have e1 := ncells_length .i64 v
  have e2 := ncells_length .i64 l
  rw [← e1] at hn ⊢
  rw [← e2] at hm ⊢
  clear e1 e2
  have hal : Below w.heap.size w ((w.alloc (.cells #[.slice V (ncells .i64 v).length vc, .slice L (ncells .i64 l).length lc] 33)).alloc (.cells #[.slice none 0 0, .slice none 0 0] 33)) := ((Below.refl _ _).alloc (Nat.le_refl _) _).alloc (by simp) _
  have hZ := (Blk.new w #[.slice V (ncells .i64 v).length vc, .slice L (ncells .i64 l).length lc] 33).below (((Below.refl (w.heap.size + 1) _).alloc (by simp) (.cells #[.slice none 0 0, .slice none 0 0] 33))) (Nat.lt_succ_self _)
  have hZ2 := Blk.new (w.alloc (.cells #[.slice V (ncells .i64 v).length vc, .slice L (ncells .i64 l).length lc] 33)) #[.slice none 0 0, .slice none 0 0] 33
  have hws : (w.alloc (.cells #[.slice V (ncells .i64 v).length vc, .slice L (ncells .i64 l).length lc] 33)).heap.size = w.heap.size + 1 := by simp
  rw [hws] at hZ2
  have H0 := Lib.hid (And.intro hal (And.intro hZ (And.intro hZ2 (And.intro hv hl))))
  clear hal hZ hZ2 hws hv hl
  go_enter Tryz.func47, Tryz.ntmps47
  go_wp2_with fail
  refine wp_region_planP_gen (by kernel_rfl) (.pure 1 (.pure 2 (.pure 5 (.pure 6 (.two (0) [] (.two (3) [2] (.eff (4) [] (.eff (7) [6] (.pure 8 (.eff (9) [1, 2, 5, 6, 8] (.fin []))))) (4) [] (.eff (3) [2] (.eff (7) [6] (.pure 8 (.eff (9) [1, 2, 5, 6, 8] (.fin [])))))) (4) [] (.eff (0) [] (.eff (3) [2] (.eff (7) [6] (.pure 8 (.eff (9) [1, 2, 5, 6, 8] (.fin []))))))))))) (by kernel_rfl) (by kernel_rfl) (by decide) ?_
  intro wq hwq
  obtain ⟨hal, hZ, hZ2, hv, hl⟩ := H0.out
  have hd : Below w.heap.size w wq := by rw [hwq]; exact hal.drew
  have C0 : wq.cell? ⟨w.heap.size, 0, none⟩ = some (.slice V (ncells .i64 v).length vc) := by rw [hwq]; exact hZ.cell 0 rfl
  have C1 : wq.cell? ⟨w.heap.size, 1, none⟩ = some (.slice L (ncells .i64 l).length lc) := by rw [hwq]; exact hZ.cell 1 rfl
  have HZ : Blk wq (w.heap.size + 1) 33 #[.slice none 0 0, .slice none 0 0] := by rw [hwq]; exact hZ2
  have HB := hd
  have HV := hv.below hd
  have HL := hl.below hd
  clear hwq hal hZ hZ2 hv hl hd H0
  refine pt_pure (v := ?_) rfl (by rfl) (fun w' => ?_) ?_; rotate_left; (focus (simp only [List.getElem_toArray, List.getElem_cons_succ, List.getElem_cons_zero]; go_simp; first | with_reducible rfl | (simp (disch := omega) only [if_pos, if_neg, dif_pos, Result.andThen_ok]; try with_reducible rfl) | skip)); try simp only [List.getElem_toArray, List.getElem_cons_succ, List.getElem_cons_zero, Act.put, List.setIfInBounds_toArray, List.set_cons_zero, List.set_cons_succ]
  refine pt_cells (v := ?_) [(⟨w.heap.size, 0, none⟩, .slice V (ncells .i64 v).length vc)] (by simp; and_intros <;> assumption) rfl (by rfl) (fun w' hw' => ?_) ?_; rotate_left; (focus (simp only [List.forall_mem_cons, List.not_mem_nil, false_imp_iff, implies_true, and_true] at hw'; simp only [List.getElem_toArray, List.getElem_cons_succ, List.getElem_cons_zero]; go_simp; first | with_reducible rfl | (simp (disch := omega) only [if_pos, if_neg, dif_pos, Result.andThen_ok]; try with_reducible rfl) | skip)); try simp only [List.getElem_toArray, List.getElem_cons_succ, List.getElem_cons_zero, Act.put, List.setIfInBounds_toArray, List.set_cons_zero, List.set_cons_succ]
  refine pt_pure (v := ?_) rfl (by rfl) (fun w' => ?_) ?_; rotate_left; (focus (simp only [List.getElem_toArray, List.getElem_cons_succ, List.getElem_cons_zero]; go_simp; first | with_reducible rfl | (simp (disch := omega) only [if_pos, if_neg, dif_pos, Result.andThen_ok]; try with_reducible rfl) | skip)); try simp only [List.getElem_toArray, List.getElem_cons_succ, List.getElem_cons_zero, Act.put, List.setIfInBounds_toArray, List.set_cons_zero, List.set_cons_succ]
  refine pt_cells (v := ?_) [(⟨w.heap.size, 1, none⟩, .slice L (ncells .i64 l).length lc)] (by simp; and_intros <;> assumption) rfl (by rfl) (fun w' hw' => ?_) ?_; rotate_left; (focus (simp only [List.forall_mem_cons, List.not_mem_nil, false_imp_iff, implies_true, and_true] at hw'; simp only [List.getElem_toArray, List.getElem_cons_succ, List.getElem_cons_zero]; go_simp; first | with_reducible rfl | (simp (disch := omega) only [if_pos, if_neg, dif_pos, Result.andThen_ok]; try with_reducible rfl) | skip)); try simp only [List.getElem_toArray, List.getElem_cons_succ, List.getElem_cons_zero, Act.put, List.setIfInBounds_toArray, List.set_cons_zero, List.set_cons_succ]
  refine pt_two ?_ ?_
  · refine pt_eff rfl (by rfl) (fun K hK => ?_)
    go_simp
    have hb : Below wq.heap.size wq (wq.alloc (.cells #[] 3)) := (Below.refl _ _).alloc (Nat.le_refl _) _
    have R0n := OV.made0 (base := w.heap.size + 2) wq 3 HZ.lt
    obtain ⟨wv1, hwv1⟩ : ∃ x, x = wq.alloc (.cells #[] 3) := ⟨_, rfl⟩
    rw [← hwv1] at hb R0n ⊢
    clear hwv1
    have hlt := HZ.lt
    replace C0 := (hb.cell (p := ⟨w.heap.size, 0, none⟩) (by simp only; omega)).trans C0
    replace C1 := (hb.cell (p := ⟨w.heap.size, 1, none⟩) (by simp only; omega)).trans C1
    replace HZ := HZ.kept hb
    replace HV := HV.below hb
    replace HL := HL.below hb
    try replace R4 := R4.below hb
    try replace R7 := R7.below hb
    replace HB := HB.trans (hb.mono HB.size)
    have R0 := R0n
    clear R0n hb hlt
    refine hK _ _ (by first | (simp <;> (and_intros <;> first | trivial | assumption)) | (simp [owed] <;> (and_intros <;> first | trivial | assumption)) | (simp [owed, left] <;> (and_intros <;> first | trivial | assumption))) ?_
    clear hK K
    try simp only [List.getElem_toArray, List.getElem_cons_succ, List.getElem_cons_zero, Act.put, List.setIfInBounds_toArray, List.set_cons_zero, List.set_cons_succ]
    refine pt_two ?_ ?_
    · refine pt_eff rfl (by rfl) (fun K hK => ?_)
      refine op_appendZ wv1 _ _ 31 3 rfl Tryz.underlying31 hi0 hz0 hz1 hz2 rfl (w.heap.size + 2) _ _ _ (ncells .i64 v) rfl rfl R0 HV (ncells_one _ _) hn (by omega) HZ.lt ?_
      intro A3 c3 wv2 R3n hb
      have hlt := HZ.lt
      replace C0 := (hb.cell (p := ⟨w.heap.size, 0, none⟩) (by simp only; omega)).trans C0
      replace C1 := (hb.cell (p := ⟨w.heap.size, 1, none⟩) (by simp only; omega)).trans C1
      replace HZ := HZ.kept hb
      replace HV := HV.below hb
      replace HL := HL.below hb
      try replace R4 := R4.below hb
      try replace R7 := R7.below hb
      replace HB := HB.trans (hb.mono HB.size)
      have R3 := R3n
      clear R3n hb hlt R0
      refine hK _ _ (by first | (simp <;> (and_intros <;> first | trivial | assumption)) | (simp [owed] <;> (and_intros <;> first | trivial | assumption)) | (simp [owed, left] <;> (and_intros <;> first | trivial | assumption))) ?_
      clear hK K
      try simp only [List.getElem_toArray, List.getElem_cons_succ, List.getElem_cons_zero, Act.put, List.setIfInBounds_toArray, List.set_cons_zero, List.set_cons_succ]
      refine pt_eff rfl (by rfl) (fun K hK => ?_)
      go_simp
      have hb : Below wv2.heap.size wv2 (wv2.alloc (.cells #[] 3)) := (Below.refl _ _).alloc (Nat.le_refl _) _
      have R4n := OV.made0 (base := w.heap.size + 2) wv2 3 HZ.lt
      obtain ⟨wv3, hwv3⟩ : ∃ x, x = wv2.alloc (.cells #[] 3) := ⟨_, rfl⟩
      rw [← hwv3] at hb R4n ⊢
      clear hwv3
      have hlt := HZ.lt
      replace C0 := (hb.cell (p := ⟨w.heap.size, 0, none⟩) (by simp only; omega)).trans C0
      replace C1 := (hb.cell (p := ⟨w.heap.size, 1, none⟩) (by simp only; omega)).trans C1
      replace HZ := HZ.kept hb
      replace HV := HV.below hb
      replace HL := HL.below hb
      try replace R0 := R0.below hb
      try replace R3 := R3.below hb
      replace HB := HB.trans (hb.mono HB.size)
      have R4 := R4n
      clear R4n hb hlt
      refine hK _ _ (by first | (simp <;> (and_intros <;> first | trivial | assumption)) | (simp [owed] <;> (and_intros <;> first | trivial | assumption)) | (simp [owed, left] <;> (and_intros <;> first | trivial | assumption))) ?_
      clear hK K
      try simp only [List.getElem_toArray, List.getElem_cons_succ, List.getElem_cons_zero, Act.put, List.setIfInBounds_toArray, List.set_cons_zero, List.set_cons_succ]
      refine pt_eff rfl (by rfl) (fun K hK => ?_)
      refine op_appendZ wv3 _ _ 31 3 rfl Tryz.underlying31 hi0 hz0 hz1 hz2 rfl (w.heap.size + 2) _ _ _ (ncells .i64 l) rfl rfl R4 HL (ncells_one _ _) hm (by omega) HZ.lt ?_
      intro A7 c7 wv4 R7n hb
      have hlt := HZ.lt
      replace C0 := (hb.cell (p := ⟨w.heap.size, 0, none⟩) (by simp only; omega)).trans C0
      replace C1 := (hb.cell (p := ⟨w.heap.size, 1, none⟩) (by simp only; omega)).trans C1
      replace HZ := HZ.kept hb
      replace HV := HV.below hb
      replace HL := HL.below hb
      try replace R0 := R0.below hb
      try replace R3 := R3.below hb
      replace HB := HB.trans (hb.mono HB.size)
      have R7 := R7n
      clear R7n hb hlt R4
      refine hK _ _ (by first | (simp <;> (and_intros <;> first | trivial | assumption)) | (simp [owed] <;> (and_intros <;> first | trivial | assumption)) | (simp [owed, left] <;> (and_intros <;> first | trivial | assumption))) ?_
      clear hK K
      try simp only [List.getElem_toArray, List.getElem_cons_succ, List.getElem_cons_zero, Act.put, List.setIfInBounds_toArray, List.set_cons_zero, List.set_cons_succ]
      refine pt_pure (v := ?_) rfl (by rfl) (fun w' => ?_) ?_; rotate_left; (focus (simp only [List.getElem_toArray, List.getElem_cons_succ, List.getElem_cons_zero]; go_simp; first | with_reducible rfl | (simp (disch := omega) only [if_pos, if_neg, dif_pos, Result.andThen_ok]; try with_reducible rfl) | skip)); try simp only [List.getElem_toArray, List.getElem_cons_succ, List.getElem_cons_zero, Act.put, List.setIfInBounds_toArray, List.set_cons_zero, List.set_cons_succ]
      refine pt_eff rfl (by rfl) (fun K hK => ?_)
      refine wp_store_row 33 _ _ rfl (w.heap.size + 1) #[.slice A3 (ncells .i64 v).length c3, .slice A7 (ncells .i64 l).length c7] rfl rfl _ _ HZ conf_size rfl (by simp [Value.oneCell']) ?_
      have HZn := HZ.setRow #[.slice A3 (ncells .i64 v).length c3, .slice A7 (ncells .i64 l).length c7]
      refine hK _ _ (by first | (simp <;> (and_intros <;> first | trivial | assumption)) | (simp [owed] <;> (and_intros <;> first | trivial | assumption)) | (simp [owed, left] <;> (and_intros <;> first | trivial | assumption))) ?_
      clear hK K
      try simp only [List.getElem_toArray, List.getElem_cons_succ, List.getElem_cons_zero, Act.put, List.setIfInBounds_toArray, List.set_cons_zero, List.set_cons_succ]
      refine pt_fin (planE_end ?_)
      go_wp2_with fail
      refine bodyPost_ret (v := .agg #[.slice A3 (ncells .i64 v).length c3, .slice A7 (ncells .i64 l).length c7]) (results_cell_row rfl _ _ (w.heap.size + 1) 33 #[.slice A3 (ncells .i64 v).length c3, .slice A7 (ncells .i64 l).length c7] (0, 0) _ rfl HZn Tryz.underlying33 rfl conf_size) rfl ?_
      have R3b : OV _ (w.heap.size + 2) 3 A3 c3 (ncells .i64 v) := ownsRow_setRow (k := w.heap.size + 1) R3 (fun e => by have := (R3.own_lt _ e).1; omega) #[.slice A3 (ncells .i64 v).length c3, .slice A7 (ncells .i64 l).length c7]
      have R7b : OV _ (w.heap.size + 2) 3 A7 c7 (ncells .i64 l) := ownsRow_setRow (k := w.heap.size + 1) R7 (fun e => by have := (R7.own_lt _ e).1; omega) #[.slice A3 (ncells .i64 v).length c3, .slice A7 (ncells .i64 l).length c7]
      exact ⟨_, _, _, _, rfl, R3b.base_le (by omega), R7b.base_le (by omega), below_setRow (g := w.heap.size + 1) HB (by omega) _⟩
    · refine pt_eff rfl (by rfl) (fun K hK => ?_)
      go_simp
      have hb : Below wv1.heap.size wv1 (wv1.alloc (.cells #[] 3)) := (Below.refl _ _).alloc (Nat.le_refl _) _
      have R4n := OV.made0 (base := w.heap.size + 2) wv1 3 HZ.lt
      obtain ⟨wv6, hwv6⟩ : ∃ x, x = wv1.alloc (.cells #[] 3) := ⟨_, rfl⟩
      rw [← hwv6] at hb R4n ⊢
      clear hwv6
      have hlt := HZ.lt
      replace C0 := (hb.cell (p := ⟨w.heap.size, 0, none⟩) (by simp only; omega)).trans C0
      replace C1 := (hb.cell (p := ⟨w.heap.size, 1, none⟩) (by simp only; omega)).trans C1
      replace HZ := HZ.kept hb
      replace HV := HV.below hb
      replace HL := HL.below hb
      try replace R0 := R0.below hb
      try replace R3 := R3.below hb
      replace HB := HB.trans (hb.mono HB.size)
      have R4 := R4n
      clear R4n hb hlt
      refine hK _ _ (by first | (simp <;> (and_intros <;> first | trivial | assumption)) | (simp [owed] <;> (and_intros <;> first | trivial | assumption)) | (simp [owed, left] <;> (and_intros <;> first | trivial | assumption))) ?_
      clear hK K
      try simp only [List.getElem_toArray, List.getElem_cons_succ, List.getElem_cons_zero, Act.put, List.setIfInBounds_toArray, List.set_cons_zero, List.set_cons_succ]
      refine pt_eff rfl (by rfl) (fun K hK => ?_)
      refine op_appendZ wv6 _ _ 31 3 rfl Tryz.underlying31 hi0 hz0 hz1 hz2 rfl (w.heap.size + 2) _ _ _ (ncells .i64 v) rfl rfl R0 HV (ncells_one _ _) hn (by omega) HZ.lt ?_
      intro A3 c3 wv7 R3n hb
      have hlt := HZ.lt
      replace C0 := (hb.cell (p := ⟨w.heap.size, 0, none⟩) (by simp only; omega)).trans C0
      replace C1 := (hb.cell (p := ⟨w.heap.size, 1, none⟩) (by simp only; omega)).trans C1
      replace HZ := HZ.kept hb
      replace HV := HV.below hb
      replace HL := HL.below hb
      try replace R4 := R4.below hb
      try replace R7 := R7.below hb
      replace HB := HB.trans (hb.mono HB.size)
      have R3 := R3n
      clear R3n hb hlt R0
      refine hK _ _ (by first | (simp <;> (and_intros <;> first | trivial | assumption)) | (simp [owed] <;> (and_intros <;> first | trivial | assumption)) | (simp [owed, left] <;> (and_intros <;> first | trivial | assumption))) ?_
      clear hK K
      try simp only [List.getElem_toArray, List.getElem_cons_succ, List.getElem_cons_zero, Act.put, List.setIfInBounds_toArray, List.set_cons_zero, List.set_cons_succ]
      refine pt_eff rfl (by rfl) (fun K hK => ?_)
      refine op_appendZ wv7 _ _ 31 3 rfl Tryz.underlying31 hi0 hz0 hz1 hz2 rfl (w.heap.size + 2) _ _ _ (ncells .i64 l) rfl rfl R4 HL (ncells_one _ _) hm (by omega) HZ.lt ?_
      intro A7 c7 wv8 R7n hb
      have hlt := HZ.lt
      replace C0 := (hb.cell (p := ⟨w.heap.size, 0, none⟩) (by simp only; omega)).trans C0
      replace C1 := (hb.cell (p := ⟨w.heap.size, 1, none⟩) (by simp only; omega)).trans C1
      replace HZ := HZ.kept hb
      replace HV := HV.below hb
      replace HL := HL.below hb
      try replace R0 := R0.below hb
      try replace R3 := R3.below hb
      replace HB := HB.trans (hb.mono HB.size)
      have R7 := R7n
      clear R7n hb hlt R4
      refine hK _ _ (by first | (simp <;> (and_intros <;> first | trivial | assumption)) | (simp [owed] <;> (and_intros <;> first | trivial | assumption)) | (simp [owed, left] <;> (and_intros <;> first | trivial | assumption))) ?_
      clear hK K
      try simp only [List.getElem_toArray, List.getElem_cons_succ, List.getElem_cons_zero, Act.put, List.setIfInBounds_toArray, List.set_cons_zero, List.set_cons_succ]
      refine pt_pure (v := ?_) rfl (by rfl) (fun w' => ?_) ?_; rotate_left; (focus (simp only [List.getElem_toArray, List.getElem_cons_succ, List.getElem_cons_zero]; go_simp; first | with_reducible rfl | (simp (disch := omega) only [if_pos, if_neg, dif_pos, Result.andThen_ok]; try with_reducible rfl) | skip)); try simp only [List.getElem_toArray, List.getElem_cons_succ, List.getElem_cons_zero, Act.put, List.setIfInBounds_toArray, List.set_cons_zero, List.set_cons_succ]
      refine pt_eff rfl (by rfl) (fun K hK => ?_)
      refine wp_store_row 33 _ _ rfl (w.heap.size + 1) #[.slice A3 (ncells .i64 v).length c3, .slice A7 (ncells .i64 l).length c7] rfl rfl _ _ HZ conf_size rfl (by simp [Value.oneCell']) ?_
      have HZn := HZ.setRow #[.slice A3 (ncells .i64 v).length c3, .slice A7 (ncells .i64 l).length c7]
      refine hK _ _ (by first | (simp <;> (and_intros <;> first | trivial | assumption)) | (simp [owed] <;> (and_intros <;> first | trivial | assumption)) | (simp [owed, left] <;> (and_intros <;> first | trivial | assumption))) ?_
      clear hK K
      try simp only [List.getElem_toArray, List.getElem_cons_succ, List.getElem_cons_zero, Act.put, List.setIfInBounds_toArray, List.set_cons_zero, List.set_cons_succ]
      refine pt_fin (planE_end ?_)
      go_wp2_with fail
      refine bodyPost_ret (v := .agg #[.slice A3 (ncells .i64 v).length c3, .slice A7 (ncells .i64 l).length c7]) (results_cell_row rfl _ _ (w.heap.size + 1) 33 #[.slice A3 (ncells .i64 v).length c3, .slice A7 (ncells .i64 l).length c7] (0, 0) _ rfl HZn Tryz.underlying33 rfl conf_size) rfl ?_
      have R3b : OV _ (w.heap.size + 2) 3 A3 c3 (ncells .i64 v) := ownsRow_setRow (k := w.heap.size + 1) R3 (fun e => by have := (R3.own_lt _ e).1; omega) #[.slice A3 (ncells .i64 v).length c3, .slice A7 (ncells .i64 l).length c7]
      have R7b : OV _ (w.heap.size + 2) 3 A7 c7 (ncells .i64 l) := ownsRow_setRow (k := w.heap.size + 1) R7 (fun e => by have := (R7.own_lt _ e).1; omega) #[.slice A3 (ncells .i64 v).length c3, .slice A7 (ncells .i64 l).length c7]
      exact ⟨_, _, _, _, rfl, R3b.base_le (by omega), R7b.base_le (by omega), below_setRow (g := w.heap.size + 1) HB (by omega) _⟩
  · refine pt_eff rfl (by rfl) (fun K hK => ?_)
    go_simp
    have hb : Below wq.heap.size wq (wq.alloc (.cells #[] 3)) := (Below.refl _ _).alloc (Nat.le_refl _) _
    have R4n := OV.made0 (base := w.heap.size + 2) wq 3 HZ.lt
    obtain ⟨wv10, hwv10⟩ : ∃ x, x = wq.alloc (.cells #[] 3) := ⟨_, rfl⟩
    rw [← hwv10] at hb R4n ⊢
    clear hwv10
    have hlt := HZ.lt
    replace C0 := (hb.cell (p := ⟨w.heap.size, 0, none⟩) (by simp only; omega)).trans C0
    replace C1 := (hb.cell (p := ⟨w.heap.size, 1, none⟩) (by simp only; omega)).trans C1
    replace HZ := HZ.kept hb
    replace HV := HV.below hb
    replace HL := HL.below hb
    try replace R0 := R0.below hb
    try replace R3 := R3.below hb
    replace HB := HB.trans (hb.mono HB.size)
    have R4 := R4n
    clear R4n hb hlt
    refine hK _ _ (by first | (simp <;> (and_intros <;> first | trivial | assumption)) | (simp [owed] <;> (and_intros <;> first | trivial | assumption)) | (simp [owed, left] <;> (and_intros <;> first | trivial | assumption))) ?_
    clear hK K
    try simp only [List.getElem_toArray, List.getElem_cons_succ, List.getElem_cons_zero, Act.put, List.setIfInBounds_toArray, List.set_cons_zero, List.set_cons_succ]
    refine pt_eff rfl (by rfl) (fun K hK => ?_)
    go_simp
    have hb : Below wv10.heap.size wv10 (wv10.alloc (.cells #[] 3)) := (Below.refl _ _).alloc (Nat.le_refl _) _
    have R0n := OV.made0 (base := w.heap.size + 2) wv10 3 HZ.lt
    obtain ⟨wv11, hwv11⟩ : ∃ x, x = wv10.alloc (.cells #[] 3) := ⟨_, rfl⟩
    rw [← hwv11] at hb R0n ⊢
    clear hwv11
    have hlt := HZ.lt
    replace C0 := (hb.cell (p := ⟨w.heap.size, 0, none⟩) (by simp only; omega)).trans C0
    replace C1 := (hb.cell (p := ⟨w.heap.size, 1, none⟩) (by simp only; omega)).trans C1
    replace HZ := HZ.kept hb
    replace HV := HV.below hb
    replace HL := HL.below hb
    try replace R4 := R4.below hb
    try replace R7 := R7.below hb
    replace HB := HB.trans (hb.mono HB.size)
    have R0 := R0n
    clear R0n hb hlt
    refine hK _ _ (by first | (simp <;> (and_intros <;> first | trivial | assumption)) | (simp [owed] <;> (and_intros <;> first | trivial | assumption)) | (simp [owed, left] <;> (and_intros <;> first | trivial | assumption))) ?_
    clear hK K
    try simp only [List.getElem_toArray, List.getElem_cons_succ, List.getElem_cons_zero, Act.put, List.setIfInBounds_toArray, List.set_cons_zero, List.set_cons_succ]
    refine pt_eff rfl (by rfl) (fun K hK => ?_)
    refine op_appendZ wv11 _ _ 31 3 rfl Tryz.underlying31 hi0 hz0 hz1 hz2 rfl (w.heap.size + 2) _ _ _ (ncells .i64 v) rfl rfl R0 HV (ncells_one _ _) hn (by omega) HZ.lt ?_
    intro A3 c3 wv12 R3n hb
    have hlt := HZ.lt
    replace C0 := (hb.cell (p := ⟨w.heap.size, 0, none⟩) (by simp only; omega)).trans C0
    replace C1 := (hb.cell (p := ⟨w.heap.size, 1, none⟩) (by simp only; omega)).trans C1
    replace HZ := HZ.kept hb
    replace HV := HV.below hb
    replace HL := HL.below hb
    try replace R4 := R4.below hb
    try replace R7 := R7.below hb
    replace HB := HB.trans (hb.mono HB.size)
    have R3 := R3n
    clear R3n hb hlt R0
    refine hK _ _ (by first | (simp <;> (and_intros <;> first | trivial | assumption)) | (simp [owed] <;> (and_intros <;> first | trivial | assumption)) | (simp [owed, left] <;> (and_intros <;> first | trivial | assumption))) ?_
    clear hK K
    try simp only [List.getElem_toArray, List.getElem_cons_succ, List.getElem_cons_zero, Act.put, List.setIfInBounds_toArray, List.set_cons_zero, List.set_cons_succ]
    refine pt_eff rfl (by rfl) (fun K hK => ?_)
    refine op_appendZ wv12 _ _ 31 3 rfl Tryz.underlying31 hi0 hz0 hz1 hz2 rfl (w.heap.size + 2) _ _ _ (ncells .i64 l) rfl rfl R4 HL (ncells_one _ _) hm (by omega) HZ.lt ?_
    intro A7 c7 wv13 R7n hb
    have hlt := HZ.lt
    replace C0 := (hb.cell (p := ⟨w.heap.size, 0, none⟩) (by simp only; omega)).trans C0
    replace C1 := (hb.cell (p := ⟨w.heap.size, 1, none⟩) (by simp only; omega)).trans C1
    replace HZ := HZ.kept hb
    replace HV := HV.below hb
    replace HL := HL.below hb
    try replace R0 := R0.below hb
    try replace R3 := R3.below hb
    replace HB := HB.trans (hb.mono HB.size)
    have R7 := R7n
    clear R7n hb hlt R4
    refine hK _ _ (by first | (simp <;> (and_intros <;> first | trivial | assumption)) | (simp [owed] <;> (and_intros <;> first | trivial | assumption)) | (simp [owed, left] <;> (and_intros <;> first | trivial | assumption))) ?_
    clear hK K
    try simp only [List.getElem_toArray, List.getElem_cons_succ, List.getElem_cons_zero, Act.put, List.setIfInBounds_toArray, List.set_cons_zero, List.set_cons_succ]
    refine pt_pure (v := ?_) rfl (by rfl) (fun w' => ?_) ?_; rotate_left; (focus (simp only [List.getElem_toArray, List.getElem_cons_succ, List.getElem_cons_zero]; go_simp; first | with_reducible rfl | (simp (disch := omega) only [if_pos, if_neg, dif_pos, Result.andThen_ok]; try with_reducible rfl) | skip)); try simp only [List.getElem_toArray, List.getElem_cons_succ, List.getElem_cons_zero, Act.put, List.setIfInBounds_toArray, List.set_cons_zero, List.set_cons_succ]
    refine pt_eff rfl (by rfl) (fun K hK => ?_)
    refine wp_store_row 33 _ _ rfl (w.heap.size + 1) #[.slice A3 (ncells .i64 v).length c3, .slice A7 (ncells .i64 l).length c7] rfl rfl _ _ HZ conf_size rfl (by simp [Value.oneCell']) ?_
    have HZn := HZ.setRow #[.slice A3 (ncells .i64 v).length c3, .slice A7 (ncells .i64 l).length c7]
    refine hK _ _ (by first | (simp <;> (and_intros <;> first | trivial | assumption)) | (simp [owed] <;> (and_intros <;> first | trivial | assumption)) | (simp [owed, left] <;> (and_intros <;> first | trivial | assumption))) ?_
    clear hK K
    try simp only [List.getElem_toArray, List.getElem_cons_succ, List.getElem_cons_zero, Act.put, List.setIfInBounds_toArray, List.set_cons_zero, List.set_cons_succ]
    refine pt_fin (planE_end ?_)
    go_wp2_with fail
    refine bodyPost_ret (v := .agg #[.slice A3 (ncells .i64 v).length c3, .slice A7 (ncells .i64 l).length c7]) (results_cell_row rfl _ _ (w.heap.size + 1) 33 #[.slice A3 (ncells .i64 v).length c3, .slice A7 (ncells .i64 l).length c7] (0, 0) _ rfl HZn Tryz.underlying33 rfl conf_size) rfl ?_
    have R3b : OV _ (w.heap.size + 2) 3 A3 c3 (ncells .i64 v) := ownsRow_setRow (k := w.heap.size + 1) R3 (fun e => by have := (R3.own_lt _ e).1; omega) #[.slice A3 (ncells .i64 v).length c3, .slice A7 (ncells .i64 l).length c7]
    have R7b : OV _ (w.heap.size + 2) 3 A7 c7 (ncells .i64 l) := ownsRow_setRow (k := w.heap.size + 1) R7 (fun e => by have := (R7.own_lt _ e).1; omega) #[.slice A3 (ncells .i64 v).length c3, .slice A7 (ncells .i64 l).length c7]
    exact ⟨_, _, _, _, rfl, R3b.base_le (by omega), R7b.base_le (by omega), below_setRow (g := w.heap.size + 1) HB (by omega) _⟩
theorem blk_setCells2 {w : World} {g : Nat} {T : TypeId} {cs : Array Value} (h : Blk w g T cs) (o : Nat) (x y : Value) : Blk (w.setCells g o [x, y]) g T ((cs.setIfInBounds o x).setIfInBounds (o + 1) y) := (h.setCell o x).setCell (o + 1) y
theorem blk_setCells2_other {w : World} {g k : Nat} {T : TypeId} {cs : Array Value} (h : Blk w g T cs) (hk : g ≠ k) (o : Nat) (x y : Value) : Blk (w.setCells k o [x, y]) g T cs := (h.setCell_other x hk).setCell_other y hk
theorem ov_setCell {w : World} {base c : Nat} {e : TypeId} {A : Option Addr} {xs : List Value} (h : OV w base e A c xs) {a : Addr} (hk : a.block < base) (v : Value) : OV (w.setCell a v) base e A c xs :=
  ownsRow_setCell_below h hk v
theorem ov_setCells2 {w : World} {base c k : Nat} {e : TypeId} {A : Option Addr} {xs : List Value} (h : OV w base e A c xs) (hk : k < base) (o : Nat) (x y : Value) : OV (w.setCells k o [x, y]) base e A c xs :=
  ov_setCell (ov_setCell h (a := ⟨k, o, none⟩) hk x) (a := ⟨k, o + 1, none⟩) hk y
theorem below_setCells2 {B k : Nat} {w0 w : World} (h : Below B w0 w) (hk : B ≤ k) (o : Nat) (x y : Value) : Below B w0 (w.setCells k o [x, y]) := (h.setCell (p := ⟨k, o, none⟩) hk x).setCell (p := ⟨k, o + 1, none⟩) hk y
theorem there_blk {w : World} {g : Nat} {T : TypeId} {cs : Array Value} (h : Blk w g T cs) (o n : Nat) (hn : o + n ≤ cs.size) : w.there g o n := fun j hj => ⟨by rw [h.cell (o + j) (Array.getElem?_eq_getElem (by omega))]; rfl, h.free _⟩
set_option maxRecDepth 20000 in
set_option maxHeartbeats 8000000 in
theorem refOwnShot (i t : Nat) (v l : List Int) (d : List UInt8) (V : Option Addr) (vc : Nat) (L : Option Addr) (lc : Nat) (D : Option Addr) (dc : Nat) (w : World) (hv : RV w V (ncells .i64 v)) (hl : RV w L (ncells .i64 l)) (hd : RB w D d)
    (hn : v.length * 8 ≤ 140737488355328) (hm : l.length * 8 ≤ 140737488355328) (hdl : d.length ≤ 140737488355328) :
    Calls Tryz.prog 19 #[.agg (shotC i t v l d V vc L lc D dc)] w fun e w' => ∃ A ac B bc C cc, e = .returned (.agg (shotC i t v l d A ac B bc C cc)) ∧ OV w' w.heap.size 3 A ac (ncells .i64 v) ∧ OV w' w.heap.size 3 B bc (ncells .i64 l) ∧ OB w' w.heap.size C cc d ∧ Below w.heap.size w w' := by
  have hal : Below w.heap.size w ((w.alloc (.cells (shotC i t v l d V vc L lc D dc) 36)).alloc (.cells #[.int .u64 0, .int .u64 0, .slice none 0 0, .slice none 0 0, .slice none 0 0] 36)) := ((Below.refl _ _).alloc (Nat.le_refl _) _).alloc (by simp) _
  have hZ := (Blk.new w (shotC i t v l d V vc L lc D dc) 36).below (((Below.refl (w.heap.size + 1) _).alloc (by simp) (.cells #[.int .u64 0, .int .u64 0, .slice none 0 0, .slice none 0 0, .slice none 0 0] 36))) (Nat.lt_succ_self _)
  have hZ2 := Blk.new (w.alloc (.cells (shotC i t v l d V vc L lc D dc) 36)) #[.int .u64 0, .int .u64 0, .slice none 0 0, .slice none 0 0, .slice none 0 0] 36
  have hws : (w.alloc (.cells (shotC i t v l d V vc L lc D dc) 36)).heap.size = w.heap.size + 1 := by simp
  rw [hws] at hZ2
  have RG := Lib.hid (shot_conf hZ)
  have OC := Lib.hid (refOwnConf V L vc lc v l _ (hv.below hal) (hl.below hal) hn hm)
  have H0 := Lib.hid (And.intro hal (And.intro hZ (And.intro hZ2 hd)))
  clear hal hZ hZ2 hws hv hl hd
  unfold shotC at *
  go_enter Tryz.func19, Tryz.ntmps19
  go_wp2_with (first
    | (refine wpList_load_mid rfl 33 (.tmp 3) rfl w.heap.size 2 rfl [.slice V v.length vc, .slice L l.length lc] _ RG.out Tryz.underlying33 rfl conf_size ?_)
    | (go_at_call 47; refine OC.out.mono ?_))
  rintro e w1 ⟨A, ac, B, bc, rfl, o1, o2, b1⟩
  obtain ⟨hal, hZ, hZ2, hd⟩ := H0.out
  have hsz : ((w.alloc (.cells #[.int .u64 (i : Int), .int .u64 (t : Int), .slice V v.length vc, .slice L l.length lc, .slice D d.length dc] 36)).alloc (.cells #[.int .u64 0, .int .u64 0, .slice none 0 0, .slice none 0 0, .slice none 0 0] 36)).heap.size = w.heap.size + 2 := by simp
  rw [hsz] at o1 o2
  have hb1 := belowTrans hal b1
  have y1 := hZ.kept b1
  have y2 := hZ2.kept b1
  have HTH := Lib.hid (there_blk y1 2 2 (by simp))
  have Y1 := Lib.hid (blk_setCells2 y1 2 (.slice A v.length ac) (.slice B l.length bc))
  have Y2 := Lib.hid (blk_setCells2_other y2 (k := w.heap.size) (by omega) 2 (.slice A v.length ac) (.slice B l.length bc))
  have O1 := Lib.hid (ov_setCells2 o1 (k := w.heap.size) (by omega) 2 (.slice A v.length ac) (.slice B l.length bc))
  have O2 := Lib.hid (ov_setCells2 o2 (k := w.heap.size) (by omega) 2 (.slice A v.length ac) (.slice B l.length bc))
  have HB := Lib.hid (below_setCells2 hb1 (Nat.le_refl _) 2 (.slice A v.length ac) (.slice B l.length bc))
  clear hal hZ hZ2 b1 hb1 y1 y2 o1 o2 H0 OC RG hsz
  obtain ⟨w2, hw2⟩ : ∃ w2, w2 = w1.setCells w.heap.size 2 [.slice A v.length ac, .slice B l.length bc] := ⟨_, rfl⟩
  rw [← hw2] at Y1 Y2 O1 O2 HB
  have HD := Lib.hid (hd.below HB.out)
  have hbl : Below w2.heap.size w2 (w2.alloc (.cells #[] 5)) := (Below.refl _ _).alloc (Nat.le_refl _) _
  have c4 := (Y1.out.kept hbl).cell 4 (v := .slice D d.length dc) (by simp)
  have hlt2 := Y2.out.lt
  have HW2 := Lib.hid hw2.symm
  clear hd hw2 hbl
  go_wp2_with (first
    | (refine wpList_store_mid rfl 33 (.tmp 6) (.tmp 5) rfl w.heap.size 2 #[.slice A v.length ac, .slice B l.length bc] rfl rfl HTH.out conf_size (by simp [Value.oneCell']) ?_; simp only [List.toList_toArray]; rw [HW2.out])
    | (at_builtin; refine wp_appendB _ rfl (.tmp 7) (.tmp 9) rfl (w.heap.size + 2) _ _ _ _ [] d rfl rfl (OB.made0 _ hlt2) (HD.out.alloc _) (by simp; omega) (by simp; omega) ?_; intro k C cc w4 hk hk1 hk2 hob hg; have HK := Lib.hid hk; have HOB := Lib.hid hob; have hb4 : Below w2.heap.size w2 w4 := ((Below.refl _ _).alloc (Nat.le_refl _) _).grown hg (by simp) (by simp [Value.ownBlock]); have HB4 := Lib.hid hb4; have q4 := (Y1.out.kept hb4).cell 4 (v := .slice D d.length dc) (by simp); have r4 := (Y1.out.kept hb4).free 4; have Y5 : Hid (Blk (w4.setCell ⟨w.heap.size, 4, none⟩ (.slice C k.length cc)) w.heap.size 36 #[.int .u64 (i : Int), .int .u64 (t : Int), .slice A v.length ac, .slice B l.length bc, .slice C k.length cc]) := Lib.hid ((Y1.out.kept hb4).setCell 4 (.slice C k.length cc)); have Y6 := Lib.hid ((Y2.out.kept hb4).setCell_other (a := ⟨w.heap.size, 4, none⟩) (.slice C k.length cc) (by simp)); have O3 := Lib.hid (ov_setCell (O1.out.below hb4) (a := ⟨w.heap.size, 4, none⟩) (by simp) (.slice C k.length cc)); have O4 := Lib.hid (ov_setCell (O2.out.below hb4) (a := ⟨w.heap.size, 4, none⟩) (by simp) (.slice C k.length cc)); have HB5 := Lib.hid ((HB.out.trans (hb4.mono HB.out.size)).setCell (p := ⟨w.heap.size, 4, none⟩) (Nat.le_refl _) (.slice C k.length cc)); have O5 := Lib.hid (hob.setCell (a := ⟨w.heap.size, 4, none⟩) (by simp) (.slice C k.length cc)); clear hk hob hg hb4 c4)
    | (refine wpList_load_row rfl 36 (.tmp 1) rfl w.heap.size rfl 36 #[.int .u64 (i : Int), .int .u64 (t : Int), .slice A v.length ac, .slice B l.length bc, .slice C k.length cc] (0, 0) _ Y5.out Tryz.underlying36 rfl shot_size ?_)
    | (refine wpList_store_row rfl 36 (.tmp 2) (.tmp 12) rfl (w.heap.size + 1) #[.int .u64 (i : Int), .int .u64 (t : Int), .slice A v.length ac, .slice B l.length bc, .slice C k.length cc] rfl rfl _ _ Y6.out shot_size rfl (by simp [Value.oneCell']) ?_))
  have Y7 := Y6.out.setRow #[.int .u64 (i : Int), .int .u64 (t : Int), .slice A v.length ac, .slice B l.length bc, .slice C k.length cc]
  refine bodyPost_ret (v := .agg #[.int .u64 (i : Int), .int .u64 (t : Int), .slice A v.length ac, .slice B l.length bc, .slice C k.length cc]) (results_cell_row rfl _ _ (w.heap.size + 1) 36 #[.int .u64 (i : Int), .int .u64 (t : Int), .slice A v.length ac, .slice B l.length bc, .slice C k.length cc] (0, 0) _ rfl Y7 Tryz.underlying36 rfl shot_size) rfl ?_
  have hkd : k = d := by simpa using HK.out.out
  have Z1 := ownsRow_setRow (k := w.heap.size + 1) O3.out (fun e => by have := (O3.out.own_lt _ e).1; omega) #[.int .u64 (i : Int), .int .u64 (t : Int), .slice A v.length ac, .slice B l.length bc, .slice C k.length cc]
  have Z2 := ownsRow_setRow (k := w.heap.size + 1) O4.out (fun e => by have := (O4.out.own_lt _ e).1; omega) #[.int .u64 (i : Int), .int .u64 (t : Int), .slice A v.length ac, .slice B l.length bc, .slice C k.length cc]
  have Z3 := O5.out.setRow (k := w.heap.size + 1) (fun e => by have := (O5.out.own_lt (w.heap.size + 1) (by rw [own_blk]; exact e)).1; omega) #[.int .u64 (i : Int), .int .u64 (t : Int), .slice A v.length ac, .slice B l.length bc, .slice C k.length cc]
  have Z4 := below_setRow (g := w.heap.size + 1) HB5.out (by omega) #[.int .u64 (i : Int), .int .u64 (t : Int), .slice A v.length ac, .slice B l.length bc, .slice C k.length cc]
  subst hkd
  exact ⟨A, ac, B, bc, C, cc, rfl, OV.base_le Z1 (by omega), OV.base_le Z2 (by omega), Z3.base_le (by omega), Z4⟩
end Go.Proofs.YtobdmlejabjmiaaGreatDoor


/- Contracts of package store: small ones. -/
namespace Go.Proofs.YtobdmlejabjmiaaGreatDoor
open Go.RowKit
theorem hard_size : (Tryz.prog.info? 25).map (·.size) = some 2 := by kernel_rfl
theorem state_size : (Tryz.prog.info? 38).map (·.size) = some 8 := by kernel_rfl
theorem entry_size : (Tryz.prog.info? 44).map (·.size) = some 5 := by kernel_rfl
abbrev stateC (ht : Nat) (hv : Int) (i t : Nat) (v l : List Int) (d : List UInt8) (V : Option Addr) (vc : Nat) (L : Option Addr) (lc : Nat) (D : Option Addr) (dc : Nat) : Array Value :=
  #[.int .u64 (ht : Int), .int .i64 hv, .int .u64 (i : Int), .int .u64 (t : Int), .slice V v.length vc, .slice L l.length lc, .slice D d.length dc, .slice none 0 0]
section
variable {B p g cv co : Nat} {S S' F : Nat → Prop} {w w' : World} {s : Sl} {D D' : DSt} {V O : Option Addr}
set_option maxHeartbeats 2000000 in
theorem storeFirst0 (A : Option Addr) (c : Nat) (w : World) (h : RV w A (ncells .i64 [0, 0, 0])) :
    Calls Tryz.prog 28 #[.slice A 3 c] w fun e w' => e = .returned (.int .i64 0) ∧ w = w' := by
  have HR := Lib.hid h
  clear h
  go_enter Tryz.func28, Tryz.ntmps28
  go_wp2_with fail
  go_loop [7] (fun i => ∃ k : Nat, k ≤ 3 ∧ i = .int .i64 (k : Int)) (fun i => 3 - (intOf i).toNat)
  case atStart => exact ⟨0, Nat.zero_le _, rfl⟩
  case round =>
    obtain ⟨k, hk, rfl⟩ := hrel
    by_cases hlt : k < 3
    · obtain ⟨b, off, rfl, hb, hc⟩ := HR.out.int (j := k) (by simpa using hlt)
      have e0 : ([0, 0, 0] : List Int)[k]'(by simpa using hlt) = 0 := by
        match k, hlt with
        | 0, _ => rfl
        | 1, _ => rfl
        | 2, _ => rfl
      rw [e0] at hc
      go_wp2_with fail
      go_round
      case rel => exact ⟨k + 1, by omega, by go_num⟩
      case measure => simp [intOf]; omega
    · go_wp2_with fail
      go_ret
      exact ⟨rfl, rfl⟩
set_option maxHeartbeats 2000000 in
theorem idxS (A : Option Addr) (c : Nat) (l : List (List UInt8)) (n : List UInt8) (w : World) (h : RV w A (l.map encStr)) (hl : l.length ≤ 9223372036854775807) (r : Bool) (hr : l.contains n = r) :
    Calls Tryz.prog 70 #[.slice A l.length c, .string ⟨n.toArray⟩] w fun e w' => (∃ k : Int, e = .returned (.int .i64 k) ∧ decide (0 ≤ k) = r) ∧ w' = w := by
  have HR := Lib.hid h
  have HRR := Lib.hid hr
  clear h hr
  go_enter Tryz.func70, Tryz.ntmps70
  go_wp2_with fail
  go_loop [8] (fun i => ∃ k : Nat, k ≤ l.length ∧ i = .int .i64 (k : Int) ∧ Hid (n ∉ l.take k))
    (fun i => l.length - (intOf i).toNat)
  case atStart => exact ⟨0, Nat.zero_le _, rfl, Lib.hid (by simp)⟩
  case round =>
    obtain ⟨k, hk, rfl, HK⟩ := hrel
    by_cases hlt : k < l.length
    · obtain ⟨b, off, rfl, hb, hc⟩ := HR.out.cell (j := k) (by rw [List.length_map]; exact hlt)
      rw [show (l.map encStr)[k]'(by rw [List.length_map]; exact hlt) = .string ⟨(l[k]).toArray⟩ from by rw [List.getElem_map]] at hc
      by_cases hx : n = l[k]
      · have HF : Hid (r = true) := Lib.hid (by rw [← HRR.out, List.contains_iff_mem, hx]; exact List.getElem_mem hlt)
        have hxb : (n == l[k]) = true := by simpa using hx
        obtain ⟨x, hxe⟩ : ∃ x, x = l[k] := ⟨_, rfl⟩
        rw [← hxe] at hc hxb
        clear hx hxe HK
        go_wp2_with fail
        go_ret
        exact ⟨⟨(k : Int), rfl, by rw [HF.out]; simp⟩, rfl⟩
      · have HT : Hid (n ∉ l.take (k + 1)) := Lib.hid (by
          rw [List.take_succ_eq_append_getElem hlt, List.mem_append, List.mem_singleton]
          exact fun e => e.elim HK.out hx)
        have hxb : (n == l[k]) = false := beq_eq_false_iff_ne.2 hx
        obtain ⟨x, hxe⟩ : ∃ x, x = l[k] := ⟨_, rfl⟩
        rw [← hxe] at hc hxb
        clear hx hxe HK
        go_wp2_with fail
        go_round
        case rel => exact ⟨k + 1, by omega, by go_num, HT⟩
        case measure => simp [intOf]; omega
    · have HF : Hid (r = false) := Lib.hid (by
        have := HK.out
        rw [List.take_of_length_le (by omega)] at this
        rw [← HRR.out, ← Bool.not_eq_true, List.contains_iff_mem]
        exact this)
      clear HK
      go_wp2_with fail
      go_ret
      exact ⟨⟨-1, rfl, by rw [HF.out]; simp⟩, rfl⟩
set_option maxHeartbeats 2000000 in
theorem containsS (A : Option Addr) (c : Nat) (l : List (List UInt8)) (n : List UInt8) (w : World) (h : RV w A (l.map encStr)) (hl : l.length ≤ 9223372036854775807) (r : Bool) (hr : l.contains n = r) :
    Calls Tryz.prog 29 #[.slice A l.length c, .string ⟨n.toArray⟩] w fun e w' => e = .returned (.bool r) ∧ w' = w := by
  have IX := Lib.hid (idxS A c l n w h hl r hr)
  clear h hr
  go_enter Tryz.func29, Tryz.ntmps29
  go_wp2_with (go_at_call 70; refine IX.out.mono ?_)
  rintro e w1 ⟨⟨k, rfl, hk⟩, rfl⟩
  go_wp2_with fail
  go_ret
  exact ⟨by refine ret_boolB ?_; first | exact hk | simp, rfl⟩
/-- A slot that the calls of others leave, its disk in another state. -/
theorem SR.moved (h : SR B S w p g s D V cv O co) (hB : B ≤ w.heap.size) (hd : DI S' w' g D') (hn : ∀ b, S' b → S b ∨ w.heap.size ≤ b) (m : Mods S w w') : SR B S' w' p g s D' V cv O co :=
  ⟨h.blk.mods m h.ps, hd, h.val.mods m h.vs, h.old.mods m h.os, h.ge, fun b hb => (hn b hb).elim (h.sge b) (fun h1 => Nat.le_trans hB h1), fun hb => (hn _ hb).elim h.ps (fun h1 => by have := h.blk.lt; omega),
    fun b e hb => (hn b hb).elim (h.vs b e) (fun h1 => by have := (h.val.blk_in b e).2; omega), fun b e hb => (hn b hb).elim (h.os b e) (fun h1 => by have := (h.old.blk_lt b e).2; omega), h.bl, h.on⟩
set_option maxHeartbeats 4000000 in
theorem valueHard0 (h : SR B S w p g s D V cv O co) (hh : s.has = false) (hd : s.down = false) (hl : s.value.length ≤ 100000) (f : Value) :
    Calls Tryz.prog 75 #[.pointer (some ⟨p, 0, none⟩), f] w fun e w' => e = .returned (.tuple #[.agg #[.int .u64 0, .int .i64 0], .bool false]) ∧ Below w.heap.size w w' := by
  have hal : Below w.heap.size w (w.alloc (.cells #[.int .u64 0, .int .i64 0] 25)) := (Below.refl _ _).alloc (Nat.le_refl _) _
  have HZ := Lib.hid (Blk.new w #[.int .u64 0, .int .i64 0] 25)
  have hle : loadE s = 8 := by unfold loadE; rw [if_neg (by rw [hd]; simp), if_pos hh]
  have LD := Lib.hid (slotLoad (h.below hal) hl)
  have HLE := Lib.hid hle
  have HAL := Lib.hid hal
  clear h hal hle hh hd
  go_enter Tryz.func75, Tryz.ntmps75
  go_wp2_with (go_at_call 141; refine LD.out.mono ?_)
  rintro e w1 ⟨A, c, rfl, ho, b1⟩
  rw [HLE.out]
  have hz := HZ.out.kept b1
  have HB := Lib.hid (belowTrans HAL.out b1)
  have HY := Lib.hid hz
  clear LD ho b1 HZ HAL hz
  go_wp2_with (first
    | (refine wpList_load_row rfl 25 (.tmp 4) rfl w.heap.size rfl 25 #[.int .u64 0, .int .i64 0] (0, 0) _ HY.out Tryz.underlying25 rfl hard_size ?_)
    | (refine wpList_store_row rfl 25 (.tmp 4) (.tmp 15) rfl w.heap.size #[.int .u64 0, .int .i64 0] rfl rfl _ _ HY.out hard_size rfl (by simp [Value.oneCell']) ?_))
  have Y := HY.out.setRow #[.int .u64 0, .int .i64 0]
  have c0 := Y.cell 0 rfl
  have c1 := Y.cell 1 rfl
  refine bodyPost_ret (v := .tuple #[.agg #[.int .u64 0, .int .i64 0], .bool false]) (by simp [results, Tryz.results75, go_sem, c0, c1]) rfl ⟨rfl, below_setRow HB.out (Nat.le_refl _) _⟩
abbrev shot0 : Array Value := #[.int .u64 0, .int .u64 0, .slice none 0 0, .slice none 0 0, .slice none 0 0]
set_option maxHeartbeats 4000000 in
theorem valueShot0 (h : SR B S w p g s D V cv O co) (hh : s.has = false) (hd : s.down = false) (hl : s.value.length ≤ 100000) (f : Value) :
    Calls Tryz.prog 77 #[.pointer (some ⟨p, 0, none⟩), f] w fun e w' => e = .returned (.tuple #[.agg shot0, .bool false]) ∧ Below w.heap.size w w' := by
  have hal : Below w.heap.size w (w.alloc (.cells shot0 36)) := (Below.refl _ _).alloc (Nat.le_refl _) _
  have HZ := Lib.hid (Blk.new w shot0 36)
  have hle : loadE s = 8 := by unfold loadE; rw [if_neg (by rw [hd]; simp), if_pos hh]
  have LD := Lib.hid (slotLoad (h.below hal) hl)
  have HLE := Lib.hid hle
  have HAL := Lib.hid hal
  clear h hal hle hh hd
  unfold shot0 at *
  go_enter Tryz.func77, Tryz.ntmps77
  go_wp2_with (go_at_call 141; refine LD.out.mono ?_)
  rintro e w1 ⟨A, c, rfl, ho, b1⟩
  rw [HLE.out]
  have hz := HZ.out.kept b1
  have HB := Lib.hid (belowTrans HAL.out b1)
  have HY := Lib.hid hz
  clear LD ho b1 HZ HAL hz
  go_wp2_with (first
    | (refine wpList_load_row rfl 36 (.tmp 4) rfl w.heap.size rfl 36 shot0 (0, 0) _ HY.out Tryz.underlying36 rfl shot_size ?_)
    | (refine wpList_store_row rfl 36 (.tmp 4) (.tmp 15) rfl w.heap.size shot0 rfl rfl _ _ HY.out shot_size rfl (by simp [Value.oneCell']) ?_))
  have Y := HY.out.setRow shot0
  have c0 := Y.cell 0 rfl
  have c1 := Y.cell 1 rfl
  have c2 := Y.cell 2 rfl
  have c3 := Y.cell 3 rfl
  have c4 := Y.cell 4 rfl
  refine bodyPost_ret (v := .tuple #[.agg shot0, .bool false]) (by simp [results, Tryz.results77, go_sem, c0, c1, c2, c3, c4]) rfl ⟨rfl, below_setRow HB.out (Nat.le_refl _) _⟩
abbrev entry0 : Array Value := #[.int .u64 0, .int .u64 0, .int .i64 0, .int .i64 0, .slice none 0 0]
set_option maxHeartbeats 4000000 in
theorem entryNo {q sc rc : Nat} {l : Lg} {Z : List (Sg × Pl)} {Y : List (List UInt8 × Option Addr × Nat)} {SA RA : Option Addr} {cs : Array Value} (hs : Blk w q 72 cs) (h11 : cs[11]? = some (.pointer (some ⟨p, 0, none⟩))) (h : LX B S F w p g l D Z Y SA sc RA rc) (i : Nat) (hi : i < 18446744073709551616) (hn : l.next < 9223372036854775808) (hr : ∀ r ∈ l.recs, r.length ≤ 100000)
    (k : Int) (hk : readW l i = ([], k)) (hk0 : k ≠ 0) :
    Calls Tryz.prog 80 #[.pointer (some ⟨q, 0, none⟩), .int .u64 (i : Int)] w fun e w' => e = .returned (.tuple #[.agg entry0, .int .i64 k]) ∧ Below w.heap.size w w' := by
  have hal : Below w.heap.size w (w.alloc (.cells entry0 44)) := (Below.refl _ _).alloc (Nat.le_refl _) _
  have HZ := Lib.hid (Blk.new w entry0 44)
  have c11 := (hs.kept hal).cell 11 h11
  have RD := walRead (h.below hal) i hi hn hr
  rw [hk] at RD
  have RDH := Lib.hid RD
  have HAL := Lib.hid hal
  have hkb : (k == 0) = false := by simpa using hk0
  clear h hal RD hr hs h11
  unfold entry0 at *
  go_enter Tryz.func80, Tryz.ntmps80
  go_wp2_with (go_at_call 144; refine RDH.out.mono ?_)
  rintro e w1 ⟨A, c, n, rfl, rfl, ho, b1⟩
  have hz := HZ.out.kept b1
  have HB := Lib.hid (belowTrans HAL.out b1)
  have HY := Lib.hid hz
  clear RDH ho b1 HZ HAL hz
  go_wp2_with (refine wpList_store_row rfl 44 (.tmp 4) (.tmp 19) rfl w.heap.size entry0 rfl rfl _ _ HY.out entry_size rfl (by simp [Value.oneCell']) ?_)
  have Y := HY.out.setRow entry0
  have c0 := Y.cell 0 rfl
  have c1 := Y.cell 1 rfl
  have c2 := Y.cell 2 rfl
  have c3 := Y.cell 3 rfl
  have c4 := Y.cell 4 rfl
  refine bodyPost_ret (v := .tuple #[.agg entry0, .int .i64 k]) (by simp [results, Tryz.results80, go_sem, c0, c1, c2, c3, c4]) rfl ⟨rfl, below_setRow HB.out (Nat.le_refl _) _⟩
end
end Go.Proofs.YtobdmlejabjmiaaGreatDoor

