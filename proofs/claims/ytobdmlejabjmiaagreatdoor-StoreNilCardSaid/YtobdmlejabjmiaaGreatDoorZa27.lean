/- Put together of: StoI, StoJ, StoK. -/
import Derived.Test.YtobdmlejabjmiaaGreatDoorZa26
/- Contract of a state's clone (of one without entries). -/
namespace Go.Proofs.YtobdmlejabjmiaaGreatDoor
open Go.RowKit
abbrev state0 : Array Value := #[.int .u64 0, .int .i64 0, .int .u64 0, .int .u64 0, .slice none 0 0, .slice none 0 0, .slice none 0 0, .slice none 0 0]
section
variable {w w' : World}
set_option maxRecDepth 20000 in
set_option maxHeartbeats 8000000 in
theorem stateClone (ht : Nat) (hvt : Int) (i t : Nat) (v l : List Int) (d : List UInt8) (V : Option Addr) (vc : Nat) (L : Option Addr) (lc : Nat) (D : Option Addr) (dc : Nat) (w : World) (hv : RV w V (ncells .i64 v)) (hl : RV w L (ncells .i64 l)) (hd : RB w D d)
    (hn : v.length ≤ 1000000) (hm : l.length ≤ 1000000) (hdl : d.length ≤ 1000000) :
    Calls Tryz.prog 33 #[.agg (stateC ht hvt i t v l d V vc L lc D dc)] w fun e w' => ∃ A ac B bc C cc, e = .returned (.agg (stateC ht hvt i t v l d A ac B bc C cc)) ∧ OV w' w.heap.size 3 A ac (ncells .i64 v) ∧ OV w' w.heap.size 3 B bc (ncells .i64 l) ∧ OB w' w.heap.size C cc d ∧ Below w.heap.size w w' := by
  have hal : Below w.heap.size w ((w.alloc (.cells (stateC ht hvt i t v l d V vc L lc D dc) 38)).alloc (.cells state0 38)) := ((Below.refl _ _).alloc (Nat.le_refl _) _).alloc (by simp) _
  have hZ := (Blk.new w (stateC ht hvt i t v l d V vc L lc D dc) 38).below (((Below.refl (w.heap.size + 1) _).alloc (by simp) (.cells state0 38))) (Nat.lt_succ_self _)
  have hZ2 := Blk.new (w.alloc (.cells (stateC ht hvt i t v l d V vc L lc D dc) 38)) state0 38
  have hws : (w.alloc (.cells (stateC ht hvt i t v l d V vc L lc D dc) 38)).heap.size = w.heap.size + 1 := by simp
  have hws2 : ((w.alloc (.cells (stateC ht hvt i t v l d V vc L lc D dc) 38)).alloc (.cells state0 38)).heap.size = w.heap.size + 2 := by simp
  rw [hws] at hZ2
  have CB := cloneB D dc d _ (hd.below hal) (by omega)
  have H0 := Lib.hid (And.intro hal (And.intro hZ (And.intro hZ2 (And.intro hv hl))))
  have c6 := hZ.cell 6 rfl
  have HWS := Lib.hid hws2
  have CBH := Lib.hid CB
  clear hal hZ hZ2 hws hws2 hv hl hd CB
  unfold stateC state0 at *
  go_enter Tryz.func33, Tryz.ntmps33
  go_wp2_with (go_at_call 82; refine CBH.out.mono ?_)
  rintro e w1 ⟨k, C, cc, hk, hk1, hk2, rfl, o3, b1⟩
  obtain ⟨hal, hZ, hZ2, hv, hl⟩ := H0.out
  rw [HWS.out] at o3
  have hkd : k = d := hk.out
  have y1 := hZ.kept b1
  have y2 := hZ2.kept b1
  have hb1 := belowTrans hal b1
  have Y1 : Hid (Blk (w1.setCell ⟨w.heap.size, 6, none⟩ (.slice C k.length cc)) w.heap.size 38 #[.int .u64 (ht : Int), .int .i64 hvt, .int .u64 (i : Int), .int .u64 (t : Int), .slice V v.length vc, .slice L l.length lc, .slice C k.length cc, .slice none 0 0]) := Lib.hid (y1.setCell 6 (.slice C k.length cc))
  have Y2 := Lib.hid (y2.setCell_other (a := ⟨w.heap.size, 6, none⟩) (.slice C k.length cc) (by simp))
  have O3 := Lib.hid (o3.setCell (a := ⟨w.heap.size, 6, none⟩) (by simp) (.slice C k.length cc))
  have HB := Lib.hid (hb1.setCell (p := ⟨w.heap.size, 6, none⟩) (Nat.le_refl _) (.slice C k.length cc))
  have d6 := y1.cell 6 rfl
  have f6 := y1.free 6
  have HVL := Lib.hid (And.intro hv hl)
  have HKD := Lib.hid hkd
  clear H0 CBH HWS c6 hal hZ hZ2 hv hl y1 y2 hb1 b1 o3 hk hkd
  go_wp2_with fail
  obtain ⟨w2, hw2⟩ : ∃ w2, w2 = w1.setCell ⟨w.heap.size, 6, none⟩ (.slice C k.length cc) := ⟨_, rfl⟩
  rw [← hw2] at Y1 Y2 O3 HB ⊢
  clear hw2 d6 f6
  refine wp_region_planP_gen (by kernel_rfl) (.pure 0 (.pure 1 (.pure 2 (.pure 3 (.pure 5 (.pure 6 (.pure 7 (.pure 8 (.eff (4) [3] (.eff (9) [8] (.pure 10 (.pure 11 (.pure 12 (.eff (13) [0, 1, 2, 3, 5, 6, 7, 8, 10, 12] (.fin []))))))))))))))) (by kernel_rfl) (by kernel_rfl) (by decide) ?_
  intro wq hwq
  have hbd : Below w2.heap.size w2 wq := by rw [hwq]; exact (Below.refl _ _).drew
  have HZ := Y1.out.kept hbd
  have HY := Y2.out.kept hbd
  have C4 := HZ.cell 4 (v := .slice V v.length vc) rfl
  have C5 := HZ.cell 5 (v := .slice L l.length lc) rfl
  have HBq := HB.out.trans (hbd.mono HB.out.size)
  have HV := HVL.out.1.below HBq
  have HL := HVL.out.2.below HBq
  have R0 := O3.out.below hbd
  clear hwq hbd Y1 Y2 HB O3
  refine pt_pure (v := ?_) rfl (by rfl) (fun w' => ?_) ?_; rotate_left; (focus (simp only [List.getElem_toArray, List.getElem_cons_succ, List.getElem_cons_zero]; go_simp; first | with_reducible rfl | (simp (disch := omega) only [if_pos, if_neg, dif_pos, Result.andThen_ok]; try with_reducible rfl) | skip)); try simp only [List.getElem_toArray, List.getElem_cons_succ, List.getElem_cons_zero, Act.put, List.setIfInBounds_toArray, List.set_cons_zero, List.set_cons_succ]
  refine pt_pure (v := ?_) rfl (by rfl) (fun w' => ?_) ?_; rotate_left; (focus (simp only [List.getElem_toArray, List.getElem_cons_succ, List.getElem_cons_zero]; go_simp; first | with_reducible rfl | (simp (disch := omega) only [if_pos, if_neg, dif_pos, Result.andThen_ok]; try with_reducible rfl) | skip)); try simp only [List.getElem_toArray, List.getElem_cons_succ, List.getElem_cons_zero, Act.put, List.setIfInBounds_toArray, List.set_cons_zero, List.set_cons_succ]
  refine pt_pure (v := ?_) rfl (by rfl) (fun w' => ?_) ?_; rotate_left; (focus (simp only [List.getElem_toArray, List.getElem_cons_succ, List.getElem_cons_zero]; go_simp; first | with_reducible rfl | (simp (disch := omega) only [if_pos, if_neg, dif_pos, Result.andThen_ok]; try with_reducible rfl) | skip)); try simp only [List.getElem_toArray, List.getElem_cons_succ, List.getElem_cons_zero, Act.put, List.setIfInBounds_toArray, List.set_cons_zero, List.set_cons_succ]
  refine pt_cells (v := ?_) [(⟨w.heap.size, 4, none⟩, .slice V v.length vc)] (by simp; and_intros <;> assumption) rfl (by rfl) (fun w' hw' => ?_) ?_; rotate_left; (focus (simp only [List.forall_mem_cons, List.not_mem_nil, false_imp_iff, implies_true, and_true] at hw'; simp only [List.getElem_toArray, List.getElem_cons_succ, List.getElem_cons_zero]; go_simp; first | with_reducible rfl | (simp (disch := omega) only [if_pos, if_neg, dif_pos, Result.andThen_ok]; try with_reducible rfl) | skip)); try simp only [List.getElem_toArray, List.getElem_cons_succ, List.getElem_cons_zero, Act.put, List.setIfInBounds_toArray, List.set_cons_zero, List.set_cons_succ]
  refine pt_pure (v := ?_) rfl (by rfl) (fun w' => ?_) ?_; rotate_left; (focus (simp only [List.getElem_toArray, List.getElem_cons_succ, List.getElem_cons_zero]; go_simp; first | with_reducible rfl | (simp (disch := omega) only [if_pos, if_neg, dif_pos, Result.andThen_ok]; try with_reducible rfl) | skip)); try simp only [List.getElem_toArray, List.getElem_cons_succ, List.getElem_cons_zero, Act.put, List.setIfInBounds_toArray, List.set_cons_zero, List.set_cons_succ]
  refine pt_pure (v := ?_) rfl (by rfl) (fun w' => ?_) ?_; rotate_left; (focus (simp only [List.getElem_toArray, List.getElem_cons_succ, List.getElem_cons_zero]; go_simp; first | with_reducible rfl | (simp (disch := omega) only [if_pos, if_neg, dif_pos, Result.andThen_ok]; try with_reducible rfl) | skip)); try simp only [List.getElem_toArray, List.getElem_cons_succ, List.getElem_cons_zero, Act.put, List.setIfInBounds_toArray, List.set_cons_zero, List.set_cons_succ]
  refine pt_pure (v := ?_) rfl (by rfl) (fun w' => ?_) ?_; rotate_left; (focus (simp only [List.getElem_toArray, List.getElem_cons_succ, List.getElem_cons_zero]; go_simp; first | with_reducible rfl | (simp (disch := omega) only [if_pos, if_neg, dif_pos, Result.andThen_ok]; try with_reducible rfl) | skip)); try simp only [List.getElem_toArray, List.getElem_cons_succ, List.getElem_cons_zero, Act.put, List.setIfInBounds_toArray, List.set_cons_zero, List.set_cons_succ]
  refine pt_cells (v := ?_) [(⟨w.heap.size, 5, none⟩, .slice L l.length lc)] (by simp; and_intros <;> assumption) rfl (by rfl) (fun w' hw' => ?_) ?_; rotate_left; (focus (simp only [List.forall_mem_cons, List.not_mem_nil, false_imp_iff, implies_true, and_true] at hw'; simp only [List.getElem_toArray, List.getElem_cons_succ, List.getElem_cons_zero]; go_simp; first | with_reducible rfl | (simp (disch := omega) only [if_pos, if_neg, dif_pos, Result.andThen_ok]; try with_reducible rfl) | skip)); try simp only [List.getElem_toArray, List.getElem_cons_succ, List.getElem_cons_zero, Act.put, List.setIfInBounds_toArray, List.set_cons_zero, List.set_cons_succ]
  refine pt_eff rfl (by rfl) (fun K hK => ?_)
  go_simp
  refine (cloneI V vc v wq HV (by omega)).mono ?_
  rintro e wv1 ⟨A3, c3, rfl, R3n, hb⟩
  have hlt := HY.lt
  replace C4 := (hb.cell (p := ⟨w.heap.size, 4, none⟩) (by simp only; omega)).trans C4
  replace C5 := (hb.cell (p := ⟨w.heap.size, 5, none⟩) (by simp only; omega)).trans C5
  replace HZ := HZ.kept hb
  replace HL := HL.below hb
  replace HV := HV.below hb
  replace R0 := R0.below hb
  try replace R7 := R7.below hb
  replace HBq := HBq.trans (hb.mono HBq.size)
  have R3 := R3n.base_le (show w.heap.size + 2 ≤ _ by omega)
  replace HY := HY.kept hb
  clear R3n hb hlt
  refine hK _ _ (by first | (simp <;> (and_intros <;> first | trivial | assumption)) | (simp [owed] <;> (and_intros <;> first | trivial | assumption)) | (simp [owed, left] <;> (and_intros <;> first | trivial | assumption))) ?_
  clear hK K
  try simp only [List.getElem_toArray, List.getElem_cons_succ, List.getElem_cons_zero, Act.put, List.setIfInBounds_toArray, List.set_cons_zero, List.set_cons_succ]
  refine pt_eff rfl (by rfl) (fun K hK => ?_)
  go_simp
  refine (cloneI L lc l wv1 HL (by omega)).mono ?_
  rintro e wv2 ⟨A7, c7, rfl, R7n, hb⟩
  have hlt := HY.lt
  replace C4 := (hb.cell (p := ⟨w.heap.size, 4, none⟩) (by simp only; omega)).trans C4
  replace C5 := (hb.cell (p := ⟨w.heap.size, 5, none⟩) (by simp only; omega)).trans C5
  replace HZ := HZ.kept hb
  replace HL := HL.below hb
  replace HV := HV.below hb
  replace R0 := R0.below hb
  try replace R3 := R3.below hb
  replace HBq := HBq.trans (hb.mono HBq.size)
  have R7 := R7n.base_le (show w.heap.size + 2 ≤ _ by omega)
  replace HY := HY.kept hb
  clear R7n hb hlt
  refine hK _ _ (by first | (simp <;> (and_intros <;> first | trivial | assumption)) | (simp [owed] <;> (and_intros <;> first | trivial | assumption)) | (simp [owed, left] <;> (and_intros <;> first | trivial | assumption))) ?_
  clear hK K
  try simp only [List.getElem_toArray, List.getElem_cons_succ, List.getElem_cons_zero, Act.put, List.setIfInBounds_toArray, List.set_cons_zero, List.set_cons_succ]
  refine pt_pure (v := ?_) rfl (by rfl) (fun w' => ?_) ?_; rotate_left; (focus (simp only [List.getElem_toArray, List.getElem_cons_succ, List.getElem_cons_zero]; go_simp; first | with_reducible rfl | (simp (disch := omega) only [if_pos, if_neg, dif_pos, Result.andThen_ok]; try with_reducible rfl) | skip)); try simp only [List.getElem_toArray, List.getElem_cons_succ, List.getElem_cons_zero, Act.put, List.setIfInBounds_toArray, List.set_cons_zero, List.set_cons_succ]
  refine pt_pure (v := ?_) rfl (by rfl) (fun w' => ?_) ?_; rotate_left; (focus (simp only [List.getElem_toArray, List.getElem_cons_succ, List.getElem_cons_zero]; go_simp; first | with_reducible rfl | (simp (disch := omega) only [if_pos, if_neg, dif_pos, Result.andThen_ok]; try with_reducible rfl) | skip)); try simp only [List.getElem_toArray, List.getElem_cons_succ, List.getElem_cons_zero, Act.put, List.setIfInBounds_toArray, List.set_cons_zero, List.set_cons_succ]
  refine pt_pure (v := ?_) rfl (by rfl) (fun w' => ?_) ?_; rotate_left; (focus (simp only [List.getElem_toArray, List.getElem_cons_succ, List.getElem_cons_zero]; go_simp; first | with_reducible rfl | (simp (disch := omega) only [if_pos, if_neg, dif_pos, Result.andThen_ok]; try with_reducible rfl) | skip)); try simp only [List.getElem_toArray, List.getElem_cons_succ, List.getElem_cons_zero, Act.put, List.setIfInBounds_toArray, List.set_cons_zero, List.set_cons_succ]
  refine pt_eff rfl (by rfl) (fun K hK => ?_)
  refine wp_store_mid 33 _ _ rfl w.heap.size 4 #[.slice A3 v.length c3, .slice A7 l.length c7] rfl rfl (there_blk HZ 4 2 (by simp)) conf_size (by simp [Value.oneCell']) ?_
  have HZn : Blk (wv2.setCells w.heap.size 4 [.slice A3 v.length c3, .slice A7 l.length c7]) w.heap.size 38 #[.int .u64 (ht : Int), .int .i64 hvt, .int .u64 (i : Int), .int .u64 (t : Int), .slice A3 v.length c3, .slice A7 l.length c7, .slice C k.length cc, .slice none 0 0] := blk_setCells2 HZ 4 (.slice A3 v.length c3) (.slice A7 l.length c7)
  have HYn := blk_setCells2_other HY (k := w.heap.size) (by omega) 4 (.slice A3 v.length c3) (.slice A7 l.length c7)
  have O1 := ov_setCells2 R3 (k := w.heap.size) (by omega) 4 (.slice A3 v.length c3) (.slice A7 l.length c7)
  have O2 := ov_setCells2 R7 (k := w.heap.size) (by omega) 4 (.slice A3 v.length c3) (.slice A7 l.length c7)
  have O0 : OB (wv2.setCells w.heap.size 4 [.slice A3 v.length c3, .slice A7 l.length c7]) (w.heap.size + 2) C cc k := (R0.setCell (a := ⟨w.heap.size, 4, none⟩) (by simp) (.slice A3 v.length c3)).setCell (a := ⟨w.heap.size, 4 + 1, none⟩) (by simp) (.slice A7 l.length c7)
  have HBn := below_setCells2 HBq (Nat.le_refl _) 4 (.slice A3 v.length c3) (.slice A7 l.length c7)
  simp only [List.toList_toArray]
  obtain ⟨w5, hw5⟩ : ∃ w5, w5 = wv2.setCells w.heap.size 4 [.slice A3 v.length c3, .slice A7 l.length c7] := ⟨_, rfl⟩
  rw [← hw5] at HZn HYn O1 O2 O0 HBn ⊢
  clear hw5 R3 R7 R0 HZ HY HBq HV HL C4 C5
  refine hK _ _ (by first | (simp <;> (and_intros <;> first | trivial | assumption)) | (simp [owed] <;> (and_intros <;> first | trivial | assumption)) | (simp [owed, left] <;> (and_intros <;> first | trivial | assumption))) ?_
  clear hK K
  try simp only [List.getElem_toArray, List.getElem_cons_succ, List.getElem_cons_zero, Act.put, List.setIfInBounds_toArray, List.set_cons_zero, List.set_cons_succ]
  refine pt_fin (planE_end ?_)
  have z7 := HZn.cell 7 (v := .slice none 0 0) rfl
  have f7 := HZn.free 7
  have HH := Lib.hid (And.intro HZn (And.intro HYn (And.intro O1 (And.intro O2 (And.intro O0 HBn)))))
  clear HZn HYn O1 O2 O0 HBn HVL
  go_wp2_with fail
  go_loopw [3, 28] (fun s3 s28 wr => s3 = .slice none 0 0 ∧ s28 = .int .i64 0 ∧ wr = w5) (fun _ _ _ => 0)
  case atStart => exact ⟨rfl, rfl, rfl⟩
  case round =>
    obtain ⟨rfl, rfl, rfl⟩ := hrel
    obtain ⟨HZn, HYn, O1, O2, O0, HBn⟩ := HH.out
    have HZ8 : Hid (Blk (wr.setCell ⟨w.heap.size, 7, none⟩ (.slice none 0 0)) w.heap.size 38 #[.int .u64 (ht : Int), .int .i64 hvt, .int .u64 (i : Int), .int .u64 (t : Int), .slice A3 v.length c3, .slice A7 l.length c7, .slice C k.length cc, .slice none 0 0]) := Lib.hid (HZn.setCell 7 (.slice none 0 0))
    have HY8 := Lib.hid (HYn.setCell_other (a := ⟨w.heap.size, 7, none⟩) (.slice none 0 0) (by simp))
    clear HZn HYn O1 O2 O0 HBn
    go_wp2_with (first
      | (refine wpList_load_row rfl 38 (.tmp 1) rfl w.heap.size rfl 38 #[.int .u64 (ht : Int), .int .i64 hvt, .int .u64 (i : Int), .int .u64 (t : Int), .slice A3 v.length c3, .slice A7 l.length c7, .slice C k.length cc, .slice none 0 0] (0, 0) _ HZ8.out Tryz.underlying38 rfl state_size ?_)
      | (refine wpList_store_row rfl 38 (.tmp 2) (.tmp 43) rfl (w.heap.size + 1) #[.int .u64 (ht : Int), .int .i64 hvt, .int .u64 (i : Int), .int .u64 (t : Int), .slice A3 v.length c3, .slice A7 l.length c7, .slice C k.length cc, .slice none 0 0] rfl rfl _ _ HY8.out state_size rfl (by simp [Value.oneCell']) ?_))
    have Y9 := HY8.out.setRow #[.int .u64 (ht : Int), .int .i64 hvt, .int .u64 (i : Int), .int .u64 (t : Int), .slice A3 v.length c3, .slice A7 l.length c7, .slice C k.length cc, .slice none 0 0]
    refine bodyPost_ret (v := .agg #[.int .u64 (ht : Int), .int .i64 hvt, .int .u64 (i : Int), .int .u64 (t : Int), .slice A3 v.length c3, .slice A7 l.length c7, .slice C k.length cc, .slice none 0 0]) (results_cell_row rfl _ _ (w.heap.size + 1) 38 #[.int .u64 (ht : Int), .int .i64 hvt, .int .u64 (i : Int), .int .u64 (t : Int), .slice A3 v.length c3, .slice A7 l.length c7, .slice C k.length cc, .slice none 0 0] (0, 0) _ rfl Y9 Tryz.underlying38 rfl state_size) rfl ?_
    obtain ⟨_, _, O1, O2, O0, HBn⟩ := HH.out
    have Z1 := ownsRow_setRow (k := w.heap.size + 1) (ov_setCell O1 (a := ⟨w.heap.size, 7, none⟩) (by simp) (.slice none 0 0)) (fun e => by have := (O1.own_lt _ e).1; omega) #[.int .u64 (ht : Int), .int .i64 hvt, .int .u64 (i : Int), .int .u64 (t : Int), .slice A3 v.length c3, .slice A7 l.length c7, .slice C k.length cc, .slice none 0 0]
    have Z2 := ownsRow_setRow (k := w.heap.size + 1) (ov_setCell O2 (a := ⟨w.heap.size, 7, none⟩) (by simp) (.slice none 0 0)) (fun e => by have := (O2.own_lt _ e).1; omega) #[.int .u64 (ht : Int), .int .i64 hvt, .int .u64 (i : Int), .int .u64 (t : Int), .slice A3 v.length c3, .slice A7 l.length c7, .slice C k.length cc, .slice none 0 0]
    have Z3 := (O0.setCell (a := ⟨w.heap.size, 7, none⟩) (by simp) (.slice none 0 0)).setRow (k := w.heap.size + 1) (fun e => by have := (O0.own_lt (w.heap.size + 1) (by rw [own_blk]; exact e)).1; omega) #[.int .u64 (ht : Int), .int .i64 hvt, .int .u64 (i : Int), .int .u64 (t : Int), .slice A3 v.length c3, .slice A7 l.length c7, .slice C k.length cc, .slice none 0 0]
    have Z4 := below_setRow (g := w.heap.size + 1) (HBn.setCell (p := ⟨w.heap.size, 7, none⟩) (Nat.le_refl _) (.slice none 0 0)) (by omega) #[.int .u64 (ht : Int), .int .i64 hvt, .int .u64 (i : Int), .int .u64 (t : Int), .slice A3 v.length c3, .slice A7 l.length c7, .slice C k.length cc, .slice none 0 0]
    have hkd := HKD.out
    subst hkd
    exact ⟨A3, c3, A7, c7, C, cc, rfl, OV.base_le Z1 (by omega), OV.base_le Z2 (by omega), Z3.base_le (by omega), Z4⟩
end
end Go.Proofs.YtobdmlejabjmiaaGreatDoor


/- Contract of a store's load on a new disk. -/
namespace Go.Proofs.YtobdmlejabjmiaaGreatDoor
open Go.RowKit
theorem walName_okN {n : Nat} (hn : n < 18446744073709551616) : nameOk (walName 1 n) = true := by
  have h1 : Lib.decDigits 1 = [49] := by rw [Lib.decDigits]; simp
  have h2 := dec_le20 hn
  unfold nameOk walName
  rw [h1, Bool.and_eq_true, decide_eq_true_eq, List.all_eq_true]
  refine ⟨by simp only [List.length_append, List.length_cons, List.length_nil]; omega, fun c hc => ?_⟩
  simp only [List.mem_append, List.mem_cons, List.not_mem_nil, or_false] at hc
  rcases hc with hc | hc
  · rcases hc with ((hc | hc) | hc) | hc
    all_goals (subst hc; decide)
  · exact set_of_range (.inr (dec_range n c hc))
theorem reset1 (n : Nat) (h1 : 1 ≤ n) (h2 : n < 18446744073709551616) : (resetW lg1 (dsk1 9000) n).1 = 0 := by
  have hn := walName_okN h2
  have hne : walName 1 n ≠ walName 0 1 := by
    intro e
    have h0 : Lib.decDigits 1 = [49] := by rw [Lib.decDigits]; simp
    rw [walName_01] at e
    unfold walName at e
    rw [h0] at e
    simp at e
  have hn0 : nameOk (walName 0 1) = true := by rw [walName_01]; decide
  obtain ⟨f, hf⟩ : ∃ f, f = walName 1 n := ⟨_, rfl⟩
  obtain ⟨f0, hf0⟩ : ∃ f0, f0 = walName 0 1 := ⟨_, rfl⟩
  have hp : putW (dsk1 9000) f 0 [] = (0, ⟨[(f0, [])], [⟨1, f, 0, []⟩], 9000, 0, false⟩) := by
    rw [← hf] at hn
    unfold putW changeD
    have hr : refuseD (dsk1 9000) ⟨1, f, 0, []⟩ ((0 : Nat) : Int) = 0 := by
      unfold refuseD
      simp [dsk1, DSt.files, hn, fget, afterN, fsize]
    rw [if_neg (by rw [hr]; simp)]
    simp [burnD, dsk1, hf0]
  unfold resetW
  rw [if_neg (by simp [lg1]), if_neg (by omega), show lg1.era + 1 = 1 from rfl, ← hf, hp]
  simp only
  rw [if_neg (by simp)]
  have hs : syncW lg1 ⟨[(f0, [])], [⟨1, f, 0, []⟩], 9000, 0, false⟩ = (0, lg1.fell 0, ⟨fset [(f0, [])] f [], [], 9000, 0, false⟩) := by
    unfold syncW
    rw [if_neg (by simp [lg1])]
    rw [sync_idle rfl rfl]
    simp [DSt.files, doF, putD_new, fget, hf0, hf, hne.symm]
  rw [hs]
  simp only
  rw [if_neg (by simp)]
  have hsegs : lg1.segs.map Sg.name = [f0] := by rw [hf0]; rfl
  rw [hsegs]
  unfold removeW
  have hrm : rmD ⟨fset [(f0, [])] f [], [], 9000, 0, false⟩ f0 = (0, ⟨fset [(f0, [])] f [], [⟨3, f0, 0, []⟩], 9000, 0, false⟩) := by
    rw [rm_idle rfl rfl (by rw [hf0]; exact hn0)]
    rfl
  rw [hrm, if_neg (by simp)]
  unfold removeW syncW
  rw [if_neg (by simp [Lg.fell, lg1]), sync_idle rfl rfl]
theorem SR.keepq {B p g cv co q : Nat} {S : Nat → Prop} {w w' : World} {s : Sl} {D : DSt} {V O : Option Addr} {cs : Array Value} (h : SR B S w p g s D V cv O co) (m : Mods (· = q) w w') (hq : Blk w q 72 cs) (hS : ¬ S q) : SR B S w' p g s D V cv O co :=
  ⟨h.blk.mods m (fun e => h.blk.ne hq (by decide) e), h.di.mods m (fun b _ hs e => hS (by rw [← e]; exact hs)), h.val.mods m (fun k hk e => h.val.ne_blk hq (by decide) (by rw [hk, e])), h.old.mods m (fun k hk e => h.old.ne_blk hq (by decide) (by rw [hk, e])), h.ge, h.sge, h.ps, h.vs, h.os, h.bl, h.on⟩
/-- A store's cells. -/
abbrev storeC (g ph ps pl : Nat) (i t : Nat) (v l : List Int) (d : List UInt8) (V : Option Addr) (vc : Nat) (L : Option Addr) (lc : Nat) (D : Option Addr) (dc : Nat) : Array Value :=
  #[.pointer (some ⟨g, 0, none⟩), .int .u64 0, .int .i64 0, .int .u64 (i : Int), .int .u64 (t : Int), .slice V v.length vc, .slice L l.length lc, .slice D d.length dc, .slice none 0 0, .pointer (some ⟨ph, 0, none⟩), .pointer (some ⟨ps, 0, none⟩), .pointer (some ⟨pl, 0, none⟩), .bool false]
/-- What load ends in. -/
def LoadDone (S F : Nat → Prop) (w : World) (q g ph ps pl : Nat) (i t : Nat) (v l : List Int) (d : List UInt8) (e : Ending) (w' : World) : Prop :=
  ∃ A ac B bc C cc, e = .returned (.int .i64 0) ∧ Blk w' q 72 (storeC g ph ps pl i t v l d A ac B bc C cc) ∧ OV w' w.heap.size 3 A ac (ncells .i64 v) ∧ OV w' w.heap.size 3 B bc (ncells .i64 l) ∧ OB w' w.heap.size C cc d ∧
    Mods (fun b => b = q ∨ (i ≠ 0 ∧ (S b ∨ F b))) w w'
section
variable {B p g q ph ps pl sc rc cv co cv' co' : Nat} {S F : Nat → Prop} {w w' : World} {s s' : Sl} {D : DSt} {V' O' V2 O2 : Option Addr} {Z : List (Sg × Pl)} {Y : List (List UInt8 × Option Addr × Nat)} {SA RA : Option Addr}
theorem field_shot (a b c d e f g h : Value) (w : World) : (Instr.field 38 (.agg #[a, b, c, d, e, f, g, h]) 1).run Tryz.prog w = .ok (.agg #[c, d, e, f, g]) w := by kernel_rfl
theorem field_hard (a b c d e f g h : Value) (w : World) : (Instr.field 38 (.agg #[a, b, c, d, e, f, g, h]) 0).run Tryz.prog w = .ok (.agg #[a, b]) w := by kernel_rfl
set_option maxRecDepth 20000 in
set_option maxHeartbeats 8000000 in
theorem storeLoad (i t : Nat) (v l : List Int) (d : List UInt8) (V : Option Addr) (vc : Nat) (L : Option Addr) (lc : Nat) (Dd : Option Addr) (dc : Nat)
    (hq : Blk w q 72 (storeC g ph ps pl 0 0 [] [] [] none 0 none 0 none 0)) (hh : SR B S w ph g s (dsk1 9000) V' cv O' co) (hs : SR B S w ps g s' (dsk1 9000) V2 cv' O2 co') (hl : LX B S F w pl g lg1 (dsk1 9000) Z Y SA sc RA rc)
    (h1 : s.has = false ∧ s.down = false ∧ s.value.length ≤ 100000) (h2 : s'.has = false ∧ s'.down = false ∧ s'.value.length ≤ 100000) (hqS : ¬ S q) (hqF : ¬ F q) (hB : B ≤ w.heap.size) (hE : SEnv B w) (hBq : B ≤ q)
    (hv : RV w V (ncells .i64 v)) (hl2 : RV w L (ncells .i64 l)) (hd : RB w Dd d) (hVq : 0 < v.length → ∀ b, V.map (·.block) = some b → b ≠ q) (hLq : 0 < l.length → ∀ b, L.map (·.block) = some b → b ≠ q) (hDq : 0 < d.length → ∀ b, Dd.map (·.block) = some b → b ≠ q) (hn : v.length ≤ 1000000) (hm : l.length ≤ 1000000) (hdl : d.length ≤ 1000000) (hi : i ≤ 4611686018427387904) :
    Calls Tryz.prog 32 #[.pointer (some ⟨q, 0, none⟩), .agg (shotC i t v l d V vc L lc Dd dc)] w (LoadDone S F w q g ph ps pl i t v l d) := by
  have hal : Below w.heap.size w (w.alloc (.cells (shotC i t v l d V vc L lc Dd dc) 36)) := (Below.refl _ _).alloc (Nat.le_refl _) _
  have hqlt := hq.lt
  have NN := Lib.hid (Blk.new w (shotC i t v l d V vc L lc Dd dc) 36)
  have Q0 := Lib.hid (hq.kept hal)
  have VH := Lib.hid (valueHard0 (hh.below hal) h1.1 h1.2.1 h1.2.2 (.func (.func 76) #[] #[]))
  have HHs := Lib.hid hs
  have HHl := Lib.hid hl
  have H2 := Lib.hid h2
  have HAL := Lib.hid hal
  have c9 := Q0.out.cell 9 rfl
  have HSQ := Lib.hid (And.intro hqS hqF)
  have HVQ := Lib.hid (And.intro hv (And.intro hl2 (And.intro hd (And.intro hVq (And.intro hLq hDq)))))
  have HEN := Lib.hid hE
  have HQ := Lib.hid hq
  clear hq hh hs hl h1 h2 hal hqS hqF hv hl2 hd hVq hLq hDq hE
  unfold shotC at *
  go_enter Tryz.func32, Tryz.ntmps32
  go_wp2_with fail
  refine VH.out.mono ?_
  rintro e w1 ⟨rfl, b1⟩
  have Q1 := Q0.out.kept b1
  have hb1 := belowTrans HAL.out b1
  have TH := Lib.hid (there_blk Q1 1 2 (by simp))
  have Q2 : Hid (Blk (w1.setCells q 1 [.int .u64 0, .int .i64 0]) q 72 (storeC g ph ps pl 0 0 [] [] [] none 0 none 0 none 0)) := Lib.hid (blk_setCells2 Q1 1 (.int .u64 0) (.int .i64 0))
  have M2 := Lib.hid (((Mods.of_below (S := (· = q)) hb1).setCell ⟨q, 1, none⟩ (.inl rfl) (.int .u64 0)).setCell ⟨q, 1 + 1, none⟩ (.inl rfl) (.int .i64 0))
  have N2 := Lib.hid (blk_setCells2_other (NN.out.kept b1) (k := q) (by omega) 1 (.int .u64 0) (.int .i64 0))
  obtain ⟨w2, hw2⟩ : ∃ w2, w2 = w1.setCells q 1 [.int .u64 0, .int .i64 0] := ⟨_, rfl⟩
  rw [show (w1.setCell ⟨q, 1, none⟩ (.int .u64 0)).setCell ⟨q, 1 + 1, none⟩ (.int .i64 0) = w1.setCells q 1 [.int .u64 0, .int .i64 0] from rfl] at M2
  rw [← hw2] at Q2 M2 N2
  have HW2 := Lib.hid hw2.symm
  have VS := Lib.hid (valueShot0 (HHs.out.keepq M2.out HQ.out HSQ.out.1) H2.out.1 H2.out.2.1 H2.out.2.2 (.func (.func 78) #[] #[]))
  have d10 := Q2.out.cell 10 rfl
  clear VH b1 Q1 hb1 Q0 c9 hw2 NN HAL
  go_wp2_with (first
    | (refine wpList_store_mid rfl 25 (.tmp 25) (.tmp 21) rfl q 1 #[.int .u64 0, .int .i64 0] rfl rfl TH.out hard_size (by simp [Value.oneCell']) ?_; simp only [List.toList_toArray]; rw [HW2.out])
    | (go_at_call 77; refine VS.out.mono ?_))
  first | rintro e w3 rfl b3 | rintro e w3 ⟨rfl, b3⟩
  obtain ⟨n5, hn5⟩ : ∃ n5, n5 = w3.heap.size := ⟨_, rfl⟩
  have hb4 : Below w3.heap.size w3 (w3.alloc (.cells shot0 36)) := (Below.refl _ _).alloc (Nat.le_refl _) _
  have B5 := Blk.new w3 shot0 36
  have M3 := M2.out.below b3
  have hw3 := M3.size
  have N4 := (N2.out.kept b3).kept hb4
  have Q4 := (Q2.out.kept b3).kept hb4
  have M4 := (M3.below hb4).setRow w3.heap.size (.inr hw3) shot0
  have N4' := N4.setRow_other (k := w3.heap.size) shot0 (by have := N4.lt; have := (N2.out.kept b3).lt; omega)
  have Q4' := Q4.setRow_other (k := w3.heap.size) shot0 (by omega)
  have B5' := B5.setRow shot0
  obtain ⟨w4, hw4⟩ : ∃ w4, w4 = (w3.alloc (.cells shot0 36)).setRow w3.heap.size shot0 := ⟨_, rfl⟩
  rw [← hw4] at N4' Q4' M4 B5'
  rw [← hn5] at B5'
  have HW4 := Lib.hid hw4.symm
  have BN5 := Lib.hid B5
  have hVw := HVQ.out
  have CL := Lib.hid (stateClone 0 0 i t v l d V vc L lc Dd dc w4 (rv_mods hVw.1 M4 (fun h0 b hb => hVw.2.2.2.1 (by rw [ncells_length] at h0; exact h0) b hb)) (rv_mods hVw.2.1 M4 (fun h0 b hb => hVw.2.2.2.2.1 (by rw [ncells_length] at h0; exact h0) b hb)) (hVw.2.2.1.mods M4 (fun h0 b hb => hVw.2.2.2.2.2 h0 b hb)) hn hm hdl)
  have N5 := Lib.hid N4'
  have Q5 := Lib.hid Q4'
  have R5 := Lib.hid B5'
  have M5 := Lib.hid M4
  have HN5 := Lib.hid hn5
  have hn5w : w.heap.size ≤ n5 := by omega
  have hn5lt : n5 < w4.heap.size := B5'.lt
  clear VS d10 b3 Q2 M2 N2 HW2 TH hb4 B5 M3 N4 Q4 M4 N4' Q4' B5' hw4 hVw HVQ hn5 hw3
  go_wp2_with (first
    | (refine wpList_store_row rfl 36 (.tmp 5) (.tmp 32) rfl w3.heap.size shot0 rfl rfl _ _ BN5.out shot_size rfl (by simp [Value.oneCell']) ?_; rw [HW4.out, ← HN5.out])
    | (refine wpList_load_row rfl 36 (.tmp 3) rfl w.heap.size rfl 36 (shotC i t v l d V vc L lc Dd dc) (0, 0) _ N5.out Tryz.underlying36 rfl shot_size ?_))
  refine CL.out.mono ?_
  rintro e w5 ⟨A, ac, Bb, bc, C, cc, rfl, o1, o2, o3, b5⟩
  unfold stateC
  have X6 := (R5.out.kept b5).setRow (shotC i t v l d A ac Bb bc C cc)
  have Q6 := (Q5.out.kept b5).setRow_other (k := n5) (shotC i t v l d A ac Bb bc C cc) (by omega)
  have M6 := (M5.out.below b5).setRow n5 (.inr hn5w) (shotC i t v l d A ac Bb bc C cc)
  have P1 := ownsRow_setRow (k := n5) o1 (fun e => by have := (o1.own_lt _ e).1; omega) (shotC i t v l d A ac Bb bc C cc)
  have P2 := ownsRow_setRow (k := n5) o2 (fun e => by have := (o2.own_lt _ e).1; omega) (shotC i t v l d A ac Bb bc C cc)
  have P3 := o3.setRow (k := n5) (fun e => by have := (o3.own_lt n5 (by rw [own_blk]; exact e)).1; omega) (shotC i t v l d A ac Bb bc C cc)
  have BR5 := Lib.hid (R5.out.kept b5)
  obtain ⟨w6, hw6⟩ : ∃ w6, w6 = w5.setRow n5 (shotC i t v l d A ac Bb bc C cc) := ⟨_, rfl⟩
  rw [← hw6] at X6 Q6 M6 P1 P2 P3
  have HW6 := Lib.hid hw6.symm
  have TH7 := Lib.hid (there_blk Q6 3 5 (by simp))
  have Q7 : Blk (w6.setCells q 3 [.int .u64 (i : Int), .int .u64 (t : Int), .slice A v.length ac, .slice Bb l.length bc, .slice C d.length cc]) q 72 (storeC g ph ps pl i t v l d A ac Bb bc C cc) := ((((Q6.setCell 3 (.int .u64 (i : Int))).setCell 4 (.int .u64 (t : Int))).setCell 5 (.slice A v.length ac)).setCell 6 (.slice Bb l.length bc)).setCell 7 (.slice C d.length cc)
  have M7 : Mods (· = q) w (w6.setCells q 3 [.int .u64 (i : Int), .int .u64 (t : Int), .slice A v.length ac, .slice Bb l.length bc, .slice C d.length cc]) := ((((M6.setCell ⟨q, 3, none⟩ (.inl rfl) (.int .u64 (i : Int))).setCell ⟨q, 4, none⟩ (.inl rfl) (.int .u64 (t : Int))).setCell ⟨q, 5, none⟩ (.inl rfl) (.slice A v.length ac)).setCell ⟨q, 6, none⟩ (.inl rfl) (.slice Bb l.length bc)).setCell ⟨q, 7, none⟩ (.inl rfl) (.slice C d.length cc)
  have X7 : Blk (w6.setCells q 3 [.int .u64 (i : Int), .int .u64 (t : Int), .slice A v.length ac, .slice Bb l.length bc, .slice C d.length cc]) n5 36 (shotC i t v l d A ac Bb bc C cc) := ((((X6.setCell_other (a := ⟨q, 3, none⟩) (.int .u64 (i : Int)) (by simp only; omega)).setCell_other (a := ⟨q, 4, none⟩) (.int .u64 (t : Int)) (by simp only; omega)).setCell_other (a := ⟨q, 5, none⟩) (.slice A v.length ac) (by simp only; omega)).setCell_other (a := ⟨q, 6, none⟩) (.slice Bb l.length bc) (by simp only; omega)).setCell_other (a := ⟨q, 7, none⟩) (.slice C d.length cc) (by simp only; omega)
  have hqb : q < w4.heap.size := by omega
  have P1' : OV (w6.setCells q 3 [.int .u64 (i : Int), .int .u64 (t : Int), .slice A v.length ac, .slice Bb l.length bc, .slice C d.length cc]) w4.heap.size 3 A ac (ncells .i64 v) := ov_setCell (ov_setCell (ov_setCell (ov_setCell (ov_setCell P1 (a := ⟨q, 3, none⟩) hqb _) (a := ⟨q, 4, none⟩) hqb _) (a := ⟨q, 5, none⟩) hqb _) (a := ⟨q, 6, none⟩) hqb _) (a := ⟨q, 7, none⟩) hqb _
  have P2' : OV (w6.setCells q 3 [.int .u64 (i : Int), .int .u64 (t : Int), .slice A v.length ac, .slice Bb l.length bc, .slice C d.length cc]) w4.heap.size 3 Bb bc (ncells .i64 l) := ov_setCell (ov_setCell (ov_setCell (ov_setCell (ov_setCell P2 (a := ⟨q, 3, none⟩) hqb _) (a := ⟨q, 4, none⟩) hqb _) (a := ⟨q, 5, none⟩) hqb _) (a := ⟨q, 6, none⟩) hqb _) (a := ⟨q, 7, none⟩) hqb _
  have P3' : OB (w6.setCells q 3 [.int .u64 (i : Int), .int .u64 (t : Int), .slice A v.length ac, .slice Bb l.length bc, .slice C d.length cc]) w4.heap.size C cc d := ((((P3.setCell (a := ⟨q, 3, none⟩) hqb _).setCell (a := ⟨q, 4, none⟩) hqb _).setCell (a := ⟨q, 5, none⟩) hqb _).setCell (a := ⟨q, 6, none⟩) hqb _).setCell (a := ⟨q, 7, none⟩) hqb _
  obtain ⟨w7, hw7⟩ : ∃ w7, w7 = w6.setCells q 3 [.int .u64 (i : Int), .int .u64 (t : Int), .slice A v.length ac, .slice Bb l.length bc, .slice C d.length cc] := ⟨_, rfl⟩
  rw [← hw7] at Q7 M7 X7 P1' P2' P3'
  have HW7 := Lib.hid hw7.symm
  have hsz4 := M5.out.size
  have e0 := X7.cell 0 rfl
  have e11 := Q7.cell 11 rfl
  have L7 := HHl.out.mods M7 (fun b hb e => HSQ.out.2 (by rw [← e]; exact hb)) (HHl.out.lb.di.mods M7 (fun b _ hs e => HSQ.out.1 (by rw [← e]; exact hs))) (fun b hb => .inl hb) hB
  have FI := Lib.hid (walFirst L7.blk 1 rfl)
  have X8 := Lib.hid X7
  have X6h := Lib.hid X6
  have H7 := Lib.hid (And.intro Q7 (And.intro M7 (And.intro P1' (And.intro P2' P3'))))
  have LH := Lib.hid L7
  have hfd := field_shot (.int .u64 0) (.int .i64 0) (.int .u64 (i : Int)) (.int .u64 (t : Int)) (.slice A v.length ac) (.slice Bb l.length bc) (.slice C d.length cc) (.slice none 0 0) w5
  clear CL o1 o2 o3 b5 X6 Q6 M6 P1 P2 P3 hw6 Q7 M7 X7 P1' P2' P3' hw7 L7 N5 Q5 R5 M5 HW4 HN5 BN5
  go_wp2_with (first
    | (refine wpList_store_row rfl 36 (.tmp 5) (.tmp 39) rfl n5 (shotC i t v l d A ac Bb bc C cc) rfl rfl _ _ BR5.out shot_size rfl (by simp [Value.oneCell']) ?_; rw [HW6.out])
    | (refine wpList_load_row rfl 36 (.tmp 5) rfl n5 rfl 36 (shotC i t v l d A ac Bb bc C cc) (0, 0) _ X6h.out Tryz.underlying36 rfl shot_size ?_)
    | (refine wpList_store_mid rfl 36 (.tmp 44) (.tmp 41) rfl q 3 #[.int .u64 (i : Int), .int .u64 (t : Int), .slice A v.length ac, .slice Bb l.length bc, .slice C d.length cc] rfl rfl TH7.out shot_size (by simp [Value.oneCell']) ?_; simp only [List.toList_toArray]; rw [HW7.out]))
  refine FI.out.mono ?_
  rintro e w8 ⟨rfl, rfl⟩
  by_cases h0 : i = 0
  · have hwi : IntKind.u64.wrap ((i : Int) + 1) = 1 := by rw [h0]; rfl
    have NX := Lib.hid (walNext LH.out.blk 1 0 rc RA rfl rfl (by decide))
    rw [show (((1 + 0 : Nat)) : Int) = 1 from rfl] at NX
    have H0 := Lib.hid h0
    clear h0 FI
    go_wp2_with fail
    go_loopw [11] (fun s11 wr => s11 = .int .u64 1 ∧ wr = w7) (fun _ _ => 0)
    case atStart => exact ⟨by rfl, rfl⟩
    case round =>
      obtain ⟨rfl, rfl⟩ := hrel
      go_wp2_with fail
      refine NX.out.mono ?_
      rintro e w9 ⟨rfl, m, rfl⟩
      go_wp2_with fail
      go_ret
      obtain ⟨Q7, M7, P1, P2, P3⟩ := H7.out
      exact ⟨A, ac, Bb, bc, C, cc, rfl, Q7.drewN m, OV.base_le (P1.below (bdN (Below.refl _ _) m)) hsz4, OV.base_le (P2.below (bdN (Below.refl _ _) m)) hsz4, (P3.drewN m).base_le hsz4, (M7.drewN m).mono (fun b _ e => .inl e)⟩
  · obtain ⟨n1, hn1⟩ : ∃ n1, n1 = i + 1 := ⟨_, rfl⟩
    have hwi : IntKind.u64.wrap ((i : Int) + 1) = (n1 : Int) := by
      rw [show IntKind.u64.wrap ((i : Int) + 1) = ((i : Int) + 1) % 18446744073709551616 from rfl]
      omega
    have hne : ((1 : Int) == (n1 : Int)) = false := beq_eq_false_iff_ne.2 (by omega)
    have hrd : readW lg1 i = ([], 8) := by
      unfold readW
      rw [if_neg (by simp [lg1]), if_neg (by show ¬ i < 1; omega), if_pos (by show (1 + 0 : Nat) ≤ i; omega)]
    have EN := Lib.hid (entryNo H7.out.1 rfl LH.out i (by omega) (by decide) (by intro r hr; cases hr) 8 hrd (by decide))
    have H0 := Lib.hid h0
    clear h0 FI hrd
    go_wp2_with fail
    refine EN.out.mono ?_
    rintro e w9 ⟨rfl, b9⟩
    have hb10 : Below w9.heap.size w9 (w9.alloc (.cells entry0 44)) := (Below.refl _ _).alloc (Nat.le_refl _) _
    have BN9 := Lib.hid (Blk.new w9 entry0 44)
    have hB10 := below_setRow (g := w9.heap.size) (b9.trans (hb10.mono b9.size)) b9.size entry0
    obtain ⟨w10, hw10⟩ : ∃ w10, w10 = (w9.alloc (.cells entry0 44)).setRow w9.heap.size entry0 := ⟨_, rfl⟩
    rw [← hw10] at hB10
    have HW10 := Lib.hid hw10.symm
    have Q10 := H7.out.1.kept hB10
    have g11 := Q10.cell 11 rfl
    have hM7 := H7.out.2.1
    have hE10 := HEN.out.below ((Mods.old (Below.refl B w) hM7 hB (fun i _ e => by subst e; exact hBq)).trans (hB10.mono (Nat.le_trans hB hM7.size)))
    have RS := walReset (LH.out.below hB10) (Nat.le_trans (Nat.le_trans hB hM7.size) hB10.size) hE10 n1 (by omega) (by decide) (fun s hs => by
      have : s = ⟨walName 0 1, 1, [0]⟩ := by simpa [lg1] using hs
      subst this
      show (walName 0 1).length ≤ 1000
      rw [walName_01]; decide) (by decide) (by decide)
    rw [reset1 n1 (by omega) (by omega), show ((n1 : Nat) : Int) = (i : Int) + 1 from by omega] at RS
    have RSH := Lib.hid RS
    have HB10 := Lib.hid hB10
    clear RS hE10 Q10 hB10 hb10 b9 hM7 hw10 EN
    go_wp2_with (refine wpList_store_row rfl 44 (.tmp 9) (.tmp 59) rfl w9.heap.size entry0 rfl rfl _ _ BN9.out entry_size rfl (by simp [Value.oneCell']) ?_; rw [HW10.out])
    refine RSH.out.mono ?_
    rintro e w11 ⟨rfl, S', F', hLR, hs', hf', m11⟩
    have HM := Lib.hid m11
    clear hLR hs' hf' m11 RSH g11 BN9 HW10
    go_wp2_with fail
    go_ret
    obtain ⟨Q7, M7, P1, P2, P3⟩ := H7.out
    have hno : ∀ k, w4.heap.size ≤ k → ¬ (S k ∨ F k) := fun k hk e => by
      rcases e with e | e
      · have := HHl.out.lb.di.bnd k e; omega
      · have := (HHl.out.lb.bnd k e).2; omega
    have hqn : ¬ (S q ∨ F q) := fun e => e.elim HSQ.out.1 HSQ.out.2
    have P1' := (P1.below HB10.out).mods HM.out (fun k hk => hno k ((P1.blk_lt k hk).1))
    have P2' := (P2.below HB10.out).mods HM.out (fun k hk => hno k ((P2.blk_lt k hk).1))
    have P3' := (P3.below HB10.out).mods HM.out (fun k hk => hno k ((P3.blk_in k hk).1))
    exact ⟨A, ac, Bb, bc, C, cc, rfl, (Q7.kept HB10.out).mods HM.out hqn, OV.base_le P1' hsz4, OV.base_le P2' hsz4, P3'.base_le hsz4, ((M7.below HB10.out).mono (T := fun b => b = q ∨ (i ≠ 0 ∧ (S b ∨ F b))) (fun b _ e => .inl e)).trans HM.out (fun b hb => .inl (.inr ⟨H0.out, hb⟩))⟩
end
end Go.Proofs.YtobdmlejabjmiaaGreatDoor


/- Contract of a store's Open on a new disk. -/
namespace Go.Proofs.YtobdmlejabjmiaaGreatDoor
open Go.RowKit
/-- What Open holds on to. -/
structure OA (S : Nat → Prop) (i t : Nat) (v l : List Int) (d : List UInt8) (V : Option Addr) (vc : Nat) (L : Option Addr) (lc : Nat) (D : Option Addr) (dc : Nat) (w wr : World) : Prop where
  n0 : Blk wr w.heap.size 36 (shotC i t v l d V vc L lc D dc)
  t5 : Blk wr (w.heap.size + 1) 38 state0
  rv : RV wr V (ncells .i64 v)
  rl : RV wr L (ncells .i64 l)
  rd : RB wr D d
  md : Mods S w wr
  sb : ∀ b, S b → b < w.heap.size
  vs : 0 < v.length → ∀ k, V.map (·.block) = some k → k < w.heap.size ∧ ¬ S k
  ls : 0 < l.length → ∀ k, L.map (·.block) = some k → k < w.heap.size ∧ ¬ S k
  ds : 0 < d.length → ∀ k, D.map (·.block) = some k → k < w.heap.size ∧ ¬ S k
theorem OA.step {S T : Nat → Prop} {i t : Nat} {v l : List Int} {d : List UInt8} {V : Option Addr} {vc : Nat} {L : Option Addr} {lc : Nat} {D : Option Addr} {dc : Nat} {w wr wr' : World} (h : OA S i t v l d V vc L lc D dc w wr) (m : Mods T wr wr') (hT : ∀ b, T b → S b ∨ w.heap.size + 2 ≤ b) : OA S i t v l d V vc L lc D dc w wr' where
  n0 := h.n0.mods m (fun e => (hT _ e).elim (fun e => by have := h.sb _ e; omega) (fun e => by omega))
  t5 := h.t5.mods m (fun e => (hT _ e).elim (fun e => by have := h.sb _ e; omega) (fun e => by omega))
  rv := rv_mods h.rv m (fun h0 k hk e => by
    have h1 := h.vs (by rw [ncells_length] at h0; exact h0) k hk
    exact (hT _ e).elim h1.2 (fun e => by omega))
  rl := rv_mods h.rl m (fun h0 k hk e => by
    have h1 := h.ls (by rw [ncells_length] at h0; exact h0) k hk
    exact (hT _ e).elim h1.2 (fun e => by omega))
  rd := h.rd.mods m (fun h0 k hk e => by
    have h1 := h.ds h0 k hk
    exact (hT _ e).elim h1.2 (fun e => by omega))
  md := h.md.trans m (fun b e => (hT b e).elim .inl (fun e => .inr (by omega)))
  sb := h.sb
  vs := h.vs
  ls := h.ls
  ds := h.ds
def nmHard : List UInt8 := [104, 97, 114, 100]
def nmShot : List UInt8 := [115, 104, 111, 116]
theorem base_hard : BaseOk nmHard := ⟨by decide, by decide⟩
theorem base_shot : BaseOk nmShot := ⟨by decide, by decide⟩
/-- What Open ends in where the first snapshot is sound. -/
def OpenYes (B : Nat) (S : Nat → Prop) (w : World) (g : Nat) (i t : Nat) (v l : List Int) (d : List UInt8) (e : Ending) (w' : World) : Prop :=
  ∃ (q ph ps pl nb : Nat) (A : Option Addr) (ac : Nat) (Bb : Option Addr) (bc : Nat) (C : Option Addr) (cc : Nat) (A' : Option Addr) (ac' : Nat) (B' : Option Addr) (bc' : Nat) (C' : Option Addr) (cc' : Nat), e = .returned (.tuple #[.pointer (some ⟨q, 0, none⟩), .agg (stateC 0 0 i t v l d A' ac' B' bc' C' cc'), .int .i64 0]) ∧ Blk w' q 72 (storeC g ph ps pl i t v l d A ac Bb bc C cc) ∧
    OV w' nb 3 A ac (ncells .i64 v) ∧ OV w' nb 3 Bb bc (ncells .i64 l) ∧ OB w' nb C cc d ∧ w.heap.size ≤ q ∧ q < nb ∧ Mods S w w' ∧
    (i = 0 → ∃ (S' : Nat → Prop) (V : Option Addr) (cv : Nat) (O : Option Addr) (co : Nat), SR B S' w' ph g (openS nmHard Sc.zero) (dsk1 9000) V cv O co ∧ (∀ b, S' b → S b ∨ w.heap.size ≤ b) ∧ ¬ S' q ∧ (∀ b, S' b → b < nb) ∧ ph < nb ∧ q ≠ ph)
section
variable {B g : Nat} {S : Nat → Prop} {w w' : World}
theorem rest0 : Rest (dsk0 9000) := ⟨rfl, rfl, rfl⟩
theorem openNew (b : List UInt8) : scanD b (dsk0 9000) = Sc.zero ∧ openD b (dsk0 9000) = (0, dsk0 9000) := open_others rest0 (fun p hp => by cases hp)
set_option maxRecDepth 20000 in
set_option maxHeartbeats 8000000 in
theorem storeOpenNo (i t : Nat) (v l : List Int) (d : List UInt8) (V : Option Addr) (vc : Nat) (L : Option Addr) (lc : Nat) (Dd : Option Addr) (dc : Nat)
    (hv : RV w V (ncells .i64 v)) (hl : RV w L (ncells .i64 l)) (hd : RB w Dd d) (hn : v.length ≤ 9223372036854775807) (hm : l.length ≤ 9223372036854775807) (hdl : d.length ≤ 9223372036854775807) (hi : i ≤ 18446744073709551615) (ht : t ≤ 18446744073709551615) (hr : shotB i t v l d.length = false) :
    Calls Tryz.prog 8 #[.pointer (some ⟨g, 0, none⟩), .agg (shotC i t v l d V vc L lc Dd dc)] w fun e w' => e = .returned (.tuple #[.pointer none, .agg state0, .int .i64 2]) ∧ Below w.heap.size w w' := by
  have hal : Below w.heap.size w ((w.alloc (.cells (shotC i t v l d V vc L lc Dd dc) 36)).alloc (.cells state0 38)) := ((Below.refl _ _).alloc (Nat.le_refl _) _).alloc (by simp) _
  have Z1 := Lib.hid ((Blk.new w (shotC i t v l d V vc L lc Dd dc) 36).below (((Below.refl (w.heap.size + 1) _).alloc (by simp) (.cells state0 38))) (Nat.lt_succ_self _))
  have hZ2 := Blk.new (w.alloc (.cells (shotC i t v l d V vc L lc Dd dc) 36)) state0 38
  have hws : (w.alloc (.cells (shotC i t v l d V vc L lc Dd dc) 36)).heap.size = w.heap.size + 1 := by simp
  rw [hws] at hZ2
  have Z2 := Lib.hid hZ2
  have MS := Lib.hid (msgShot i t v l d V vc L lc Dd dc _ (hv.below hal) (hl.below hal) (hd.below hal) hn hm hdl hi ht false hr)
  have HAL := Lib.hid hal
  clear hal hZ2 hws hv hl hd hr
  unfold shotC state0 at *
  go_enter Tryz.func8, Tryz.ntmps8
  go_wp2_with (refine wpList_load_row rfl 36 (.tmp 3) rfl w.heap.size rfl 36 (shotC i t v l d V vc L lc Dd dc) (0, 0) _ Z1.out Tryz.underlying36 rfl shot_size ?_)
  refine MS.out.mono ?_
  rintro e w1 ⟨A, n, c, k, rfl, b1, p1, p2⟩
  obtain rfl := p1 rfl
  have Y2 := Lib.hid (Z2.out.kept b1)
  have HB := Lib.hid (belowTrans HAL.out b1)
  clear MS b1 p1 p2 Z1 Z2 HAL
  go_wp2_with (refine wpList_store_row rfl 38 (.tmp 5) (.tmp 24) rfl (w.heap.size + 1) state0 rfl rfl _ _ Y2.out state_size rfl (by simp [Value.oneCell']) ?_)
  have Y := Y2.out.setRow state0
  have c0 := Y.cell 0 rfl
  have c1 := Y.cell 1 rfl
  have c2 := Y.cell 2 rfl
  have c3 := Y.cell 3 rfl
  have c4 := Y.cell 4 rfl
  have c5 := Y.cell 5 rfl
  have c6 := Y.cell 6 rfl
  have c7 := Y.cell 7 rfl
  refine bodyPost_ret (v := .tuple #[.pointer none, .agg state0, .int .i64 2]) (by simp [results, Tryz.results8, go_sem, c0, c1, c2, c3, c4, c5, c6, c7]) rfl ⟨rfl, below_setRow (g := w.heap.size + 1) HB.out (by omega) _⟩
theorem storeOpenNil (i t : Nat) (v l : List Int) (d : List UInt8) (V : Option Addr) (vc : Nat) (L : Option Addr) (lc : Nat) (Dd : Option Addr) (dc : Nat) :
    Calls Tryz.prog 8 #[.pointer none, .agg (shotC i t v l d V vc L lc Dd dc)] w fun e w' => e = .returned (.tuple #[.pointer none, .agg state0, .int .i64 1]) ∧ Below w.heap.size w w' := by
  have hal : Below w.heap.size w ((w.alloc (.cells (shotC i t v l d V vc L lc Dd dc) 36)).alloc (.cells state0 38)) := ((Below.refl _ _).alloc (Nat.le_refl _) _).alloc (by simp) _
  have hZ2 := Blk.new (w.alloc (.cells (shotC i t v l d V vc L lc Dd dc) 36)) state0 38
  have hws : (w.alloc (.cells (shotC i t v l d V vc L lc Dd dc) 36)).heap.size = w.heap.size + 1 := by simp
  rw [hws] at hZ2
  have Z2 := Lib.hid hZ2
  have HB := Lib.hid hal
  clear hal hZ2 hws
  unfold shotC state0 at *
  go_enter Tryz.func8, Tryz.ntmps8
  go_wp2_with (refine wpList_store_row rfl 38 (.tmp 5) (.tmp 16) rfl (w.heap.size + 1) state0 rfl rfl _ _ Z2.out state_size rfl (by simp [Value.oneCell']) ?_)
  have Y := Z2.out.setRow state0
  have c0 := Y.cell 0 rfl
  have c1 := Y.cell 1 rfl
  have c2 := Y.cell 2 rfl
  have c3 := Y.cell 3 rfl
  have c4 := Y.cell 4 rfl
  have c5 := Y.cell 5 rfl
  have c6 := Y.cell 6 rfl
  have c7 := Y.cell 7 rfl
  refine bodyPost_ret (v := .tuple #[.pointer none, .agg state0, .int .i64 1]) (by simp [results, Tryz.results8, go_sem, c0, c1, c2, c3, c4, c5, c6, c7]) rfl ⟨rfl, below_setRow (g := w.heap.size + 1) HB.out (by omega) _⟩
end
end Go.Proofs.YtobdmlejabjmiaaGreatDoor

