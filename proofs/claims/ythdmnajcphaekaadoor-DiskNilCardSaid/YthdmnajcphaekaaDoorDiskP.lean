/- Contract of package disk's Copy. -/
import Derived.Test.YthdmnajcphaekaaDoorDiskO
namespace Go.Proofs.YthdmnajcphaekaaDoor
open Go.RowKit

section
variable {S : Nat → Prop} {w w' : World} {g mf ms : Nat} {A : Option Addr} {c : Nat} {D : DSt}
theorem UO.ui {n : Nat} {U : List (Wr × Option Addr × Nat)} {us : List Wr} (h : UO n w A c U) (hv : U.map Prod.fst = us) {T : Nat → Prop} (hT : ∀ b, n ≤ b → b < w.heap.size → T b) : UI T w A c us :=
  ⟨U, hv, h.row.mono (Nat.zero_le _), fun b hb => hT b (h.row.blk_lt b hb).1 (h.row.blk_lt b hb).2, fun p hp => ⟨(h.dat p hp).base_le (Nat.zero_le _), fun b hb => hT b ((h.dat p hp).blk_lt b hb).1 ((h.dat p hp).blk_lt b hb).2⟩⟩
set_option maxRecDepth 20000 in
set_option maxHeartbeats 8000000 in
theorem diskCopyC (h : DI S w g D) (hcnt : D.cnt ≤ 1000000) : Calls Tryd.prog 27 #[.pointer (some ⟨g, 0, none⟩)] w fun e w' => ∃ g2, e = .returned (.pointer (some ⟨g2, 0, none⟩)) ∧ DI (News w w') w' g2 D ∧ Below w.heap.size w w' := by
  obtain ⟨mf, ms, A, c, h⟩ := h
  have HR := Lib.hid h
  clear h
  go_enter Tryd.func27, Tryd.ntmps27
  go_wp2_with fail
  refine wp_region_planE_gen (by kernel_rfl) [(0, none), (1, none), (2, none), (3, none), (5, none), (6, none), (7, none), (8, none), (10, none), (12, none), (13, none), (14, none), (15, none), (16, none), (17, none), (18, none), (19, none), (20, none), (21, none), (22, none), (23, none), (4, some [3]), (9, some [8]), (11, some [10]), (24, none), (25, some [24]), (26, none)] (by kernel_rfl) (by kernel_rfl) (by decide) ?_
  intro wq hwq
  have hB1 : Below w.heap.size w wq := by rw [hwq]; exact (Below.refl _ _).drew
  have H1 := Lib.hid (HR.out.below hB1)
  have c0 := H1.out.blk.cell 0 rfl
  have c1 := H1.out.blk.cell 1 rfl
  have c3 := H1.out.blk.cell 3 rfl
  have c4 := H1.out.blk.cell 4 rfl
  have c5 := H1.out.blk.cell 5 rfl
  clear hwq
  iterate 3 (refine planE_pure (v := ?_) rfl (by rfl) (fun w' => ?_) ?_; rotate_left; (focus (simp only [List.getElem_toArray, List.getElem_cons_succ, List.getElem_cons_zero]; go_simp; first | with_reducible rfl | (simp (disch := omega) only [if_pos, if_neg, Result.andThen_ok]; try with_reducible rfl) | skip)); try simp only [List.getElem_toArray, List.getElem_cons_succ, List.getElem_cons_zero, Act.put, List.setIfInBounds_toArray, List.set_cons_zero, List.set_cons_succ])
  refine planE_cells (v := ?_) [(⟨g, 0, none⟩, .map (some mf))] (by simp; and_intros <;> assumption) rfl (by rfl) (fun w' hw' => ?_) ?_; rotate_left; (focus (simp only [List.forall_mem_cons, List.not_mem_nil, false_imp_iff, implies_true, and_true] at hw'; simp only [List.getElem_toArray, List.getElem_cons_succ, List.getElem_cons_zero]; go_simp; first | with_reducible rfl | (simp (disch := omega) only [if_pos, if_neg, Result.andThen_ok]; try with_reducible rfl) | skip)); try simp only [List.getElem_toArray, List.getElem_cons_succ, List.getElem_cons_zero, Act.put, List.setIfInBounds_toArray, List.set_cons_zero, List.set_cons_succ]
  iterate 3 (refine planE_pure (v := ?_) rfl (by rfl) (fun w' => ?_) ?_; rotate_left; (focus (simp only [List.getElem_toArray, List.getElem_cons_succ, List.getElem_cons_zero]; go_simp; first | with_reducible rfl | (simp (disch := omega) only [if_pos, if_neg, Result.andThen_ok]; try with_reducible rfl) | skip)); try simp only [List.getElem_toArray, List.getElem_cons_succ, List.getElem_cons_zero, Act.put, List.setIfInBounds_toArray, List.set_cons_zero, List.set_cons_succ])
  refine planE_cells (v := ?_) [(⟨g, 1, none⟩, .map (some ms))] (by simp; and_intros <;> assumption) rfl (by rfl) (fun w' hw' => ?_) ?_; rotate_left; (focus (simp only [List.forall_mem_cons, List.not_mem_nil, false_imp_iff, implies_true, and_true] at hw'; simp only [List.getElem_toArray, List.getElem_cons_succ, List.getElem_cons_zero]; go_simp; first | with_reducible rfl | (simp (disch := omega) only [if_pos, if_neg, Result.andThen_ok]; try with_reducible rfl) | skip)); try simp only [List.getElem_toArray, List.getElem_cons_succ, List.getElem_cons_zero, Act.put, List.setIfInBounds_toArray, List.set_cons_zero, List.set_cons_succ]
  iterate 4 (refine planE_pure (v := ?_) rfl (by rfl) (fun w' => ?_) ?_; rotate_left; (focus (simp only [List.getElem_toArray, List.getElem_cons_succ, List.getElem_cons_zero]; go_simp; first | with_reducible rfl | (simp (disch := omega) only [if_pos, if_neg, Result.andThen_ok]; try with_reducible rfl) | skip)); try simp only [List.getElem_toArray, List.getElem_cons_succ, List.getElem_cons_zero, Act.put, List.setIfInBounds_toArray, List.set_cons_zero, List.set_cons_succ])
  refine planE_cells (v := ?_) [(⟨g, 3, none⟩, .int .i64 D.room)] (by simp; and_intros <;> assumption) rfl (by rfl) (fun w' hw' => ?_) ?_; rotate_left; (focus (simp only [List.forall_mem_cons, List.not_mem_nil, false_imp_iff, implies_true, and_true] at hw'; simp only [List.getElem_toArray, List.getElem_cons_succ, List.getElem_cons_zero]; go_simp; first | with_reducible rfl | (simp (disch := omega) only [if_pos, if_neg, Result.andThen_ok]; try with_reducible rfl) | skip)); try simp only [List.getElem_toArray, List.getElem_cons_succ, List.getElem_cons_zero, Act.put, List.setIfInBounds_toArray, List.set_cons_zero, List.set_cons_succ]
  iterate 3 (refine planE_pure (v := ?_) rfl (by rfl) (fun w' => ?_) ?_; rotate_left; (focus (simp only [List.getElem_toArray, List.getElem_cons_succ, List.getElem_cons_zero]; go_simp; first | with_reducible rfl | (simp (disch := omega) only [if_pos, if_neg, Result.andThen_ok]; try with_reducible rfl) | skip)); try simp only [List.getElem_toArray, List.getElem_cons_succ, List.getElem_cons_zero, Act.put, List.setIfInBounds_toArray, List.set_cons_zero, List.set_cons_succ])
  refine planE_cells (v := ?_) [(⟨g, 4, none⟩, .int .i64 D.fuse)] (by simp; and_intros <;> assumption) rfl (by rfl) (fun w' hw' => ?_) ?_; rotate_left; (focus (simp only [List.forall_mem_cons, List.not_mem_nil, false_imp_iff, implies_true, and_true] at hw'; simp only [List.getElem_toArray, List.getElem_cons_succ, List.getElem_cons_zero]; go_simp; first | with_reducible rfl | (simp (disch := omega) only [if_pos, if_neg, Result.andThen_ok]; try with_reducible rfl) | skip)); try simp only [List.getElem_toArray, List.getElem_cons_succ, List.getElem_cons_zero, Act.put, List.setIfInBounds_toArray, List.set_cons_zero, List.set_cons_succ]
  iterate 3 (refine planE_pure (v := ?_) rfl (by rfl) (fun w' => ?_) ?_; rotate_left; (focus (simp only [List.getElem_toArray, List.getElem_cons_succ, List.getElem_cons_zero]; go_simp; first | with_reducible rfl | (simp (disch := omega) only [if_pos, if_neg, Result.andThen_ok]; try with_reducible rfl) | skip)); try simp only [List.getElem_toArray, List.getElem_cons_succ, List.getElem_cons_zero, Act.put, List.setIfInBounds_toArray, List.set_cons_zero, List.set_cons_succ])
  refine planE_cells (v := ?_) [(⟨g, 5, none⟩, .bool D.down)] (by simp; and_intros <;> assumption) rfl (by rfl) (fun w' hw' => ?_) ?_; rotate_left; (focus (simp only [List.forall_mem_cons, List.not_mem_nil, false_imp_iff, implies_true, and_true] at hw'; simp only [List.getElem_toArray, List.getElem_cons_succ, List.getElem_cons_zero]; go_simp; first | with_reducible rfl | (simp (disch := omega) only [if_pos, if_neg, Result.andThen_ok]; try with_reducible rfl) | skip)); try simp only [List.getElem_toArray, List.getElem_cons_succ, List.getElem_cons_zero, Act.put, List.setIfInBounds_toArray, List.set_cons_zero, List.set_cons_succ]
  refine planE_eff rfl (by rfl) (fun K hK => ?_)
  go_simp
  refine (diskClone wq H1.out.fi (fun k l hk => by have := H1.out.ok.files k l hk; omega)).mono ?_
  rintro e w2 ⟨rfl, hf2, hb2⟩
  have H2 := Lib.hid (H1.out.below hb2)
  have hB2 := hB1.trans (hb2.mono hB1.size)
  have HF2 := Lib.hid (hf2.mono (T := fun b => w.heap.size ≤ b) fun b _ hb => Nat.le_trans hB1.size hb.1)
  obtain ⟨m1, hm1⟩ : ∃ m1, m1 = wq.heap.size := ⟨_, rfl⟩
  rw [← hm1] at HF2 ⊢
  have hm1l : m1 < w2.heap.size := by obtain ⟨es, hm⟩ := HF2.out.at_; exact hm.lt
  clear hf2 hb2 H1 c0 c1 c3 c4 c5 hm1 hB1
  have c0 := H2.out.blk.cell 0 rfl
  have c1 := H2.out.blk.cell 1 rfl
  have c3 := H2.out.blk.cell 3 rfl
  have c4 := H2.out.blk.cell 4 rfl
  have c5 := H2.out.blk.cell 5 rfl
  refine hK _ _ (by simp [owed, left] <;> (and_intros <;> first | trivial | assumption)) ?_
  clear hK K
  try simp only [List.getElem_toArray, List.getElem_cons_succ, List.getElem_cons_zero, Act.put, List.setIfInBounds_toArray, List.set_cons_zero, List.set_cons_succ]
  refine planE_eff rfl (by rfl) (fun K hK => ?_)
  go_simp
  refine (diskClone w2 H2.out.si (fun k l hk => by have := H2.out.ok.2.2.1 k l hk; omega)).mono ?_
  rintro e w3 ⟨rfl, hf3, hb3⟩
  have H3 := Lib.hid (H2.out.below hb3)
  have hB3 := hB2.trans (hb3.mono hB2.size)
  have HF3 := Lib.hid (HF2.out.below hb3)
  have HS3 := Lib.hid (hf3.mono (T := fun b => w.heap.size ≤ b) fun b _ hb => Nat.le_trans hB2.size hb.1)
  obtain ⟨m2, hm2⟩ : ∃ m2, m2 = w2.heap.size := ⟨_, rfl⟩
  rw [← hm2] at HS3 hm1l ⊢
  clear hf3 hb3 H2 c0 c1 c3 c4 c5 hm2 hB2 HF2
  have c0 := H3.out.blk.cell 0 rfl
  have c1 := H3.out.blk.cell 1 rfl
  have c3 := H3.out.blk.cell 3 rfl
  have c4 := H3.out.blk.cell 4 rfl
  have c5 := H3.out.blk.cell 5 rfl
  refine hK _ _ (by simp [owed, left] <;> (and_intros <;> first | trivial | assumption)) ?_
  clear hK K
  try simp only [List.getElem_toArray, List.getElem_cons_succ, List.getElem_cons_zero, Act.put, List.setIfInBounds_toArray, List.set_cons_zero, List.set_cons_succ]
  refine planE_eff rfl (by rfl) (fun K hK => ?_)
  go_simp
  refine (diskUnsureC (S := S) (D := D) ⟨mf, ms, A, c, H3.out⟩ hcnt).mono ?_
  rintro e w4 ⟨A4, c4', U4, rfl, hv4, hu4, hb4⟩
  have H4 := Lib.hid (H3.out.below hb4)
  have hB4 := hB3.trans (hb4.mono hB3.size)
  have HF4 := Lib.hid (HF3.out.below hb4)
  have HS4 := Lib.hid (HS3.out.below hb4)
  have HU4 := Lib.hid (hu4.ui hv4.out (T := fun b => w.heap.size ≤ b) fun b hb _ => Nat.le_trans hB3.size hb)
  have HUL : Hid (U4.length = D.unsure.length) := Lib.hid (by rw [← hv4.out, List.length_map])
  rw [HUL.out]
  clear hv4 hu4 hb4 H3 c0 c1 c3 c4 c5 hB3 HF3 HS3 HUL
  have c0 := H4.out.blk.cell 0 rfl
  have c1 := H4.out.blk.cell 1 rfl
  have c3 := H4.out.blk.cell 3 rfl
  have c4 := H4.out.blk.cell 4 rfl
  have c5 := H4.out.blk.cell 5 rfl
  refine hK _ _ (by simp [owed, left] <;> (and_intros <;> first | trivial | assumption)) ?_
  clear hK K
  try simp only [List.getElem_toArray, List.getElem_cons_succ, List.getElem_cons_zero, Act.put, List.setIfInBounds_toArray, List.set_cons_zero, List.set_cons_succ]
  iterate 1 (refine planE_pure (v := ?_) rfl (by rfl) (fun w' => ?_) ?_; rotate_left; (focus (simp only [List.getElem_toArray, List.getElem_cons_succ, List.getElem_cons_zero]; go_simp; first | with_reducible rfl | (simp (disch := omega) only [if_pos, if_neg, Result.andThen_ok]; try with_reducible rfl) | skip)); try simp only [List.getElem_toArray, List.getElem_cons_succ, List.getElem_cons_zero, Act.put, List.setIfInBounds_toArray, List.set_cons_zero, List.set_cons_succ])
  refine planE_eff rfl (by rfl) (fun K hK => ?_)
  go_simp
  have hb5 : Below w4.heap.size w4 (w4.alloc (.cells #[.map (some m1), .map (some m2), .slice A4 D.unsure.length c4', .int .i64 D.room, .int .i64 D.fuse, .bool D.down] 69)) := (Below.refl _ _).alloc (Nat.le_refl _) _
  have HBK := Lib.hid (Blk.new w4 #[.map (some m1), .map (some m2), .slice A4 D.unsure.length c4', .int .i64 D.room, .int .i64 D.fuse, .bool D.down] 69)
  have hB5 := hB4.trans (hb5.mono hB4.size)
  have HF5 := Lib.hid (HF4.out.below hb5)
  have HS5 := Lib.hid (HS4.out.below hb5)
  have HU5 := Lib.hid (HU4.out.below hb5)
  have H5 := Lib.hid (H4.out.below hb5)
  have HOK := Lib.hid H4.out.ok
  obtain ⟨g2, hg2⟩ : ∃ g2, g2 = w4.heap.size := ⟨_, rfl⟩
  have hg2s : w.heap.size ≤ g2 := by rw [hg2]; exact hB4.size
  rw [← hg2] at HBK ⊢
  generalize w4.alloc (.cells #[.map (some m1), .map (some m2), .slice A4 D.unsure.length c4', .int .i64 D.room, .int .i64 D.fuse, .bool D.down] 69) = w5 at *
  clear hb5 H4 c0 c1 c3 c4 c5 hB4 HF4 HS4 HU4 hg2
  have c0 := H5.out.blk.cell 0 rfl
  have c1 := H5.out.blk.cell 1 rfl
  have c3 := H5.out.blk.cell 3 rfl
  have c4 := H5.out.blk.cell 4 rfl
  have c5 := H5.out.blk.cell 5 rfl
  refine hK _ _ (by simp [owed, left] <;> (and_intros <;> first | trivial | assumption)) ?_
  clear hK K
  try simp only [List.getElem_toArray, List.getElem_cons_succ, List.getElem_cons_zero, Act.put, List.setIfInBounds_toArray, List.set_cons_zero, List.set_cons_succ]
  iterate 1 (refine planE_pure (v := ?_) rfl (by rfl) (fun w' => ?_) ?_; rotate_left; (focus (simp only [List.getElem_toArray, List.getElem_cons_succ, List.getElem_cons_zero]; go_simp; first | with_reducible rfl | (simp (disch := omega) only [if_pos, if_neg, Result.andThen_ok]; try with_reducible rfl) | skip)); try simp only [List.getElem_toArray, List.getElem_cons_succ, List.getElem_cons_zero, Act.put, List.setIfInBounds_toArray, List.set_cons_zero, List.set_cons_succ])
  refine planE_end ?_
  have HF : Hid (∃ g', Ending.returned (.pointer (some ⟨g2, 0, none⟩)) = .returned (.pointer (some ⟨g', 0, none⟩)) ∧ DI (News w w5) w5 g' D ∧ Below w.heap.size w w5) := Lib.hid
    ⟨g2, rfl, ⟨m1, m2, A4, c4', HBK.out, HF5.out.mono fun b hb h => ⟨h, hb⟩, HS5.out.mono fun b hb h => ⟨h, hb⟩, by omega, HU5.out.mono fun b hb h => ⟨h, hb⟩, ⟨hg2s, HBK.out.lt⟩, HOK.out, fun b hb => hb.2⟩, hB5⟩
  clear HBK HF5 HS5 HU5 HOK H5 hB5 c0 c1 c3 c4 c5 HR
  go_wp2_with fail
  go_ret
  exact HF.out
end
end Go.Proofs.YthdmnajcphaekaaDoor
