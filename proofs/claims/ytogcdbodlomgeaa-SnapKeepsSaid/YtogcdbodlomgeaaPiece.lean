/- The law's 'piece': a piece of snap's of one of the reference's. -/
import Derived.Test.YtogcdbodlomgeaaSnapA
import Derived.Test.YtogcdbodlomgeaaOpApp
namespace Go.Proofs.Ytogcdbodlomgeaa
open Go.RowKit

set_option maxRecDepth 20000 in
set_option maxHeartbeats 2000000 in
theorem snapPiece (i t off : Int) (last : Bool) (D : Option Addr) (c : Nat) (d : List UInt8) (w : World) (hD : RB w D d) (hd : d.length ≤ 140737488355328) :
    Calls Try.prog 38 #[.agg #[.int .u64 i, .int .u64 t, .int .i64 off, .bool last, .slice D d.length c]] w fun e w' => ∃ (p : List UInt8) (P : Option Addr) (e' : Nat), Hid (p = d) ∧ p.length ≤ d.length ∧ d.length ≤ p.length ∧
      e = .returned (.agg #[.int .u64 i, .int .u64 t, .int .i64 off, .bool last, .slice P p.length e']) ∧ OB w' w.heap.size P e' p ∧ Below w.heap.size w w' := by
  have HD := Lib.hid hD
  clear hD
  go_enter Try.func38, Try.ntmps38
  go_wp2_with fail
  refine wp_region_planE_gen (by kernel_rfl) [(0, none), (1, none), (2, none), (3, none), (4, none), (5, none), (6, none), (7, none), (9, none), (10, none), (8, some []), (11, some [10]), (12, none), (13, some [])] (by kernel_rfl) (by kernel_rfl) (by decide) ?_
  intro wq hwq
  have hxq : Blk wq w.heap.size 29 #[.int .u64 i, .int .u64 t, .int .i64 off, .bool last, .slice D d.length c] := by
    rw [hwq]
    exact (Blk.new w #[.int .u64 i, .int .u64 t, .int .i64 off, .bool last, .slice D d.length c] 29).kept ((Below.refl _ _).alloc (Nat.le_refl _) (.cells #[.int .u64 0, .int .u64 0, .int .i64 0, .bool false, .slice none 0 0] 25)).drew
  have hrq : Blk wq (w.heap.size + 1) 25 #[.int .u64 0, .int .u64 0, .int .i64 0, .bool false, .slice none 0 0] := by
    rw [hwq]
    have := Blk.new (w.alloc (.cells #[.int .u64 i, .int .u64 t, .int .i64 off, .bool last, .slice D d.length c] 29)) #[.int .u64 0, .int .u64 0, .int .i64 0, .bool false, .slice none 0 0] 25
    rw [show (w.alloc (.cells #[.int .u64 i, .int .u64 t, .int .i64 off, .bool last, .slice D d.length c] 29)).heap.size = w.heap.size + 1 from by simp] at this
    exact this
  have hbq : Below w.heap.size w wq := by
    rw [hwq]
    have := ((Below.refl w.heap.size w).alloc (Nat.le_refl _) (.cells #[.int .u64 i, .int .u64 t, .int .i64 off, .bool last, .slice D d.length c] 29)).alloc (by simp) (.cells #[.int .u64 0, .int .u64 0, .int .i64 0, .bool false, .slice none 0 0] 25)
    exact this.drew
  have hDq := HD.out.below hbq
  clear hwq HD
  have c0 := hxq.cell 0 (v := .int .u64 i) rfl
  have c1 := hxq.cell 1 (v := .int .u64 t) rfl
  have c2 := hxq.cell 2 (v := .int .i64 off) rfl
  have c3 := hxq.cell 3 (v := .bool last) rfl
  have c4 := hxq.cell 4 (v := .slice D d.length c) rfl
  iterate 1 (refine planE_pure (v := ?_) rfl (by rfl) (fun w' => ?_) ?_; rotate_left; (focus (simp only [List.getElem_toArray, List.getElem_cons_succ, List.getElem_cons_zero]; go_simp; try with_reducible rfl)); try simp only [List.getElem_toArray, List.getElem_cons_succ, List.getElem_cons_zero, Act.put, List.setIfInBounds_toArray, List.set_cons_zero, List.set_cons_succ])
  refine planE_read (v := ?_) (fun w' => w'.cell? ⟨w.heap.size, 0, none⟩ = some (.int .u64 i)) rfl (by rfl) (fun w' hw' => ?_) c0 ?_; rotate_left; (focus (simp only [List.getElem_toArray, List.getElem_cons_succ, List.getElem_cons_zero]; go_simp; try with_reducible rfl)); try simp only [List.getElem_toArray, List.getElem_cons_succ, List.getElem_cons_zero, Act.put, List.setIfInBounds_toArray, List.set_cons_zero, List.set_cons_succ]
  iterate 1 (refine planE_pure (v := ?_) rfl (by rfl) (fun w' => ?_) ?_; rotate_left; (focus (simp only [List.getElem_toArray, List.getElem_cons_succ, List.getElem_cons_zero]; go_simp; try with_reducible rfl)); try simp only [List.getElem_toArray, List.getElem_cons_succ, List.getElem_cons_zero, Act.put, List.setIfInBounds_toArray, List.set_cons_zero, List.set_cons_succ])
  refine planE_read (v := ?_) (fun w' => w'.cell? ⟨w.heap.size, 1, none⟩ = some (.int .u64 t)) rfl (by rfl) (fun w' hw' => ?_) c1 ?_; rotate_left; (focus (simp only [List.getElem_toArray, List.getElem_cons_succ, List.getElem_cons_zero]; go_simp; try with_reducible rfl)); try simp only [List.getElem_toArray, List.getElem_cons_succ, List.getElem_cons_zero, Act.put, List.setIfInBounds_toArray, List.set_cons_zero, List.set_cons_succ]
  iterate 1 (refine planE_pure (v := ?_) rfl (by rfl) (fun w' => ?_) ?_; rotate_left; (focus (simp only [List.getElem_toArray, List.getElem_cons_succ, List.getElem_cons_zero]; go_simp; try with_reducible rfl)); try simp only [List.getElem_toArray, List.getElem_cons_succ, List.getElem_cons_zero, Act.put, List.setIfInBounds_toArray, List.set_cons_zero, List.set_cons_succ])
  refine planE_read (v := ?_) (fun w' => w'.cell? ⟨w.heap.size, 2, none⟩ = some (.int .i64 off)) rfl (by rfl) (fun w' hw' => ?_) c2 ?_; rotate_left; (focus (simp only [List.getElem_toArray, List.getElem_cons_succ, List.getElem_cons_zero]; go_simp; try with_reducible rfl)); try simp only [List.getElem_toArray, List.getElem_cons_succ, List.getElem_cons_zero, Act.put, List.setIfInBounds_toArray, List.set_cons_zero, List.set_cons_succ]
  iterate 1 (refine planE_pure (v := ?_) rfl (by rfl) (fun w' => ?_) ?_; rotate_left; (focus (simp only [List.getElem_toArray, List.getElem_cons_succ, List.getElem_cons_zero]; go_simp; try with_reducible rfl)); try simp only [List.getElem_toArray, List.getElem_cons_succ, List.getElem_cons_zero, Act.put, List.setIfInBounds_toArray, List.set_cons_zero, List.set_cons_succ])
  refine planE_read (v := ?_) (fun w' => w'.cell? ⟨w.heap.size, 3, none⟩ = some (.bool last)) rfl (by rfl) (fun w' hw' => ?_) c3 ?_; rotate_left; (focus (simp only [List.getElem_toArray, List.getElem_cons_succ, List.getElem_cons_zero]; go_simp; try with_reducible rfl)); try simp only [List.getElem_toArray, List.getElem_cons_succ, List.getElem_cons_zero, Act.put, List.setIfInBounds_toArray, List.set_cons_zero, List.set_cons_succ]
  iterate 1 (refine planE_pure (v := ?_) rfl (by rfl) (fun w' => ?_) ?_; rotate_left; (focus (simp only [List.getElem_toArray, List.getElem_cons_succ, List.getElem_cons_zero]; go_simp; try with_reducible rfl)); try simp only [List.getElem_toArray, List.getElem_cons_succ, List.getElem_cons_zero, Act.put, List.setIfInBounds_toArray, List.set_cons_zero, List.set_cons_succ])
  refine planE_read (v := ?_) (fun w' => w'.cell? ⟨w.heap.size, 4, none⟩ = some (.slice D d.length c)) rfl (by rfl) (fun w' hw' => ?_) c4 ?_; rotate_left; (focus (simp only [List.getElem_toArray, List.getElem_cons_succ, List.getElem_cons_zero]; go_simp; try with_reducible rfl)); try simp only [List.getElem_toArray, List.getElem_cons_succ, List.getElem_cons_zero, Act.put, List.setIfInBounds_toArray, List.set_cons_zero, List.set_cons_succ]
  refine planE_eff rfl (by rfl) (fun K hK => ?_)
  go_simp
  have hx6 := hxq.kept ((Below.refl _ _).alloc (Nat.le_refl _) (.cells #[] 5))
  have hr6 := hrq.kept ((Below.refl _ _).alloc (Nat.le_refl _) (.cells #[] 5))
  have hb6 := hbq.trans (((Below.refl _ _).alloc (Nat.le_refl _) (.cells #[] 5)).mono hbq.size)
  have hD6 := hDq.alloc (.cells #[] 5)
  have hO6 := OB.made0 wq (Nat.le_refl _)
  have hs6 : wq.heap.size ≤ (wq.alloc (.cells #[] 5)).heap.size := by simp
  have hrl := hrq.lt
  clear c0 c1 c2 c3 c4
  have c0 := hx6.cell 0 (v := .int .u64 i) rfl
  have c1 := hx6.cell 1 (v := .int .u64 t) rfl
  have c2 := hx6.cell 2 (v := .int .i64 off) rfl
  have c3 := hx6.cell 3 (v := .bool last) rfl
  have c4 := hx6.cell 4 (v := .slice D d.length c) rfl
  refine hK _ _ (by simp [owed, left]; exact ⟨c4, c3, c2, c1, c0⟩) ?_
  clear hK K
  try simp only [List.getElem_toArray, List.getElem_cons_succ, List.getElem_cons_zero, Act.put, List.setIfInBounds_toArray, List.set_cons_zero, List.set_cons_succ]
  generalize wq.alloc (.cells #[] 5) = w6 at *
  refine planE_eff rfl (by rfl) (fun K hK => ?_)
  refine op_appendB w6 (.tmp 11) (.tmp 13) (by rfl) wq.heap.size (some ⟨wq.heap.size, 0, none⟩) D 0 c [] d (by rfl) (by rfl) hO6 hD6 (by simp; omega) hs6 ?_
  intro p7 P7 c7 w7 hp7 hp71 hp72 ho7 hg7
  have hlo : ∀ k, (Value.slice (some ⟨wq.heap.size, 0, none⟩) ([] : List UInt8).length 0).ownBlock = some k → w.heap.size + 2 ≤ k := fun k hk => by simp [Value.ownBlock] at hk; omega
  have hx7 := hx6.grown hg7 (by intro e'; have := hlo _ e'; omega)
  have hr7 := hr6.grown hg7 (by intro e'; have := hlo _ e'; omega)
  have hb7 := hb6.grown hg7 hb6.size fun k hk => by have := hlo k hk; omega
  clear c0 c1 c2 c3 c4
  have c0 := hx7.cell 0 (v := .int .u64 i) rfl
  have c1 := hx7.cell 1 (v := .int .u64 t) rfl
  have c2 := hx7.cell 2 (v := .int .i64 off) rfl
  have c3 := hx7.cell 3 (v := .bool last) rfl
  refine hK _ _ (by simp [owed, left]; exact ⟨c3, c2, c1, c0⟩) ?_
  clear hK K
  try simp only [List.getElem_toArray, List.getElem_cons_succ, List.getElem_cons_zero, Act.put, List.setIfInBounds_toArray, List.set_cons_zero, List.set_cons_succ]
  iterate 1 (refine planE_pure (v := ?_) rfl (by rfl) (fun w' => ?_) ?_; rotate_left; (focus (simp only [List.getElem_toArray, List.getElem_cons_succ, List.getElem_cons_zero]; go_simp; try with_reducible rfl)); try simp only [List.getElem_toArray, List.getElem_cons_succ, List.getElem_cons_zero, Act.put, List.setIfInBounds_toArray, List.set_cons_zero, List.set_cons_succ])
  refine planE_eff rfl (by rfl) (fun K hK => ?_)
  refine wp_store_row 25 (.tmp 2) (.tmp 15) (by rfl) (w.heap.size + 1) #[.int .u64 i, .int .u64 t, .int .i64 off, .bool last, .slice P7 p7.length c7] (by rfl) (by rfl) _ _ hr7 piece_size rfl (by simp [Value.oneCell']) ?_
  have hx8 := hx7.setRow_other (k := w.heap.size + 1) #[.int .u64 i, .int .u64 t, .int .i64 off, .bool last, .slice P7 p7.length c7] (by omega)
  clear c0 c1 c2 c3
  have c0 := hx8.cell 0 (v := .int .u64 i) rfl
  have c1 := hx8.cell 1 (v := .int .u64 t) rfl
  have c2 := hx8.cell 2 (v := .int .i64 off) rfl
  have c3 := hx8.cell 3 (v := .bool last) rfl
  refine hK _ _ (by simp [owed, left]; exact ⟨c3, c2, c1, c0⟩) ?_
  clear hK K
  try simp only [List.getElem_toArray, List.getElem_cons_succ, List.getElem_cons_zero, Act.put, List.setIfInBounds_toArray, List.set_cons_zero, List.set_cons_succ]
  refine planE_end ?_
  have hr8 := hr7.setRow #[.int .u64 i, .int .u64 t, .int .i64 off, .bool last, .slice P7 p7.length c7]
  have ho8 := (ho7.base_le (base' := w.heap.size + 2) (by omega)).setRow (k := w.heap.size + 1) ((ho7.base_le (base' := w.heap.size + 2) (by omega)).blk_ne (by omega)) #[.int .u64 i, .int .u64 t, .int .i64 off, .bool last, .slice P7 p7.length c7]
  have hb8 := below_setRow hb7 (show w.heap.size ≤ w.heap.size + 1 by omega) #[.int .u64 i, .int .u64 t, .int .i64 off, .bool last, .slice P7 p7.length c7]
  have HP : Hid (p7 = d) := Lib.hid (by simpa using hp7.out)
  simp only [List.length_nil, Nat.zero_add] at hp71 hp72
  clear c0 c1 c2 c3 hp7 ho7 hb7 hr7 hx7 hg7 hlo hx8
  generalize w7.setRow (w.heap.size + 1) #[.int .u64 i, .int .u64 t, .int .i64 off, .bool last, .slice P7 p7.length c7] = w8 at *
  have c0 := hr8.cell 0 rfl
  have c1 := hr8.cell 1 rfl
  have c2 := hr8.cell 2 rfl
  have c3 := hr8.cell 3 rfl
  have c4 := hr8.cell 4 rfl
  go_wp2_with fail
  refine bodyPost_ret (v := .agg #[.int .u64 i, .int .u64 t, .int .i64 off, .bool last, .slice P7 p7.length c7]) (by simp [results, Try.results38, go_sem, c0, c1, c2, c3, c4]) rfl ⟨p7, P7, c7, HP, hp71, hp72, rfl, ho8.base_le (by omega), hb8⟩
end Go.Proofs.Ytogcdbodlomgeaa
