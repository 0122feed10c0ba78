/- Contracts of post's methods: Cut, Heal. -/
import Derived.Test.YtihmnkkhccihpaaPostB
namespace Go.Proofs.Ytihmnkkhccihpaa
open Go.RowKit

section
variable {g : Nat} {R : List Ltr} {A : Option Addr} {cap m : Nat} {es : List ((Int × Int) × Value)} {room : Int}

theorem PostR.setMap {w : World} (h : PostR w g R A cap m es room) (ob : Obj) {es' : List ((Int × Int) × Value)} (hm : MapAt linkV (wset w m ob) m es') (hy : ∀ p ∈ es', p.2 = .bool true) : PostR (wset w m ob) g R A cap m es' room := by
  have hb : ∀ k, k ≠ m → (wset w m ob).heap[k]? = w.heap[k]? := fun k hk => wset_other w m ob k hk
  refine ⟨?_, h.row.of_block fun b hb' => hb b fun e => ?_, fun r hr => ⟨(h.data r hr).1.of_block fun b hb' => hb b fun e => ?_, (h.data r hr).2⟩, hm, hy, h.fits⟩
  · unfold Blk
    rw [hb g h.map_ne_var.symm]
    exact h.blk
  · subst e
    exact h.map_ne_row hb'
  · subst e
    obtain ⟨cs, hc⟩ := (h.data r hr).1.blk b hb'
    exact h.map.ne_cells hc rfl

theorem mput_yes {k : Int × Int} (hy : ∀ p ∈ es, p.2 = .bool true) : ∀ p ∈ mput es k (.bool true), p.2 = .bool true := by
  intro p hp
  unfold mput at hp
  split at hp
  · obtain ⟨q, hq, rfl⟩ := List.mem_map.1 hp
    split
    · rfl
    · exact hy q hq
  · rcases List.mem_append.1 hp with hp | hp
    · exact hy p hp
    · rw [List.mem_singleton] at hp
      rw [hp]
theorem mdel_yes {k : Int × Int} (hy : ∀ p ∈ es, p.2 = .bool true) : ∀ p ∈ mdel es k, p.2 = .bool true := fun p hp => hy p (List.mem_filter.1 hp).1

set_option maxRecDepth 20000 in
set_option maxHeartbeats 1000000 in
theorem postSet_nil (f t : Int) (cut : Bool) (w : World) : Calls Try.prog 23 #[.pointer none, .agg #[.int .i64 f, .int .i64 t], .bool cut] w fun e w' => e = .returned (.int .i64 1) ∧ Below w.heap.size w w' := by
  have hb := (Below.refl w.heap.size w).alloc (Nat.le_refl _) (.cells #[.int .i64 f, .int .i64 t] 56)
  go_enter Try.func23, Try.ntmps23
  go_wp2_with fail
  go_ret
  exact ⟨rfl, hb⟩
set_option maxRecDepth 20000 in
set_option maxHeartbeats 1000000 in
theorem postSet_bad (f t : Int) (cut : Bool) (w : World) (hok : okB f t = false) : Calls Try.prog 23 #[.pointer (some ⟨g, 0, none⟩), .agg #[.int .i64 f, .int .i64 t], .bool cut] w fun e w' => e = .returned (.int .i64 1) ∧ Below w.heap.size w w' := by
  have hb := (Below.refl w.heap.size w).alloc (Nat.le_refl _) (.cells #[.int .i64 f, .int .i64 t] 56)
  go_enter Try.func23, Try.ntmps23
  go_wp2_with fail
  refine (postOk f t _).mono ?_
  rintro e w' ⟨rfl, hb2⟩
  rw [hok]
  have HB := Lib.hid (hb.trans (hb2.mono hb.size))
  clear hb hb2
  go_wp2_with fail
  go_ret
  exact ⟨rfl, HB.out⟩

/-- What Cut and Heal end in. -/
def SetE (g : Nat) (R : List Ltr) (A : Option Addr) (cap m : Nat) (es : List ((Int × Int) × Value)) (room : Int) (w : World) (e : Ending) (w' : World) : Prop :=
  e = .returned (.int .i64 0) ∧ PostR w' g R A cap m es room ∧ Mods (fun k => k = m) w w'

set_option maxRecDepth 20000 in
set_option maxHeartbeats 1000000 in
theorem postSet_cut (f t : Int) (w : World) (h : PostR w g R A cap m es room) (hok : okB f t = true) : Calls Try.prog 23 #[.pointer (some ⟨g, 0, none⟩), .agg #[.int .i64 f, .int .i64 t], .bool true] w (SetE g R A cap m (mput es (f, t) (.bool true)) room w) := by
  have hb := (Below.refl w.heap.size w).alloc (Nat.le_refl _) (.cells #[.int .i64 f, .int .i64 t] 56)
  have hL := Blk.new w #[.int .i64 f, .int .i64 t] 56
  obtain ⟨xb, hxb⟩ : ∃ xb, xb = w.heap.size := ⟨_, rfl⟩
  rw [← hxb] at hL
  have HXB := Lib.hid hxb
  have H := Lib.hid (h.below hb)
  clear h hxb
  go_enter Try.func23, Try.ntmps23
  go_wp2_with fail
  rw [← HXB.out]
  refine (postOk f t _).mono ?_
  rintro e w2 ⟨rfl, hb2⟩
  rw [hok]
  have h2 := H.out.below hb2
  have hL2 := hL.kept hb2
  have hB2 := hb.trans (hb2.mono hb.size)
  clear hb hb2 hL H
  go_wp2_with fail
  refine wp_region_planE_gen (by kernel_rfl) [(0, none), (1, none), (2, none), (3, none), (4, none), (5, some [0, 1, 2, 3, 4])] (by kernel_rfl) (by kernel_rfl) (by decide) ?_
  intro wq hwq
  have hb1q : Below w2.heap.size w2 wq := by rw [hwq]; exact (Below.refl _ _).drew
  have hq := h2.below hb1q
  have hXq := hL2.kept hb1q
  have hBq := hB2.trans (hb1q.mono hB2.size)
  have c1 := hq.blk.cell 1 rfl
  have x0 := hXq.cell 0 rfl
  have x1 := hXq.cell 1 rfl
  clear h2 hL2 hB2 hwq hb1q
  iterate 3 (refine planE_pure (v := ?_) rfl (by rfl) (fun w' => ?_) ?_; rotate_left; (focus (simp only [List.getElem_toArray, List.getElem_cons_succ, List.getElem_cons_zero]; go_simp; first | with_reducible rfl | (simp (disch := omega) only [if_pos, if_neg, Result.andThen_ok]; try with_reducible rfl) | skip)); try simp only [List.getElem_toArray, List.getElem_cons_succ, List.getElem_cons_zero, Act.put, List.setIfInBounds_toArray, List.set_cons_zero, List.set_cons_succ])
  refine planE_cells (v := ?_) [(⟨g, 1, none⟩, .map (some m))] (by simp; and_intros <;> assumption) rfl (by rfl) (fun w' hw' => ?_) ?_; rotate_left; (focus (simp only [List.forall_mem_cons, List.not_mem_nil, false_imp_iff, implies_true, and_true] at hw'; simp only [List.getElem_toArray, List.getElem_cons_succ, List.getElem_cons_zero]; go_simp; first | with_reducible rfl | (simp (disch := omega) only [if_pos, if_neg, Result.andThen_ok]; try with_reducible rfl) | skip)); try simp only [List.getElem_toArray, List.getElem_cons_succ, List.getElem_cons_zero, Act.put, List.setIfInBounds_toArray, List.set_cons_zero, List.set_cons_succ]
  refine planE_cells (v := ?_) [(⟨xb, 0, none⟩, .int .i64 f), (⟨xb, 1, none⟩, .int .i64 t)] (by simp; and_intros <;> assumption) rfl (by rfl) (fun w' hw' => ?_) ?_; rotate_left; (focus (simp only [List.forall_mem_cons, List.not_mem_nil, false_imp_iff, implies_true, and_true] at hw'; simp only [List.getElem_toArray, List.getElem_cons_succ, List.getElem_cons_zero]; go_simp; first | with_reducible rfl | (simp (disch := omega) only [if_pos, if_neg, Result.andThen_ok]; try with_reducible rfl) | skip)); try simp only [List.getElem_toArray, List.getElem_cons_succ, List.getElem_cons_zero, Act.put, List.setIfInBounds_toArray, List.set_cons_zero, List.set_cons_succ]
  refine planE_eff rfl (by rfl) (fun K hK => ?_)
  refine op_mapUpdate linkLaw hq.map (.tmp 18) (.tmp 19) (.const (.bool true)) (by rfl) Try.underlying51 (f, t) (.bool true) (by rfl) (by rfl) (by rfl) ?_
  intro ob hmap
  have hp := hq.setMap ob hmap (mput_yes hq.yes)
  have hm := (Mods.of_below (S := fun k => k = m) hBq).wset m (.inl rfl) ob
  refine hK _ _ (by simp [owed, left] <;> (and_intros <;> first | trivial | assumption)) ?_
  clear hK K
  try simp only [List.getElem_toArray, List.getElem_cons_succ, List.getElem_cons_zero, Act.put, List.setIfInBounds_toArray, List.set_cons_zero, List.set_cons_succ]
  refine planE_end ?_
  have HP := Lib.hid hp
  have HM := Lib.hid hm
  clear hp hm c1 x0 x1 hq hXq hBq hmap
  go_wp2_with fail
  go_ret
  exact ⟨rfl, HP.out, HM.out⟩

set_option maxRecDepth 20000 in
set_option maxHeartbeats 1000000 in
theorem postSet_heal (f t : Int) (w : World) (h : PostR w g R A cap m es room) (hok : okB f t = true) : Calls Try.prog 23 #[.pointer (some ⟨g, 0, none⟩), .agg #[.int .i64 f, .int .i64 t], .bool false] w (SetE g R A cap m (mdel es (f, t)) room w) := by
  have hb := (Below.refl w.heap.size w).alloc (Nat.le_refl _) (.cells #[.int .i64 f, .int .i64 t] 56)
  have hL := Blk.new w #[.int .i64 f, .int .i64 t] 56
  obtain ⟨xb, hxb⟩ : ∃ xb, xb = w.heap.size := ⟨_, rfl⟩
  rw [← hxb] at hL
  have HXB := Lib.hid hxb
  have H := Lib.hid (h.below hb)
  clear h hxb
  go_enter Try.func23, Try.ntmps23
  go_wp2_with fail
  rw [← HXB.out]
  refine (postOk f t _).mono ?_
  rintro e w2 ⟨rfl, hb2⟩
  rw [hok]
  have h2 := H.out.below hb2
  have hL2 := hL.kept hb2
  have hB2 := hb.trans (hb2.mono hb.size)
  clear hb hb2 hL H
  go_wp2_with fail
  refine wp_region_planE_gen (by kernel_rfl) [(0, none), (1, none), (2, none), (3, none), (4, none), (5, some [3, 4])] (by kernel_rfl) (by kernel_rfl) (by decide) ?_
  intro wq hwq
  have hb1q : Below w2.heap.size w2 wq := by rw [hwq]; exact (Below.refl _ _).drew
  have hq := h2.below hb1q
  have hXq := hL2.kept hb1q
  have hBq := hB2.trans (hb1q.mono hB2.size)
  have c1 := hq.blk.cell 1 rfl
  have x0 := hXq.cell 0 rfl
  have x1 := hXq.cell 1 rfl
  clear h2 hL2 hB2 hwq hb1q
  iterate 3 (refine planE_pure (v := ?_) rfl (by rfl) (fun w' => ?_) ?_; rotate_left; (focus (simp only [List.getElem_toArray, List.getElem_cons_succ, List.getElem_cons_zero]; go_simp; first | with_reducible rfl | (simp (disch := omega) only [if_pos, if_neg, Result.andThen_ok]; try with_reducible rfl) | skip)); try simp only [List.getElem_toArray, List.getElem_cons_succ, List.getElem_cons_zero, Act.put, List.setIfInBounds_toArray, List.set_cons_zero, List.set_cons_succ])
  refine planE_cells (v := ?_) [(⟨g, 1, none⟩, .map (some m))] (by simp; and_intros <;> assumption) rfl (by rfl) (fun w' hw' => ?_) ?_; rotate_left; (focus (simp only [List.forall_mem_cons, List.not_mem_nil, false_imp_iff, implies_true, and_true] at hw'; simp only [List.getElem_toArray, List.getElem_cons_succ, List.getElem_cons_zero]; go_simp; first | with_reducible rfl | (simp (disch := omega) only [if_pos, if_neg, Result.andThen_ok]; try with_reducible rfl) | skip)); try simp only [List.getElem_toArray, List.getElem_cons_succ, List.getElem_cons_zero, Act.put, List.setIfInBounds_toArray, List.set_cons_zero, List.set_cons_succ]
  refine planE_cells (v := ?_) [(⟨xb, 0, none⟩, .int .i64 f), (⟨xb, 1, none⟩, .int .i64 t)] (by simp; and_intros <;> assumption) rfl (by rfl) (fun w' hw' => ?_) ?_; rotate_left; (focus (simp only [List.forall_mem_cons, List.not_mem_nil, false_imp_iff, implies_true, and_true] at hw'; simp only [List.getElem_toArray, List.getElem_cons_succ, List.getElem_cons_zero]; go_simp; first | with_reducible rfl | (simp (disch := omega) only [if_pos, if_neg, Result.andThen_ok]; try with_reducible rfl) | skip)); try simp only [List.getElem_toArray, List.getElem_cons_succ, List.getElem_cons_zero, Act.put, List.setIfInBounds_toArray, List.set_cons_zero, List.set_cons_succ]
  refine planE_eff rfl (by rfl) (fun K hK => ?_)
  refine op_mapDelete linkLaw hq.map (.tmp 23) (.tmp 24) (by rfl) Try.underlying51 (f, t) (by rfl) (by rfl) ?_
  intro ob hmap
  have hp := hq.setMap ob hmap (mdel_yes hq.yes)
  have hm := (Mods.of_below (S := fun k => k = m) hBq).wset m (.inl rfl) ob
  refine hK _ _ (by simp [owed, left] <;> (and_intros <;> first | trivial | assumption)) ?_
  clear hK K
  try simp only [List.getElem_toArray, List.getElem_cons_succ, List.getElem_cons_zero, Act.put, List.setIfInBounds_toArray, List.set_cons_zero, List.set_cons_succ]
  refine planE_end ?_
  have HP := Lib.hid hp
  have HM := Lib.hid hm
  clear hp hm c1 x0 x1 hq hXq hBq hmap
  go_wp2_with fail
  go_ret
  exact ⟨rfl, HP.out, HM.out⟩

set_option maxHeartbeats 1000000 in
theorem postCut_any (ptr : Value) (f t : Int) (w : World) (Q : Ending → World → Prop) (C : Calls Try.prog 23 #[ptr, .agg #[.int .i64 f, .int .i64 t], .bool true] w fun e w' => ∃ er, e = .returned (.int .i64 er) ∧ Q (.returned (.int .i64 er)) w') :
    Calls Try.prog 12 #[ptr, .int .i64 f, .int .i64 t] w Q := by
  have HC := Lib.hid C
  clear C
  go_enter Try.func12, Try.ntmps12
  go_wp2_with fail
  refine HC.out.mono ?_
  rintro e w' ⟨er, rfl, hq⟩
  have HQ := Lib.hid hq
  clear hq
  go_wp2_with fail
  exact HQ.out
set_option maxHeartbeats 1000000 in
theorem postHeal_any (ptr : Value) (f t : Int) (w : World) (Q : Ending → World → Prop) (C : Calls Try.prog 23 #[ptr, .agg #[.int .i64 f, .int .i64 t], .bool false] w fun e w' => ∃ er, e = .returned (.int .i64 er) ∧ Q (.returned (.int .i64 er)) w') :
    Calls Try.prog 13 #[ptr, .int .i64 f, .int .i64 t] w Q := by
  have HC := Lib.hid C
  clear C
  go_enter Try.func13, Try.ntmps13
  go_wp2_with fail
  refine HC.out.mono ?_
  rintro e w' ⟨er, rfl, hq⟩
  have HQ := Lib.hid hq
  clear hq
  go_wp2_with fail
  exact HQ.out
theorem postCut_nil (f t : Int) (w : World) : Calls Try.prog 12 #[.pointer none, .int .i64 f, .int .i64 t] w fun e w' => e = .returned (.int .i64 1) ∧ Below w.heap.size w w' :=
  postCut_any _ f t w _ ((postSet_nil f t true w).mono fun e w' h => ⟨1, h.1, rfl, h.2⟩)
theorem postCut_bad (f t : Int) (w : World) (hok : okB f t = false) : Calls Try.prog 12 #[.pointer (some ⟨g, 0, none⟩), .int .i64 f, .int .i64 t] w fun e w' => e = .returned (.int .i64 1) ∧ Below w.heap.size w w' :=
  postCut_any _ f t w _ ((postSet_bad f t true w hok).mono fun e w' h => ⟨1, h.1, rfl, h.2⟩)
theorem postCut (f t : Int) (w : World) (h : PostR w g R A cap m es room) (hok : okB f t = true) : Calls Try.prog 12 #[.pointer (some ⟨g, 0, none⟩), .int .i64 f, .int .i64 t] w (SetE g R A cap m (mput es (f, t) (.bool true)) room w) :=
  postCut_any _ f t w _ ((postSet_cut f t w h hok).mono fun e w' h => ⟨0, h.1, rfl, h.2⟩)
theorem postHeal_nil (f t : Int) (w : World) : Calls Try.prog 13 #[.pointer none, .int .i64 f, .int .i64 t] w fun e w' => e = .returned (.int .i64 1) ∧ Below w.heap.size w w' :=
  postHeal_any _ f t w _ ((postSet_nil f t false w).mono fun e w' h => ⟨1, h.1, rfl, h.2⟩)
theorem postHeal_bad (f t : Int) (w : World) (hok : okB f t = false) : Calls Try.prog 13 #[.pointer (some ⟨g, 0, none⟩), .int .i64 f, .int .i64 t] w fun e w' => e = .returned (.int .i64 1) ∧ Below w.heap.size w w' :=
  postHeal_any _ f t w _ ((postSet_bad f t false w hok).mono fun e w' h => ⟨1, h.1, rfl, h.2⟩)
theorem postHeal (f t : Int) (w : World) (h : PostR w g R A cap m es room) (hok : okB f t = true) : Calls Try.prog 13 #[.pointer (some ⟨g, 0, none⟩), .int .i64 f, .int .i64 t] w (SetE g R A cap m (mdel es (f, t)) room w) :=
  postHeal_any _ f t w _ ((postSet_heal f t w h hok).mono fun e w' h => ⟨0, h.1, rfl, h.2⟩)
end
end Go.Proofs.Ytihmnkkhccihpaa
