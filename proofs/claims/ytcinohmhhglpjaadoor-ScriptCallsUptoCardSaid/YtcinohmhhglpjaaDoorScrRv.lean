/- Contracts of the reference's writer: Act, Setting. -/
import Derived.Test.YtcinohmhhglpjaaDoorScrRw
namespace Go.Proofs.YtcinohmhhglpjaaDoor
open Go.RowKit

/-- What the reference's Act answers. -/
def RefActE (a : Ap) (w : World) (e : Ending) (w' : World) : Prop :=
  e = .returned (.tuple #[.string ⟨(if a.ok = true then a.line else []).toArray⟩, .bool a.ok]) ∧ Below w.heap.size w w'
theorem refActE_no {a : Ap} {w w' : World} (h : a.ok = false) (hb : Below w.heap.size w w') : RefActE a w (.returned (.tuple #[.string ⟨#[]⟩, .bool false])) w' := by
  unfold RefActE; rw [h]; exact ⟨rfl, hb⟩
theorem refActE_yes {a : Ap} {w w' : World} {l : List UInt8} (h : a.ok = true) (hl : l = a.line) (hb : Below w.heap.size w w') : RefActE a w (.returned (.tuple #[.string ⟨l.toArray⟩, .bool true])) w' := by
  subst hl; unfold RefActE; rw [h]; exact ⟨rfl, hb⟩

set_option maxRecDepth 20000 in
set_option maxHeartbeats 8000000 in
theorem refActNo (a : Ap) (ha : a.wf) (hno : a.ok = false) (w : World) : Calls Tryd.prog 13 #[.agg a.cells.toArray] w (RefActE a w) := by
  have hk0 := ha.kind0
  have hk1 := ha.kind1
  have HN := Lib.hid hno
  have WC := Lib.hid (refWord a.kind hk0 hk1)
  have hbk := Blk.of_alloc w a.cells 35
  have hB0 : Below w.heap.size w (w.alloc (.cells a.cells.toArray 35)) := (Below.refl _ _).alloc (Nat.le_refl _) _
  by_cases hkk : 1 ≤ a.kind ∧ a.kind ≤ 18
  · have hc : a.cmd.ok = false := by
      simp only [Ap.ok, Bool.and_eq_false_iff, decide_eq_false_iff_not] at hno
      rcases hno with (h | h) | h
      · omega
      · omega
      · exact h
    have C := Lib.hid (refCommanded a.cmd ha.cmd)
    rw [hc] at C
    obtain ⟨hk2, hk3⟩ := hkk
    have hne : (kindWord a.kind.toNat).toArray.toList.isEmpty = false := by simp [kindWord_ne a.kind.toNat (by omega) (by omega)]
    have hne2 : kindWord a.kind.toNat ≠ [] := kindWord_ne a.kind.toNat (by omega) (by omega)
    have HWO : Hid (wordOf a.kind = kindWord a.kind.toNat) := Lib.hid (if_pos ⟨hk2, hk3⟩)
    rw [HWO.out] at WC
    generalize kindWord a.kind.toNat = kw at *
    clear hno hc HWO
    unfold Ap.cells at *
    unfold Cm.cells at *
    simp only [List.cons_append, List.nil_append] at *
    go_enter Tryd.func13, Tryd.ntmps13
    go_wp2_with (go_at_call 32; refine (WC.out _).mono ?_)
    rintro e w1 ⟨rfl, hb1⟩
    have hbk1 := hbk.kept hb1
    have hB1 := hB0.trans (hb1.mono hB0.size)
    clear hbk hB0 hb1
    have c6 := hbk1.cell 6 rfl
    have c7 := hbk1.cell 7 rfl
    have c8 := hbk1.cell 8 rfl
    have c9 := hbk1.cell 9 rfl
    have c10 := hbk1.cell 10 rfl
    have c11 := hbk1.cell 11 rfl
    have c12 := hbk1.cell 12 rfl
    go_wp2_with (go_at_call 33; refine (C.out _).mono ?_)
    rintro e w2 ⟨rfl, hb2⟩
    go_wp2_with fail
    go_ret2
    exact refActE_no HN.out (hB1.trans (hb2.mono hB1.size))
  · have HWO : Hid (wordOf a.kind = []) := Lib.hid (if_neg hkk)
    rw [HWO.out] at WC
    clear hno hkk HWO
    unfold Ap.cells at *
    unfold Cm.cells at *
    simp only [List.cons_append, List.nil_append] at *
    go_enter Tryd.func13, Tryd.ntmps13
    go_wp2_with (go_at_call 32; refine (WC.out _).mono ?_)
    rintro e w1 ⟨rfl, hb1⟩
    go_wp2_with fail
    go_ret2
    exact refActE_no HN.out (hB0.trans (hb1.mono hB0.size))

set_option maxRecDepth 20000 in
set_option maxHeartbeats 8000000 in
theorem refActYes (a : Ap) (ha : a.wf) (hok : a.ok = true) (w : World) : Calls Tryd.prog 13 #[.agg a.cells.toArray] w (RefActE a w) := by
  have HOK := Lib.hid hok
  have h' := hok
  simp only [Ap.ok, Cm.ok, Bool.and_eq_true, decide_eq_true_eq] at h'
  obtain ⟨⟨hk1, hk2⟩, ⟨hkl, _⟩, _⟩ := h'
  obtain ⟨kind, ka, kb, kn, kdraw, kmask, cmd⟩ := a
  obtain ⟨g1, g2, g3, g4, g5, g6, g7, g8, g9, g10, g11, g12, g13⟩ := ha
  simp only at *
  obtain ⟨k, rfl⟩ := Int.eq_ofNat_of_zero_le (show 0 ≤ kind by omega)
  have HLN : Hid (Ap.line ⟨k, ka, kb, kn, kdraw, kmask, cmd⟩ = kindWord k ++ tailw ([Lib.itoa ka, Lib.itoa kb, Lib.itoa kn, udec kdraw, udec kmask] ++ cmd.words)) := Lib.hid rfl
  have WC := Lib.hid (refWord k g1 g2)
  have HWO : Hid (wordOf k = kindWord k) := Lib.hid (by unfold wordOf; rw [if_pos ⟨hk1, hk2⟩]; rfl)
  rw [HWO.out] at WC
  have hne : (kindWord k).toArray.toList.isEmpty = false := by simp [kindWord_ne k (by omega) (by omega)]
  have hne2 : kindWord k ≠ [] := kindWord_ne k (by omega) (by omega)
  have C := Lib.hid (refCommanded cmd g13)
  rw [show cmd.ok = true by simp only [Ap.ok, Bool.and_eq_true] at hok; exact hok.2] at C
  have CW := Lib.hid (refCommand cmd g13 hkl)
  have HTL : Hid ((tailw cmd.words).length ≤ 910) := Lib.hid (by
    have := tailw_len cmd.words 129 (Cm.words_len g13 hkl)
    simp only [Cm.words, List.length_cons, List.length_nil] at this ⊢
    omega)
  have hbk := Blk.of_alloc w (Ap.cells ⟨k, ka, kb, kn, kdraw, kmask, cmd⟩) 35
  have hB0 : Below w.heap.size w (w.alloc (.cells (Ap.cells ⟨k, ka, kb, kn, kdraw, kmask, cmd⟩).toArray 35)) := (Below.refl _ _).alloc (Nat.le_refl _) _
  clear hok HWO
  unfold Ap.cells at *
  unfold Cm.cells at *
  simp only [List.cons_append, List.nil_append] at *
  go_enter Tryd.func13, Tryd.ntmps13
  go_wp2_with (go_at_call 32; refine (WC.out _).mono ?_)
  rintro e w1 ⟨rfl, hb1⟩
  have hbk1 := hbk.kept hb1
  have hB1 := hB0.trans (hb1.mono hB0.size)
  clear hbk hB0 hb1
  have c6 := hbk1.cell 6 rfl
  have c7 := hbk1.cell 7 rfl
  have c8 := hbk1.cell 8 rfl
  have c9 := hbk1.cell 9 rfl
  have c10 := hbk1.cell 10 rfl
  have c11 := hbk1.cell 11 rfl
  have c12 := hbk1.cell 12 rfl
  go_wp2_with (go_at_call 33; refine (C.out _).mono ?_)
  rintro e w2 ⟨rfl, hb2⟩
  have hbk2 := hbk1.kept hb2
  have hB2 := hB1.trans (hb2.mono hB1.size)
  clear hbk1 hB1 hb2 c6 c7 c8 c9 c10 c11 c12 C WC
  go_wp2_with fail
  refine wp_region_plan_gen (by kernel_rfl) [(0, true), (1, true), (2, true), (3, true), (7, true), (8, true), (12, true), (13, true), (17, true), (18, true), (22, true), (23, true), (26, true), (27, true), (4, false), (5, true), (6, true), (9, false), (10, true), (11, true), (14, false), (15, true), (16, true), (19, false), (20, true), (21, true), (24, false), (25, true), (28, false), (29, true), (30, true), (31, true)] (by kernel_rfl) (by kernel_rfl) (by decide) ?_
  intro x0 hx0
  have B0 : Hid (Below w2.heap.size w2 x0) := Lib.hid (by rw [hx0]; exact (Below.refl _ _).drew)
  have hbx := hbk2.kept (show Below w2.heap.size w2 x0 by rw [hx0]; exact (Below.refl _ _).drew)
  have ld0 : ∀ w', Ext x0 w' → w'.cell? ⟨w.heap.size, 1, none⟩ = some (.int .i64 ka) := fun w' hw => (hbx.kept hw).cell 1 rfl
  have ld1 : ∀ w', Ext x0 w' → w'.cell? ⟨w.heap.size, 2, none⟩ = some (.int .i64 kb) := fun w' hw => (hbx.kept hw).cell 2 rfl
  have ld2 : ∀ w', Ext x0 w' → w'.cell? ⟨w.heap.size, 3, none⟩ = some (.int .i64 kn) := fun w' hw => (hbx.kept hw).cell 3 rfl
  have ld3 : ∀ w', Ext x0 w' → w'.cell? ⟨w.heap.size, 4, none⟩ = some (.int .u64 kdraw) := fun w' hw => (hbx.kept hw).cell 4 rfl
  have ld4 : ∀ w', Ext x0 w' → w'.cell? ⟨w.heap.size, 5, none⟩ = some (.int .u64 kmask) := fun w' hw => (hbx.kept hw).cell 5 rfl
  have ld5 : ∀ w', Ext x0 w' → w'.cell? ⟨w.heap.size, 6, none⟩ = some (.int .u64 cmd.ses) := fun w' hw => (hbx.kept hw).cell 6 rfl
  have ld6 : ∀ w', Ext x0 w' → w'.cell? ⟨w.heap.size, 7, none⟩ = some (.int .u64 cmd.seq) := fun w' hw => (hbx.kept hw).cell 7 rfl
  have ld7 : ∀ w', Ext x0 w' → w'.cell? ⟨w.heap.size, 8, none⟩ = some (.int .i64 cmd.op) := fun w' hw => (hbx.kept hw).cell 8 rfl
  have ld8 : ∀ w', Ext x0 w' → w'.cell? ⟨w.heap.size, 9, none⟩ = some (.string ⟨cmd.key.toArray⟩) := fun w' hw => (hbx.kept hw).cell 9 rfl
  have ld9 : ∀ w', Ext x0 w' → w'.cell? ⟨w.heap.size, 10, none⟩ = some (.int .i64 cmd.amount) := fun w' hw => (hbx.kept hw).cell 10 rfl
  have ld10 : ∀ w', Ext x0 w' → w'.cell? ⟨w.heap.size, 11, none⟩ = some (.int .i64 cmd.span) := fun w' hw => (hbx.kept hw).cell 11 rfl
  have ld11 : ∀ w', Ext x0 w' → w'.cell? ⟨w.heap.size, 12, none⟩ = some (.int .u64 cmd.lease) := fun w' hw => (hbx.kept hw).cell 12 rfl
  clear hx0 hbx
  obtain ⟨z1, e1, l1, r1⟩ := catE (kindWord k) [32] 6 1 7 (kindWord_len k (by omega)) (by decide) (by decide) (by decide)
  iterate 14 (refine plan_pure (v := ?_) rfl (by rfl) (fun w' hw' => ?_) ?_; rotate_left; (focus (simp only [List.getElem_toArray, List.getElem_cons_succ, List.getElem_cons_zero]; go_simp; try with_reducible rfl)); try simp only [List.getElem_toArray, List.getElem_cons_succ, List.getElem_cons_zero, Act.put, List.setIfInBounds_toArray, List.set_cons_zero, List.set_cons_succ])
  refine plan_call rfl (by rfl) (fun K hK => ?_)
  go_simp
  refine (refSigned ka g3 g4 x0).mono ?_
  rintro e x1 ⟨rfl, hb1⟩
  refine hK _ _ hb1 ?_
  clear hK K
  have B1 : Hid (Below w2.heap.size w2 x1) := Lib.hid (B0.out.trans (hb1.mono B0.out.size))
  replace ld0 := fun w' (h : Ext x1 w') => ld0 w' (Ext.trans hb1 h)
  replace ld1 := fun w' (h : Ext x1 w') => ld1 w' (Ext.trans hb1 h)
  replace ld2 := fun w' (h : Ext x1 w') => ld2 w' (Ext.trans hb1 h)
  replace ld3 := fun w' (h : Ext x1 w') => ld3 w' (Ext.trans hb1 h)
  replace ld4 := fun w' (h : Ext x1 w') => ld4 w' (Ext.trans hb1 h)
  replace ld5 := fun w' (h : Ext x1 w') => ld5 w' (Ext.trans hb1 h)
  replace ld6 := fun w' (h : Ext x1 w') => ld6 w' (Ext.trans hb1 h)
  replace ld7 := fun w' (h : Ext x1 w') => ld7 w' (Ext.trans hb1 h)
  replace ld8 := fun w' (h : Ext x1 w') => ld8 w' (Ext.trans hb1 h)
  replace ld9 := fun w' (h : Ext x1 w') => ld9 w' (Ext.trans hb1 h)
  replace ld10 := fun w' (h : Ext x1 w') => ld10 w' (Ext.trans hb1 h)
  replace ld11 := fun w' (h : Ext x1 w') => ld11 w' (Ext.trans hb1 h)
  clear hb1
  try simp only [List.getElem_toArray, List.getElem_cons_succ, List.getElem_cons_zero, Act.put, List.setIfInBounds_toArray, List.set_cons_zero, List.set_cons_succ]
  obtain ⟨z2, e2, l2, r2⟩ := catE z1 (Lib.itoa ka) 7 21 28 l1 (itoa_len g3 g4) (by decide) (by decide)
  obtain ⟨z3, e3, l3, r3⟩ := catE z2 [32] 28 1 29 l2 (by decide) (by decide) (by decide)
  iterate 2 (refine plan_pure (v := ?_) rfl (by rfl) (fun w' hw' => ?_) ?_; rotate_left; (focus (simp only [List.getElem_toArray, List.getElem_cons_succ, List.getElem_cons_zero]; go_simp; try with_reducible rfl)); try simp only [List.getElem_toArray, List.getElem_cons_succ, List.getElem_cons_zero, Act.put, List.setIfInBounds_toArray, List.set_cons_zero, List.set_cons_succ])
  refine plan_call rfl (by rfl) (fun K hK => ?_)
  go_simp
  refine (refSigned kb g5 g6 x1).mono ?_
  rintro e x2 ⟨rfl, hb2⟩
  refine hK _ _ hb2 ?_
  clear hK K
  have B2 : Hid (Below w2.heap.size w2 x2) := Lib.hid (B1.out.trans (hb2.mono B1.out.size))
  replace ld0 := fun w' (h : Ext x2 w') => ld0 w' (Ext.trans hb2 h)
  replace ld1 := fun w' (h : Ext x2 w') => ld1 w' (Ext.trans hb2 h)
  replace ld2 := fun w' (h : Ext x2 w') => ld2 w' (Ext.trans hb2 h)
  replace ld3 := fun w' (h : Ext x2 w') => ld3 w' (Ext.trans hb2 h)
  replace ld4 := fun w' (h : Ext x2 w') => ld4 w' (Ext.trans hb2 h)
  replace ld5 := fun w' (h : Ext x2 w') => ld5 w' (Ext.trans hb2 h)
  replace ld6 := fun w' (h : Ext x2 w') => ld6 w' (Ext.trans hb2 h)
  replace ld7 := fun w' (h : Ext x2 w') => ld7 w' (Ext.trans hb2 h)
  replace ld8 := fun w' (h : Ext x2 w') => ld8 w' (Ext.trans hb2 h)
  replace ld9 := fun w' (h : Ext x2 w') => ld9 w' (Ext.trans hb2 h)
  replace ld10 := fun w' (h : Ext x2 w') => ld10 w' (Ext.trans hb2 h)
  replace ld11 := fun w' (h : Ext x2 w') => ld11 w' (Ext.trans hb2 h)
  clear hb2
  try simp only [List.getElem_toArray, List.getElem_cons_succ, List.getElem_cons_zero, Act.put, List.setIfInBounds_toArray, List.set_cons_zero, List.set_cons_succ]
  obtain ⟨z4, e4, l4, r4⟩ := catE z3 (Lib.itoa kb) 29 21 50 l3 (itoa_len g5 g6) (by decide) (by decide)
  obtain ⟨z5, e5, l5, r5⟩ := catE z4 [32] 50 1 51 l4 (by decide) (by decide) (by decide)
  iterate 2 (refine plan_pure (v := ?_) rfl (by rfl) (fun w' hw' => ?_) ?_; rotate_left; (focus (simp only [List.getElem_toArray, List.getElem_cons_succ, List.getElem_cons_zero]; go_simp; try with_reducible rfl)); try simp only [List.getElem_toArray, List.getElem_cons_succ, List.getElem_cons_zero, Act.put, List.setIfInBounds_toArray, List.set_cons_zero, List.set_cons_succ])
  refine plan_call rfl (by rfl) (fun K hK => ?_)
  go_simp
  refine (refSigned kn g7 g8 x2).mono ?_
  rintro e x3 ⟨rfl, hb3⟩
  refine hK _ _ hb3 ?_
  clear hK K
  have B3 : Hid (Below w2.heap.size w2 x3) := Lib.hid (B2.out.trans (hb3.mono B2.out.size))
  replace ld0 := fun w' (h : Ext x3 w') => ld0 w' (Ext.trans hb3 h)
  replace ld1 := fun w' (h : Ext x3 w') => ld1 w' (Ext.trans hb3 h)
  replace ld2 := fun w' (h : Ext x3 w') => ld2 w' (Ext.trans hb3 h)
  replace ld3 := fun w' (h : Ext x3 w') => ld3 w' (Ext.trans hb3 h)
  replace ld4 := fun w' (h : Ext x3 w') => ld4 w' (Ext.trans hb3 h)
  replace ld5 := fun w' (h : Ext x3 w') => ld5 w' (Ext.trans hb3 h)
  replace ld6 := fun w' (h : Ext x3 w') => ld6 w' (Ext.trans hb3 h)
  replace ld7 := fun w' (h : Ext x3 w') => ld7 w' (Ext.trans hb3 h)
  replace ld8 := fun w' (h : Ext x3 w') => ld8 w' (Ext.trans hb3 h)
  replace ld9 := fun w' (h : Ext x3 w') => ld9 w' (Ext.trans hb3 h)
  replace ld10 := fun w' (h : Ext x3 w') => ld10 w' (Ext.trans hb3 h)
  replace ld11 := fun w' (h : Ext x3 w') => ld11 w' (Ext.trans hb3 h)
  clear hb3
  try simp only [List.getElem_toArray, List.getElem_cons_succ, List.getElem_cons_zero, Act.put, List.setIfInBounds_toArray, List.set_cons_zero, List.set_cons_succ]
  obtain ⟨z6, e6, l6, r6⟩ := catE z5 (Lib.itoa kn) 51 21 72 l5 (itoa_len g7 g8) (by decide) (by decide)
  obtain ⟨z7, e7, l7, r7⟩ := catE z6 [32] 72 1 73 l6 (by decide) (by decide) (by decide)
  iterate 2 (refine plan_pure (v := ?_) rfl (by rfl) (fun w' hw' => ?_) ?_; rotate_left; (focus (simp only [List.getElem_toArray, List.getElem_cons_succ, List.getElem_cons_zero]; go_simp; try with_reducible rfl)); try simp only [List.getElem_toArray, List.getElem_cons_succ, List.getElem_cons_zero, Act.put, List.setIfInBounds_toArray, List.set_cons_zero, List.set_cons_succ])
  refine plan_call rfl (by rfl) (fun K hK => ?_)
  go_simp
  refine (refDecU kdraw g9 g10 x3).mono ?_
  rintro e x4 ⟨rfl, hb4⟩
  refine hK _ _ hb4 ?_
  clear hK K
  have B4 : Hid (Below w2.heap.size w2 x4) := Lib.hid (B3.out.trans (hb4.mono B3.out.size))
  replace ld0 := fun w' (h : Ext x4 w') => ld0 w' (Ext.trans hb4 h)
  replace ld1 := fun w' (h : Ext x4 w') => ld1 w' (Ext.trans hb4 h)
  replace ld2 := fun w' (h : Ext x4 w') => ld2 w' (Ext.trans hb4 h)
  replace ld3 := fun w' (h : Ext x4 w') => ld3 w' (Ext.trans hb4 h)
  replace ld4 := fun w' (h : Ext x4 w') => ld4 w' (Ext.trans hb4 h)
  replace ld5 := fun w' (h : Ext x4 w') => ld5 w' (Ext.trans hb4 h)
  replace ld6 := fun w' (h : Ext x4 w') => ld6 w' (Ext.trans hb4 h)
  replace ld7 := fun w' (h : Ext x4 w') => ld7 w' (Ext.trans hb4 h)
  replace ld8 := fun w' (h : Ext x4 w') => ld8 w' (Ext.trans hb4 h)
  replace ld9 := fun w' (h : Ext x4 w') => ld9 w' (Ext.trans hb4 h)
  replace ld10 := fun w' (h : Ext x4 w') => ld10 w' (Ext.trans hb4 h)
  replace ld11 := fun w' (h : Ext x4 w') => ld11 w' (Ext.trans hb4 h)
  clear hb4
  try simp only [List.getElem_toArray, List.getElem_cons_succ, List.getElem_cons_zero, Act.put, List.setIfInBounds_toArray, List.set_cons_zero, List.set_cons_succ]
  obtain ⟨z8, e8, l8, r8⟩ := catE z7 (udec kdraw) 73 20 93 l7 (udec_len g10) (by decide) (by decide)
  obtain ⟨z9, e9, l9, r9⟩ := catE z8 [32] 93 1 94 l8 (by decide) (by decide) (by decide)
  iterate 2 (refine plan_pure (v := ?_) rfl (by rfl) (fun w' hw' => ?_) ?_; rotate_left; (focus (simp only [List.getElem_toArray, List.getElem_cons_succ, List.getElem_cons_zero]; go_simp; try with_reducible rfl)); try simp only [List.getElem_toArray, List.getElem_cons_succ, List.getElem_cons_zero, Act.put, List.setIfInBounds_toArray, List.set_cons_zero, List.set_cons_succ])
  refine plan_call rfl (by rfl) (fun K hK => ?_)
  go_simp
  refine (refDecU kmask g11 g12 x4).mono ?_
  rintro e x5 ⟨rfl, hb5⟩
  refine hK _ _ hb5 ?_
  clear hK K
  have B5 : Hid (Below w2.heap.size w2 x5) := Lib.hid (B4.out.trans (hb5.mono B4.out.size))
  replace ld0 := fun w' (h : Ext x5 w') => ld0 w' (Ext.trans hb5 h)
  replace ld1 := fun w' (h : Ext x5 w') => ld1 w' (Ext.trans hb5 h)
  replace ld2 := fun w' (h : Ext x5 w') => ld2 w' (Ext.trans hb5 h)
  replace ld3 := fun w' (h : Ext x5 w') => ld3 w' (Ext.trans hb5 h)
  replace ld4 := fun w' (h : Ext x5 w') => ld4 w' (Ext.trans hb5 h)
  replace ld5 := fun w' (h : Ext x5 w') => ld5 w' (Ext.trans hb5 h)
  replace ld6 := fun w' (h : Ext x5 w') => ld6 w' (Ext.trans hb5 h)
  replace ld7 := fun w' (h : Ext x5 w') => ld7 w' (Ext.trans hb5 h)
  replace ld8 := fun w' (h : Ext x5 w') => ld8 w' (Ext.trans hb5 h)
  replace ld9 := fun w' (h : Ext x5 w') => ld9 w' (Ext.trans hb5 h)
  replace ld10 := fun w' (h : Ext x5 w') => ld10 w' (Ext.trans hb5 h)
  replace ld11 := fun w' (h : Ext x5 w') => ld11 w' (Ext.trans hb5 h)
  clear hb5
  try simp only [List.getElem_toArray, List.getElem_cons_succ, List.getElem_cons_zero, Act.put, List.setIfInBounds_toArray, List.set_cons_zero, List.set_cons_succ]
  obtain ⟨z10, e10, l10, r10⟩ := catE z9 (udec kmask) 94 20 114 l9 (udec_len g12) (by decide) (by decide)
  iterate 1 (refine plan_pure (v := ?_) rfl (by rfl) (fun w' hw' => ?_) ?_; rotate_left; (focus (simp only [List.getElem_toArray, List.getElem_cons_succ, List.getElem_cons_zero]; go_simp; try with_reducible rfl)); try simp only [List.getElem_toArray, List.getElem_cons_succ, List.getElem_cons_zero, Act.put, List.setIfInBounds_toArray, List.set_cons_zero, List.set_cons_succ])
  refine plan_call rfl (by rfl) (fun K hK => ?_)
  go_simp
  refine (CW.out x5).mono ?_
  rintro e x6 ⟨rfl, hb6⟩
  refine hK _ _ hb6 ?_
  clear hK K
  have B6 : Hid (Below w2.heap.size w2 x6) := Lib.hid (B5.out.trans (hb6.mono B5.out.size))
  replace ld0 := fun w' (h : Ext x6 w') => ld0 w' (Ext.trans hb6 h)
  replace ld1 := fun w' (h : Ext x6 w') => ld1 w' (Ext.trans hb6 h)
  replace ld2 := fun w' (h : Ext x6 w') => ld2 w' (Ext.trans hb6 h)
  replace ld3 := fun w' (h : Ext x6 w') => ld3 w' (Ext.trans hb6 h)
  replace ld4 := fun w' (h : Ext x6 w') => ld4 w' (Ext.trans hb6 h)
  replace ld5 := fun w' (h : Ext x6 w') => ld5 w' (Ext.trans hb6 h)
  replace ld6 := fun w' (h : Ext x6 w') => ld6 w' (Ext.trans hb6 h)
  replace ld7 := fun w' (h : Ext x6 w') => ld7 w' (Ext.trans hb6 h)
  replace ld8 := fun w' (h : Ext x6 w') => ld8 w' (Ext.trans hb6 h)
  replace ld9 := fun w' (h : Ext x6 w') => ld9 w' (Ext.trans hb6 h)
  replace ld10 := fun w' (h : Ext x6 w') => ld10 w' (Ext.trans hb6 h)
  replace ld11 := fun w' (h : Ext x6 w') => ld11 w' (Ext.trans hb6 h)
  clear hb6
  try simp only [List.getElem_toArray, List.getElem_cons_succ, List.getElem_cons_zero, Act.put, List.setIfInBounds_toArray, List.set_cons_zero, List.set_cons_succ]
  obtain ⟨z11, e11, l11, r11⟩ := catE z10 (tailw cmd.words) 114 910 1024 l10 HTL.out (by decide) (by decide)
  iterate 3 (refine plan_pure (v := ?_) rfl (by rfl) (fun w' hw' => ?_) ?_; rotate_left; (focus (simp only [List.getElem_toArray, List.getElem_cons_succ, List.getElem_cons_zero]; go_simp; try with_reducible rfl)); try simp only [List.getElem_toArray, List.getElem_cons_succ, List.getElem_cons_zero, Act.put, List.setIfInBounds_toArray, List.set_cons_zero, List.set_cons_succ])
  refine plan_end ?_
  go_wp2_with fail
  go_ret2
  exact refActE_yes HOK.out (by rw [HLN.out, e11.out, e10.out, e9.out, e8.out, e7.out, e6.out, e5.out, e4.out, e3.out, e2.out, e1.out]; simp [tailw]) (hB2.trans (B6.out.mono hB2.size))

theorem refAct (a : Ap) (ha : a.wf) (w : World) : Calls Tryd.prog 13 #[.agg a.cells.toArray] w (RefActE a w) := by
  by_cases h : a.ok = true
  · exact refActYes a ha h w
  · exact refActNo a ha (by simpa using h) w

set_option maxRecDepth 20000 in
set_option maxHeartbeats 8000000 in
theorem refSetting (zs : List Int) (h10 : zs.length = 10) (hz : ∀ z ∈ zs, -9223372036854775808 ≤ z ∧ z ≤ 9223372036854775807) (w : World) :
    Calls Tryd.prog 26 #[.agg (zs.map (Value.int .i64)).toArray] w fun e w' => e = .returned (.string ⟨(setLine zs).toArray⟩) ∧ Below w.heap.size w w' := by
  obtain ⟨q0, q1, q2, q3, q4, q5, q6, q7, q8, q9, rfl⟩ : ∃ q0 q1 q2 q3 q4 q5 q6 q7 q8 q9, zs = [q0, q1, q2, q3, q4, q5, q6, q7, q8, q9] := by
    match zs, h10 with
    | [q0, q1, q2, q3, q4, q5, q6, q7, q8, q9], _ => exact ⟨_, _, _, _, _, _, _, _, _, _, rfl⟩
  have HZ := Lib.hid hz
  have hB : Below w.heap.size w (w.alloc (.cells #[.int .i64 q0, .int .i64 q1, .int .i64 q2, .int .i64 q3, .int .i64 q4, .int .i64 q5, .int .i64 q6, .int .i64 q7, .int .i64 q8, .int .i64 q9] 23)) := (Below.refl _ _).alloc (Nat.le_refl _) _
  simp only [List.map_cons, List.map_nil] at *
  clear hz
  go_enter Tryd.func26, Tryd.ntmps26
  go_wp2_with fail
  refine wp_region_plan_gen (by kernel_rfl) [(0, true), (1, true), (5, true), (6, true), (10, true), (11, true), (15, true), (16, true), (20, true), (21, true), (25, true), (26, true), (30, true), (31, true), (35, true), (36, true), (40, true), (41, true), (45, true), (46, true), (2, false), (3, true), (4, true), (7, false), (8, true), (9, true), (12, false), (13, true), (14, true), (17, false), (18, true), (19, true), (22, false), (23, true), (24, true), (27, false), (28, true), (29, true), (32, false), (33, true), (34, true), (37, false), (38, true), (39, true), (42, false), (43, true), (44, true), (47, false), (48, true), (49, true)] (by kernel_rfl) (by kernel_rfl) (by decide) ?_
  intro x0 hx0
  have B0 : Hid (Below (w.alloc (.cells #[.int .i64 q0, .int .i64 q1, .int .i64 q2, .int .i64 q3, .int .i64 q4, .int .i64 q5, .int .i64 q6, .int .i64 q7, .int .i64 q8, .int .i64 q9] 23)).heap.size (w.alloc (.cells #[.int .i64 q0, .int .i64 q1, .int .i64 q2, .int .i64 q3, .int .i64 q4, .int .i64 q5, .int .i64 q6, .int .i64 q7, .int .i64 q8, .int .i64 q9] 23)) x0) := Lib.hid (by rw [hx0]; exact (Below.refl _ _).drew)
  have ld0 : ∀ w', Ext x0 w' → w'.cell? ⟨w.heap.size, 0, none⟩ = some (.int .i64 q0) := fun w' hw => (hw.cell (by rw [hx0]; simp)).trans (by rw [hx0]; go_simp)
  have ld1 : ∀ w', Ext x0 w' → w'.cell? ⟨w.heap.size, 1, none⟩ = some (.int .i64 q1) := fun w' hw => (hw.cell (by rw [hx0]; simp)).trans (by rw [hx0]; go_simp)
  have ld2 : ∀ w', Ext x0 w' → w'.cell? ⟨w.heap.size, 2, none⟩ = some (.int .i64 q2) := fun w' hw => (hw.cell (by rw [hx0]; simp)).trans (by rw [hx0]; go_simp)
  have ld3 : ∀ w', Ext x0 w' → w'.cell? ⟨w.heap.size, 3, none⟩ = some (.int .i64 q3) := fun w' hw => (hw.cell (by rw [hx0]; simp)).trans (by rw [hx0]; go_simp)
  have ld4 : ∀ w', Ext x0 w' → w'.cell? ⟨w.heap.size, 4, none⟩ = some (.int .i64 q4) := fun w' hw => (hw.cell (by rw [hx0]; simp)).trans (by rw [hx0]; go_simp)
  have ld5 : ∀ w', Ext x0 w' → w'.cell? ⟨w.heap.size, 5, none⟩ = some (.int .i64 q5) := fun w' hw => (hw.cell (by rw [hx0]; simp)).trans (by rw [hx0]; go_simp)
  have ld6 : ∀ w', Ext x0 w' → w'.cell? ⟨w.heap.size, 6, none⟩ = some (.int .i64 q6) := fun w' hw => (hw.cell (by rw [hx0]; simp)).trans (by rw [hx0]; go_simp)
  have ld7 : ∀ w', Ext x0 w' → w'.cell? ⟨w.heap.size, 7, none⟩ = some (.int .i64 q7) := fun w' hw => (hw.cell (by rw [hx0]; simp)).trans (by rw [hx0]; go_simp)
  have ld8 : ∀ w', Ext x0 w' → w'.cell? ⟨w.heap.size, 8, none⟩ = some (.int .i64 q8) := fun w' hw => (hw.cell (by rw [hx0]; simp)).trans (by rw [hx0]; go_simp)
  have ld9 : ∀ w', Ext x0 w' → w'.cell? ⟨w.heap.size, 9, none⟩ = some (.int .i64 q9) := fun w' hw => (hw.cell (by rw [hx0]; simp)).trans (by rw [hx0]; go_simp)
  clear hx0
  iterate 20 (refine plan_pure (v := ?_) rfl (by rfl) (fun w' hw' => ?_) ?_; rotate_left; (focus (simp only [List.getElem_toArray, List.getElem_cons_succ, List.getElem_cons_zero]; go_simp; try with_reducible rfl)); try simp only [List.getElem_toArray, List.getElem_cons_succ, List.getElem_cons_zero, Act.put, List.setIfInBounds_toArray, List.set_cons_zero, List.set_cons_succ])
  refine plan_call rfl (by rfl) (fun K hK => ?_)
  go_simp
  refine (refSigned q0 (HZ.out q0 (by simp)).1 (HZ.out q0 (by simp)).2 x0).mono ?_
  rintro e x1 ⟨rfl, hb1⟩
  refine hK _ _ hb1 ?_
  clear hK K
  have B1 : Hid (Below (w.alloc (.cells #[.int .i64 q0, .int .i64 q1, .int .i64 q2, .int .i64 q3, .int .i64 q4, .int .i64 q5, .int .i64 q6, .int .i64 q7, .int .i64 q8, .int .i64 q9] 23)).heap.size (w.alloc (.cells #[.int .i64 q0, .int .i64 q1, .int .i64 q2, .int .i64 q3, .int .i64 q4, .int .i64 q5, .int .i64 q6, .int .i64 q7, .int .i64 q8, .int .i64 q9] 23)) x1) := Lib.hid (B0.out.trans (hb1.mono B0.out.size))
  replace ld0 := fun w' (h : Ext x1 w') => ld0 w' (Ext.trans hb1 h)
  replace ld1 := fun w' (h : Ext x1 w') => ld1 w' (Ext.trans hb1 h)
  replace ld2 := fun w' (h : Ext x1 w') => ld2 w' (Ext.trans hb1 h)
  replace ld3 := fun w' (h : Ext x1 w') => ld3 w' (Ext.trans hb1 h)
  replace ld4 := fun w' (h : Ext x1 w') => ld4 w' (Ext.trans hb1 h)
  replace ld5 := fun w' (h : Ext x1 w') => ld5 w' (Ext.trans hb1 h)
  replace ld6 := fun w' (h : Ext x1 w') => ld6 w' (Ext.trans hb1 h)
  replace ld7 := fun w' (h : Ext x1 w') => ld7 w' (Ext.trans hb1 h)
  replace ld8 := fun w' (h : Ext x1 w') => ld8 w' (Ext.trans hb1 h)
  replace ld9 := fun w' (h : Ext x1 w') => ld9 w' (Ext.trans hb1 h)
  clear hb1
  try simp only [List.getElem_toArray, List.getElem_cons_succ, List.getElem_cons_zero, Act.put, List.setIfInBounds_toArray, List.set_cons_zero, List.set_cons_succ]
  obtain ⟨z1, e1, l1, r1⟩ := catE [115, 101, 116, 116, 105, 110, 103, 32] (Lib.itoa q0) 8 21 29 (by decide) (itoa_len (HZ.out q0 (by simp)).1 (HZ.out q0 (by simp)).2) (by decide) (by decide)
  obtain ⟨z2, e2, l2, r2⟩ := catE z1 [32] 29 1 30 l1 (by decide) (by decide) (by decide)
  iterate 2 (refine plan_pure (v := ?_) rfl (by rfl) (fun w' hw' => ?_) ?_; rotate_left; (focus (simp only [List.getElem_toArray, List.getElem_cons_succ, List.getElem_cons_zero]; go_simp; try with_reducible rfl)); try simp only [List.getElem_toArray, List.getElem_cons_succ, List.getElem_cons_zero, Act.put, List.setIfInBounds_toArray, List.set_cons_zero, List.set_cons_succ])
  refine plan_call rfl (by rfl) (fun K hK => ?_)
  go_simp
  refine (refSigned q1 (HZ.out q1 (by simp)).1 (HZ.out q1 (by simp)).2 x1).mono ?_
  rintro e x2 ⟨rfl, hb2⟩
  refine hK _ _ hb2 ?_
  clear hK K
  have B2 : Hid (Below (w.alloc (.cells #[.int .i64 q0, .int .i64 q1, .int .i64 q2, .int .i64 q3, .int .i64 q4, .int .i64 q5, .int .i64 q6, .int .i64 q7, .int .i64 q8, .int .i64 q9] 23)).heap.size (w.alloc (.cells #[.int .i64 q0, .int .i64 q1, .int .i64 q2, .int .i64 q3, .int .i64 q4, .int .i64 q5, .int .i64 q6, .int .i64 q7, .int .i64 q8, .int .i64 q9] 23)) x2) := Lib.hid (B1.out.trans (hb2.mono B1.out.size))
  replace ld0 := fun w' (h : Ext x2 w') => ld0 w' (Ext.trans hb2 h)
  replace ld1 := fun w' (h : Ext x2 w') => ld1 w' (Ext.trans hb2 h)
  replace ld2 := fun w' (h : Ext x2 w') => ld2 w' (Ext.trans hb2 h)
  replace ld3 := fun w' (h : Ext x2 w') => ld3 w' (Ext.trans hb2 h)
  replace ld4 := fun w' (h : Ext x2 w') => ld4 w' (Ext.trans hb2 h)
  replace ld5 := fun w' (h : Ext x2 w') => ld5 w' (Ext.trans hb2 h)
  replace ld6 := fun w' (h : Ext x2 w') => ld6 w' (Ext.trans hb2 h)
  replace ld7 := fun w' (h : Ext x2 w') => ld7 w' (Ext.trans hb2 h)
  replace ld8 := fun w' (h : Ext x2 w') => ld8 w' (Ext.trans hb2 h)
  replace ld9 := fun w' (h : Ext x2 w') => ld9 w' (Ext.trans hb2 h)
  clear hb2
  try simp only [List.getElem_toArray, List.getElem_cons_succ, List.getElem_cons_zero, Act.put, List.setIfInBounds_toArray, List.set_cons_zero, List.set_cons_succ]
  obtain ⟨z3, e3, l3, r3⟩ := catE z2 (Lib.itoa q1) 30 21 51 l2 (itoa_len (HZ.out q1 (by simp)).1 (HZ.out q1 (by simp)).2) (by decide) (by decide)
  obtain ⟨z4, e4, l4, r4⟩ := catE z3 [32] 51 1 52 l3 (by decide) (by decide) (by decide)
  iterate 2 (refine plan_pure (v := ?_) rfl (by rfl) (fun w' hw' => ?_) ?_; rotate_left; (focus (simp only [List.getElem_toArray, List.getElem_cons_succ, List.getElem_cons_zero]; go_simp; try with_reducible rfl)); try simp only [List.getElem_toArray, List.getElem_cons_succ, List.getElem_cons_zero, Act.put, List.setIfInBounds_toArray, List.set_cons_zero, List.set_cons_succ])
  refine plan_call rfl (by rfl) (fun K hK => ?_)
  go_simp
  refine (refSigned q2 (HZ.out q2 (by simp)).1 (HZ.out q2 (by simp)).2 x2).mono ?_
  rintro e x3 ⟨rfl, hb3⟩
  refine hK _ _ hb3 ?_
  clear hK K
  have B3 : Hid (Below (w.alloc (.cells #[.int .i64 q0, .int .i64 q1, .int .i64 q2, .int .i64 q3, .int .i64 q4, .int .i64 q5, .int .i64 q6, .int .i64 q7, .int .i64 q8, .int .i64 q9] 23)).heap.size (w.alloc (.cells #[.int .i64 q0, .int .i64 q1, .int .i64 q2, .int .i64 q3, .int .i64 q4, .int .i64 q5, .int .i64 q6, .int .i64 q7, .int .i64 q8, .int .i64 q9] 23)) x3) := Lib.hid (B2.out.trans (hb3.mono B2.out.size))
  replace ld0 := fun w' (h : Ext x3 w') => ld0 w' (Ext.trans hb3 h)
  replace ld1 := fun w' (h : Ext x3 w') => ld1 w' (Ext.trans hb3 h)
  replace ld2 := fun w' (h : Ext x3 w') => ld2 w' (Ext.trans hb3 h)
  replace ld3 := fun w' (h : Ext x3 w') => ld3 w' (Ext.trans hb3 h)
  replace ld4 := fun w' (h : Ext x3 w') => ld4 w' (Ext.trans hb3 h)
  replace ld5 := fun w' (h : Ext x3 w') => ld5 w' (Ext.trans hb3 h)
  replace ld6 := fun w' (h : Ext x3 w') => ld6 w' (Ext.trans hb3 h)
  replace ld7 := fun w' (h : Ext x3 w') => ld7 w' (Ext.trans hb3 h)
  replace ld8 := fun w' (h : Ext x3 w') => ld8 w' (Ext.trans hb3 h)
  replace ld9 := fun w' (h : Ext x3 w') => ld9 w' (Ext.trans hb3 h)
  clear hb3
  try simp only [List.getElem_toArray, List.getElem_cons_succ, List.getElem_cons_zero, Act.put, List.setIfInBounds_toArray, List.set_cons_zero, List.set_cons_succ]
  obtain ⟨z5, e5, l5, r5⟩ := catE z4 (Lib.itoa q2) 52 21 73 l4 (itoa_len (HZ.out q2 (by simp)).1 (HZ.out q2 (by simp)).2) (by decide) (by decide)
  obtain ⟨z6, e6, l6, r6⟩ := catE z5 [32] 73 1 74 l5 (by decide) (by decide) (by decide)
  iterate 2 (refine plan_pure (v := ?_) rfl (by rfl) (fun w' hw' => ?_) ?_; rotate_left; (focus (simp only [List.getElem_toArray, List.getElem_cons_succ, List.getElem_cons_zero]; go_simp; try with_reducible rfl)); try simp only [List.getElem_toArray, List.getElem_cons_succ, List.getElem_cons_zero, Act.put, List.setIfInBounds_toArray, List.set_cons_zero, List.set_cons_succ])
  refine plan_call rfl (by rfl) (fun K hK => ?_)
  go_simp
  refine (refSigned q3 (HZ.out q3 (by simp)).1 (HZ.out q3 (by simp)).2 x3).mono ?_
  rintro e x4 ⟨rfl, hb4⟩
  refine hK _ _ hb4 ?_
  clear hK K
  have B4 : Hid (Below (w.alloc (.cells #[.int .i64 q0, .int .i64 q1, .int .i64 q2, .int .i64 q3, .int .i64 q4, .int .i64 q5, .int .i64 q6, .int .i64 q7, .int .i64 q8, .int .i64 q9] 23)).heap.size (w.alloc (.cells #[.int .i64 q0, .int .i64 q1, .int .i64 q2, .int .i64 q3, .int .i64 q4, .int .i64 q5, .int .i64 q6, .int .i64 q7, .int .i64 q8, .int .i64 q9] 23)) x4) := Lib.hid (B3.out.trans (hb4.mono B3.out.size))
  replace ld0 := fun w' (h : Ext x4 w') => ld0 w' (Ext.trans hb4 h)
  replace ld1 := fun w' (h : Ext x4 w') => ld1 w' (Ext.trans hb4 h)
  replace ld2 := fun w' (h : Ext x4 w') => ld2 w' (Ext.trans hb4 h)
  replace ld3 := fun w' (h : Ext x4 w') => ld3 w' (Ext.trans hb4 h)
  replace ld4 := fun w' (h : Ext x4 w') => ld4 w' (Ext.trans hb4 h)
  replace ld5 := fun w' (h : Ext x4 w') => ld5 w' (Ext.trans hb4 h)
  replace ld6 := fun w' (h : Ext x4 w') => ld6 w' (Ext.trans hb4 h)
  replace ld7 := fun w' (h : Ext x4 w') => ld7 w' (Ext.trans hb4 h)
  replace ld8 := fun w' (h : Ext x4 w') => ld8 w' (Ext.trans hb4 h)
  replace ld9 := fun w' (h : Ext x4 w') => ld9 w' (Ext.trans hb4 h)
  clear hb4
  try simp only [List.getElem_toArray, List.getElem_cons_succ, List.getElem_cons_zero, Act.put, List.setIfInBounds_toArray, List.set_cons_zero, List.set_cons_succ]
  obtain ⟨z7, e7, l7, r7⟩ := catE z6 (Lib.itoa q3) 74 21 95 l6 (itoa_len (HZ.out q3 (by simp)).1 (HZ.out q3 (by simp)).2) (by decide) (by decide)
  obtain ⟨z8, e8, l8, r8⟩ := catE z7 [32] 95 1 96 l7 (by decide) (by decide) (by decide)
  iterate 2 (refine plan_pure (v := ?_) rfl (by rfl) (fun w' hw' => ?_) ?_; rotate_left; (focus (simp only [List.getElem_toArray, List.getElem_cons_succ, List.getElem_cons_zero]; go_simp; try with_reducible rfl)); try simp only [List.getElem_toArray, List.getElem_cons_succ, List.getElem_cons_zero, Act.put, List.setIfInBounds_toArray, List.set_cons_zero, List.set_cons_succ])
  refine plan_call rfl (by rfl) (fun K hK => ?_)
  go_simp
  refine (refSigned q4 (HZ.out q4 (by simp)).1 (HZ.out q4 (by simp)).2 x4).mono ?_
  rintro e x5 ⟨rfl, hb5⟩
  refine hK _ _ hb5 ?_
  clear hK K
  have B5 : Hid (Below (w.alloc (.cells #[.int .i64 q0, .int .i64 q1, .int .i64 q2, .int .i64 q3, .int .i64 q4, .int .i64 q5, .int .i64 q6, .int .i64 q7, .int .i64 q8, .int .i64 q9] 23)).heap.size (w.alloc (.cells #[.int .i64 q0, .int .i64 q1, .int .i64 q2, .int .i64 q3, .int .i64 q4, .int .i64 q5, .int .i64 q6, .int .i64 q7, .int .i64 q8, .int .i64 q9] 23)) x5) := Lib.hid (B4.out.trans (hb5.mono B4.out.size))
  replace ld0 := fun w' (h : Ext x5 w') => ld0 w' (Ext.trans hb5 h)
  replace ld1 := fun w' (h : Ext x5 w') => ld1 w' (Ext.trans hb5 h)
  replace ld2 := fun w' (h : Ext x5 w') => ld2 w' (Ext.trans hb5 h)
  replace ld3 := fun w' (h : Ext x5 w') => ld3 w' (Ext.trans hb5 h)
  replace ld4 := fun w' (h : Ext x5 w') => ld4 w' (Ext.trans hb5 h)
  replace ld5 := fun w' (h : Ext x5 w') => ld5 w' (Ext.trans hb5 h)
  replace ld6 := fun w' (h : Ext x5 w') => ld6 w' (Ext.trans hb5 h)
  replace ld7 := fun w' (h : Ext x5 w') => ld7 w' (Ext.trans hb5 h)
  replace ld8 := fun w' (h : Ext x5 w') => ld8 w' (Ext.trans hb5 h)
  replace ld9 := fun w' (h : Ext x5 w') => ld9 w' (Ext.trans hb5 h)
  clear hb5
  try simp only [List.getElem_toArray, List.getElem_cons_succ, List.getElem_cons_zero, Act.put, List.setIfInBounds_toArray, List.set_cons_zero, List.set_cons_succ]
  obtain ⟨z9, e9, l9, r9⟩ := catE z8 (Lib.itoa q4) 96 21 117 l8 (itoa_len (HZ.out q4 (by simp)).1 (HZ.out q4 (by simp)).2) (by decide) (by decide)
  obtain ⟨z10, e10, l10, r10⟩ := catE z9 [32] 117 1 118 l9 (by decide) (by decide) (by decide)
  iterate 2 (refine plan_pure (v := ?_) rfl (by rfl) (fun w' hw' => ?_) ?_; rotate_left; (focus (simp only [List.getElem_toArray, List.getElem_cons_succ, List.getElem_cons_zero]; go_simp; try with_reducible rfl)); try simp only [List.getElem_toArray, List.getElem_cons_succ, List.getElem_cons_zero, Act.put, List.setIfInBounds_toArray, List.set_cons_zero, List.set_cons_succ])
  refine plan_call rfl (by rfl) (fun K hK => ?_)
  go_simp
  refine (refSigned q5 (HZ.out q5 (by simp)).1 (HZ.out q5 (by simp)).2 x5).mono ?_
  rintro e x6 ⟨rfl, hb6⟩
  refine hK _ _ hb6 ?_
  clear hK K
  have B6 : Hid (Below (w.alloc (.cells #[.int .i64 q0, .int .i64 q1, .int .i64 q2, .int .i64 q3, .int .i64 q4, .int .i64 q5, .int .i64 q6, .int .i64 q7, .int .i64 q8, .int .i64 q9] 23)).heap.size (w.alloc (.cells #[.int .i64 q0, .int .i64 q1, .int .i64 q2, .int .i64 q3, .int .i64 q4, .int .i64 q5, .int .i64 q6, .int .i64 q7, .int .i64 q8, .int .i64 q9] 23)) x6) := Lib.hid (B5.out.trans (hb6.mono B5.out.size))
  replace ld0 := fun w' (h : Ext x6 w') => ld0 w' (Ext.trans hb6 h)
  replace ld1 := fun w' (h : Ext x6 w') => ld1 w' (Ext.trans hb6 h)
  replace ld2 := fun w' (h : Ext x6 w') => ld2 w' (Ext.trans hb6 h)
  replace ld3 := fun w' (h : Ext x6 w') => ld3 w' (Ext.trans hb6 h)
  replace ld4 := fun w' (h : Ext x6 w') => ld4 w' (Ext.trans hb6 h)
  replace ld5 := fun w' (h : Ext x6 w') => ld5 w' (Ext.trans hb6 h)
  replace ld6 := fun w' (h : Ext x6 w') => ld6 w' (Ext.trans hb6 h)
  replace ld7 := fun w' (h : Ext x6 w') => ld7 w' (Ext.trans hb6 h)
  replace ld8 := fun w' (h : Ext x6 w') => ld8 w' (Ext.trans hb6 h)
  replace ld9 := fun w' (h : Ext x6 w') => ld9 w' (Ext.trans hb6 h)
  clear hb6
  try simp only [List.getElem_toArray, List.getElem_cons_succ, List.getElem_cons_zero, Act.put, List.setIfInBounds_toArray, List.set_cons_zero, List.set_cons_succ]
  obtain ⟨z11, e11, l11, r11⟩ := catE z10 (Lib.itoa q5) 118 21 139 l10 (itoa_len (HZ.out q5 (by simp)).1 (HZ.out q5 (by simp)).2) (by decide) (by decide)
  obtain ⟨z12, e12, l12, r12⟩ := catE z11 [32] 139 1 140 l11 (by decide) (by decide) (by decide)
  iterate 2 (refine plan_pure (v := ?_) rfl (by rfl) (fun w' hw' => ?_) ?_; rotate_left; (focus (simp only [List.getElem_toArray, List.getElem_cons_succ, List.getElem_cons_zero]; go_simp; try with_reducible rfl)); try simp only [List.getElem_toArray, List.getElem_cons_succ, List.getElem_cons_zero, Act.put, List.setIfInBounds_toArray, List.set_cons_zero, List.set_cons_succ])
  refine plan_call rfl (by rfl) (fun K hK => ?_)
  go_simp
  refine (refSigned q6 (HZ.out q6 (by simp)).1 (HZ.out q6 (by simp)).2 x6).mono ?_
  rintro e x7 ⟨rfl, hb7⟩
  refine hK _ _ hb7 ?_
  clear hK K
  have B7 : Hid (Below (w.alloc (.cells #[.int .i64 q0, .int .i64 q1, .int .i64 q2, .int .i64 q3, .int .i64 q4, .int .i64 q5, .int .i64 q6, .int .i64 q7, .int .i64 q8, .int .i64 q9] 23)).heap.size (w.alloc (.cells #[.int .i64 q0, .int .i64 q1, .int .i64 q2, .int .i64 q3, .int .i64 q4, .int .i64 q5, .int .i64 q6, .int .i64 q7, .int .i64 q8, .int .i64 q9] 23)) x7) := Lib.hid (B6.out.trans (hb7.mono B6.out.size))
  replace ld0 := fun w' (h : Ext x7 w') => ld0 w' (Ext.trans hb7 h)
  replace ld1 := fun w' (h : Ext x7 w') => ld1 w' (Ext.trans hb7 h)
  replace ld2 := fun w' (h : Ext x7 w') => ld2 w' (Ext.trans hb7 h)
  replace ld3 := fun w' (h : Ext x7 w') => ld3 w' (Ext.trans hb7 h)
  replace ld4 := fun w' (h : Ext x7 w') => ld4 w' (Ext.trans hb7 h)
  replace ld5 := fun w' (h : Ext x7 w') => ld5 w' (Ext.trans hb7 h)
  replace ld6 := fun w' (h : Ext x7 w') => ld6 w' (Ext.trans hb7 h)
  replace ld7 := fun w' (h : Ext x7 w') => ld7 w' (Ext.trans hb7 h)
  replace ld8 := fun w' (h : Ext x7 w') => ld8 w' (Ext.trans hb7 h)
  replace ld9 := fun w' (h : Ext x7 w') => ld9 w' (Ext.trans hb7 h)
  clear hb7
  try simp only [List.getElem_toArray, List.getElem_cons_succ, List.getElem_cons_zero, Act.put, List.setIfInBounds_toArray, List.set_cons_zero, List.set_cons_succ]
  obtain ⟨z13, e13, l13, r13⟩ := catE z12 (Lib.itoa q6) 140 21 161 l12 (itoa_len (HZ.out q6 (by simp)).1 (HZ.out q6 (by simp)).2) (by decide) (by decide)
  obtain ⟨z14, e14, l14, r14⟩ := catE z13 [32] 161 1 162 l13 (by decide) (by decide) (by decide)
  iterate 2 (refine plan_pure (v := ?_) rfl (by rfl) (fun w' hw' => ?_) ?_; rotate_left; (focus (simp only [List.getElem_toArray, List.getElem_cons_succ, List.getElem_cons_zero]; go_simp; try with_reducible rfl)); try simp only [List.getElem_toArray, List.getElem_cons_succ, List.getElem_cons_zero, Act.put, List.setIfInBounds_toArray, List.set_cons_zero, List.set_cons_succ])
  refine plan_call rfl (by rfl) (fun K hK => ?_)
  go_simp
  refine (refSigned q7 (HZ.out q7 (by simp)).1 (HZ.out q7 (by simp)).2 x7).mono ?_
  rintro e x8 ⟨rfl, hb8⟩
  refine hK _ _ hb8 ?_
  clear hK K
  have B8 : Hid (Below (w.alloc (.cells #[.int .i64 q0, .int .i64 q1, .int .i64 q2, .int .i64 q3, .int .i64 q4, .int .i64 q5, .int .i64 q6, .int .i64 q7, .int .i64 q8, .int .i64 q9] 23)).heap.size (w.alloc (.cells #[.int .i64 q0, .int .i64 q1, .int .i64 q2, .int .i64 q3, .int .i64 q4, .int .i64 q5, .int .i64 q6, .int .i64 q7, .int .i64 q8, .int .i64 q9] 23)) x8) := Lib.hid (B7.out.trans (hb8.mono B7.out.size))
  replace ld0 := fun w' (h : Ext x8 w') => ld0 w' (Ext.trans hb8 h)
  replace ld1 := fun w' (h : Ext x8 w') => ld1 w' (Ext.trans hb8 h)
  replace ld2 := fun w' (h : Ext x8 w') => ld2 w' (Ext.trans hb8 h)
  replace ld3 := fun w' (h : Ext x8 w') => ld3 w' (Ext.trans hb8 h)
  replace ld4 := fun w' (h : Ext x8 w') => ld4 w' (Ext.trans hb8 h)
  replace ld5 := fun w' (h : Ext x8 w') => ld5 w' (Ext.trans hb8 h)
  replace ld6 := fun w' (h : Ext x8 w') => ld6 w' (Ext.trans hb8 h)
  replace ld7 := fun w' (h : Ext x8 w') => ld7 w' (Ext.trans hb8 h)
  replace ld8 := fun w' (h : Ext x8 w') => ld8 w' (Ext.trans hb8 h)
  replace ld9 := fun w' (h : Ext x8 w') => ld9 w' (Ext.trans hb8 h)
  clear hb8
  try simp only [List.getElem_toArray, List.getElem_cons_succ, List.getElem_cons_zero, Act.put, List.setIfInBounds_toArray, List.set_cons_zero, List.set_cons_succ]
  obtain ⟨z15, e15, l15, r15⟩ := catE z14 (Lib.itoa q7) 162 21 183 l14 (itoa_len (HZ.out q7 (by simp)).1 (HZ.out q7 (by simp)).2) (by decide) (by decide)
  obtain ⟨z16, e16, l16, r16⟩ := catE z15 [32] 183 1 184 l15 (by decide) (by decide) (by decide)
  iterate 2 (refine plan_pure (v := ?_) rfl (by rfl) (fun w' hw' => ?_) ?_; rotate_left; (focus (simp only [List.getElem_toArray, List.getElem_cons_succ, List.getElem_cons_zero]; go_simp; try with_reducible rfl)); try simp only [List.getElem_toArray, List.getElem_cons_succ, List.getElem_cons_zero, Act.put, List.setIfInBounds_toArray, List.set_cons_zero, List.set_cons_succ])
  refine plan_call rfl (by rfl) (fun K hK => ?_)
  go_simp
  refine (refSigned q8 (HZ.out q8 (by simp)).1 (HZ.out q8 (by simp)).2 x8).mono ?_
  rintro e x9 ⟨rfl, hb9⟩
  refine hK _ _ hb9 ?_
  clear hK K
  have B9 : Hid (Below (w.alloc (.cells #[.int .i64 q0, .int .i64 q1, .int .i64 q2, .int .i64 q3, .int .i64 q4, .int .i64 q5, .int .i64 q6, .int .i64 q7, .int .i64 q8, .int .i64 q9] 23)).heap.size (w.alloc (.cells #[.int .i64 q0, .int .i64 q1, .int .i64 q2, .int .i64 q3, .int .i64 q4, .int .i64 q5, .int .i64 q6, .int .i64 q7, .int .i64 q8, .int .i64 q9] 23)) x9) := Lib.hid (B8.out.trans (hb9.mono B8.out.size))
  replace ld0 := fun w' (h : Ext x9 w') => ld0 w' (Ext.trans hb9 h)
  replace ld1 := fun w' (h : Ext x9 w') => ld1 w' (Ext.trans hb9 h)
  replace ld2 := fun w' (h : Ext x9 w') => ld2 w' (Ext.trans hb9 h)
  replace ld3 := fun w' (h : Ext x9 w') => ld3 w' (Ext.trans hb9 h)
  replace ld4 := fun w' (h : Ext x9 w') => ld4 w' (Ext.trans hb9 h)
  replace ld5 := fun w' (h : Ext x9 w') => ld5 w' (Ext.trans hb9 h)
  replace ld6 := fun w' (h : Ext x9 w') => ld6 w' (Ext.trans hb9 h)
  replace ld7 := fun w' (h : Ext x9 w') => ld7 w' (Ext.trans hb9 h)
  replace ld8 := fun w' (h : Ext x9 w') => ld8 w' (Ext.trans hb9 h)
  replace ld9 := fun w' (h : Ext x9 w') => ld9 w' (Ext.trans hb9 h)
  clear hb9
  try simp only [List.getElem_toArray, List.getElem_cons_succ, List.getElem_cons_zero, Act.put, List.setIfInBounds_toArray, List.set_cons_zero, List.set_cons_succ]
  obtain ⟨z17, e17, l17, r17⟩ := catE z16 (Lib.itoa q8) 184 21 205 l16 (itoa_len (HZ.out q8 (by simp)).1 (HZ.out q8 (by simp)).2) (by decide) (by decide)
  obtain ⟨z18, e18, l18, r18⟩ := catE z17 [32] 205 1 206 l17 (by decide) (by decide) (by decide)
  iterate 2 (refine plan_pure (v := ?_) rfl (by rfl) (fun w' hw' => ?_) ?_; rotate_left; (focus (simp only [List.getElem_toArray, List.getElem_cons_succ, List.getElem_cons_zero]; go_simp; try with_reducible rfl)); try simp only [List.getElem_toArray, List.getElem_cons_succ, List.getElem_cons_zero, Act.put, List.setIfInBounds_toArray, List.set_cons_zero, List.set_cons_succ])
  refine plan_call rfl (by rfl) (fun K hK => ?_)
  go_simp
  refine (refSigned q9 (HZ.out q9 (by simp)).1 (HZ.out q9 (by simp)).2 x9).mono ?_
  rintro e x10 ⟨rfl, hb10⟩
  refine hK _ _ hb10 ?_
  clear hK K
  have B10 : Hid (Below (w.alloc (.cells #[.int .i64 q0, .int .i64 q1, .int .i64 q2, .int .i64 q3, .int .i64 q4, .int .i64 q5, .int .i64 q6, .int .i64 q7, .int .i64 q8, .int .i64 q9] 23)).heap.size (w.alloc (.cells #[.int .i64 q0, .int .i64 q1, .int .i64 q2, .int .i64 q3, .int .i64 q4, .int .i64 q5, .int .i64 q6, .int .i64 q7, .int .i64 q8, .int .i64 q9] 23)) x10) := Lib.hid (B9.out.trans (hb10.mono B9.out.size))
  replace ld0 := fun w' (h : Ext x10 w') => ld0 w' (Ext.trans hb10 h)
  replace ld1 := fun w' (h : Ext x10 w') => ld1 w' (Ext.trans hb10 h)
  replace ld2 := fun w' (h : Ext x10 w') => ld2 w' (Ext.trans hb10 h)
  replace ld3 := fun w' (h : Ext x10 w') => ld3 w' (Ext.trans hb10 h)
  replace ld4 := fun w' (h : Ext x10 w') => ld4 w' (Ext.trans hb10 h)
  replace ld5 := fun w' (h : Ext x10 w') => ld5 w' (Ext.trans hb10 h)
  replace ld6 := fun w' (h : Ext x10 w') => ld6 w' (Ext.trans hb10 h)
  replace ld7 := fun w' (h : Ext x10 w') => ld7 w' (Ext.trans hb10 h)
  replace ld8 := fun w' (h : Ext x10 w') => ld8 w' (Ext.trans hb10 h)
  replace ld9 := fun w' (h : Ext x10 w') => ld9 w' (Ext.trans hb10 h)
  clear hb10
  try simp only [List.getElem_toArray, List.getElem_cons_succ, List.getElem_cons_zero, Act.put, List.setIfInBounds_toArray, List.set_cons_zero, List.set_cons_succ]
  obtain ⟨z19, e19, l19, r19⟩ := catE z18 (Lib.itoa q9) 206 21 227 l18 (itoa_len (HZ.out q9 (by simp)).1 (HZ.out q9 (by simp)).2) (by decide) (by decide)
  iterate 2 (refine plan_pure (v := ?_) rfl (by rfl) (fun w' hw' => ?_) ?_; rotate_left; (focus (simp only [List.getElem_toArray, List.getElem_cons_succ, List.getElem_cons_zero]; go_simp; try with_reducible rfl)); try simp only [List.getElem_toArray, List.getElem_cons_succ, List.getElem_cons_zero, Act.put, List.setIfInBounds_toArray, List.set_cons_zero, List.set_cons_succ])
  refine plan_end ?_
  go_wp2_with fail
  go_ret
  exact ⟨by rw [e19.out, e18.out, e17.out, e16.out, e15.out, e14.out, e13.out, e12.out, e11.out, e10.out, e9.out, e8.out, e7.out, e6.out, e5.out, e4.out, e3.out, e2.out, e1.out]; simp [tailw, setLine, setWord], hB.trans (B10.out.mono hB.size)⟩
end Go.Proofs.YtcinohmhhglpjaaDoor
