/- Contract of the reference's Call (printed by gen_scrrcall.py). -/
import Derived.Test.YtcinohmhhglpjaaDoorScrCa
import Derived.Test.YtcinohmhhglpjaaDoorScrRw
namespace Go.Proofs.YtcinohmhhglpjaaDoor
open Go.RowKit

/-- What the reference's Call answers. -/
def RefCallE (c : Cl) (w : World) (e : Ending) (w' : World) : Prop :=
  e = .returned (.tuple #[.string ⟨(if c.ok = true then c.line else []).toArray⟩, .bool c.ok]) ∧ Below w.heap.size w w'
theorem refCallE_no {c : Cl} {w w' : World} (h : c.ok = false) (hb : Below w.heap.size w w') : RefCallE c w (.returned (.tuple #[.string ⟨#[]⟩, .bool false])) w' := by
  unfold RefCallE; rw [h]; exact ⟨rfl, hb⟩
theorem refCallE_yes {c : Cl} {w w' : World} {l : List UInt8} (h : c.ok = true) (hl : l = c.line) (hb : Below w.heap.size w w') : RefCallE c w (.returned (.tuple #[.string ⟨l.toArray⟩, .bool true])) w' := by
  subst hl; unfold RefCallE; rw [h]; exact ⟨rfl, hb⟩
set_option maxRecDepth 20000 in
set_option maxHeartbeats 8000000 in
theorem refCallLook (c : Cl) (hc : c.wf) (hlk : c.look = true) (hlz : c.lazy = false) (hok : c.ok = true) (w : World) : Calls Tryd.prog 17 #[.agg c.cells.toArray] w (RefCallE c w) := by
  have HOK := Lib.hid hok
  have hok' := hok
  simp only [Cl.ok, hlk, if_true, Bool.and_eq_true, decide_eq_true_eq] at hok'
  obtain ⟨⟨hkl, hcz⟩, hrz⟩ := hok'
  have HCE := Lib.hid (fun W => cmd_eq c.cmd Cm.zero W 9998)
  have HRE := Lib.hid (fun W => rep_eq c.rep Rp.zero W 9998)
  rw [cm_zero_cells, decide_eq_true hcz] at HCE
  rw [rp_zero_cells, decide_eq_true hrz] at HRE
  have HLN : Hid (c.line = [108, 111, 111, 107] ++ tailw ([Lib.itoa c.edge, Lib.itoa c.beg, Lib.itoa c.fin] ++ [120 :: hexs c.key, Lib.itoa c.cap, Lib.itoa c.lent])) := Lib.hid (by simp [Cl.line, Cl.head, Cl.rest, hlk, hlz, wLook, wLazy])
  obtain ⟨⟨g1, g2⟩, hcw, _, ⟨g3, g4⟩, ⟨g5, g6⟩, ⟨⟨g7, g8⟩, ⟨g9, g10⟩, ⟨q1, q2⟩, ⟨g11, g12⟩, ⟨g13, g14⟩, g15, g16⟩, ⟨g17, g18⟩, g19, g20⟩ := hc
  have HYES := Lib.hid (fun l (hl : l = c.line) w' hb => refCallE_yes (w := w) (w' := w') (l := l) HOK.out hl hb)
  clear hok hcz hrz hcw
  obtain ⟨edge, look, lazy, ⟨ses, seq, op, ckey, amount, span, lease⟩, key, beg, fin, ⟨rses, rseq, re, rlease, ramount, rtil⟩, cap, lent⟩ := c
  simp only at *
  subst hlk hlz
  unfold Cl.cells Cm.cells Rp.cells at *
  simp only [List.cons_append, List.nil_append] at *
  have hce := HCE.out
  have hre := HRE.out
  have hk : ¬ (64 : Int) < (key.length : Int) := by omega
  clear HCE HRE
  have hbk := Blk.new w #[.int .i64 edge, .bool true, .bool false, .int .u64 ses, .int .u64 seq, .int .i64 op, .string ⟨ckey.toArray⟩, .int .i64 amount, .int .i64 span, .int .u64 lease, .string ⟨key.toArray⟩, .int .i64 beg, .int .i64 fin, .int .u64 rses, .int .u64 rseq, .int .i64 re, .int .u64 rlease, .int .i64 ramount, .int .i64 rtil, .int .i64 cap, .int .i64 lent] 48
  have hB0 : Below w.heap.size w (w.alloc (.cells #[.int .i64 edge, .bool true, .bool false, .int .u64 ses, .int .u64 seq, .int .i64 op, .string ⟨ckey.toArray⟩, .int .i64 amount, .int .i64 span, .int .u64 lease, .string ⟨key.toArray⟩, .int .i64 beg, .int .i64 fin, .int .u64 rses, .int .u64 rseq, .int .i64 re, .int .u64 rlease, .int .i64 ramount, .int .i64 rtil, .int .i64 cap, .int .i64 lent] 48)) := (Below.refl _ _).alloc (Nat.le_refl _) _
  go_enter Tryd.func17, Tryd.ntmps17
  go_wp2_with fail
  refine wp_region_plan_gen (by kernel_rfl) [(0, true), (1, true), (5, true), (6, true), (10, true), (11, true), (2, false), (3, true), (4, true), (7, false), (8, true), (9, true), (12, false), (13, true), (14, true)] (by kernel_rfl) (by kernel_rfl) (by decide) ?_
  intro x0 hx0
  have B0 : Hid (Below (w.alloc (.cells #[.int .i64 edge, .bool true, .bool false, .int .u64 ses, .int .u64 seq, .int .i64 op, .string ⟨ckey.toArray⟩, .int .i64 amount, .int .i64 span, .int .u64 lease, .string ⟨key.toArray⟩, .int .i64 beg, .int .i64 fin, .int .u64 rses, .int .u64 rseq, .int .i64 re, .int .u64 rlease, .int .i64 ramount, .int .i64 rtil, .int .i64 cap, .int .i64 lent] 48)).heap.size (w.alloc (.cells #[.int .i64 edge, .bool true, .bool false, .int .u64 ses, .int .u64 seq, .int .i64 op, .string ⟨ckey.toArray⟩, .int .i64 amount, .int .i64 span, .int .u64 lease, .string ⟨key.toArray⟩, .int .i64 beg, .int .i64 fin, .int .u64 rses, .int .u64 rseq, .int .i64 re, .int .u64 rlease, .int .i64 ramount, .int .i64 rtil, .int .i64 cap, .int .i64 lent] 48)) x0) := Lib.hid (by rw [hx0]; exact (Below.refl _ _).drew)
  have hbx0 := hbk.kept (show Below (w.alloc (.cells #[.int .i64 edge, .bool true, .bool false, .int .u64 ses, .int .u64 seq, .int .i64 op, .string ⟨ckey.toArray⟩, .int .i64 amount, .int .i64 span, .int .u64 lease, .string ⟨key.toArray⟩, .int .i64 beg, .int .i64 fin, .int .u64 rses, .int .u64 rseq, .int .i64 re, .int .u64 rlease, .int .i64 ramount, .int .i64 rtil, .int .i64 cap, .int .i64 lent] 48)).heap.size (w.alloc (.cells #[.int .i64 edge, .bool true, .bool false, .int .u64 ses, .int .u64 seq, .int .i64 op, .string ⟨ckey.toArray⟩, .int .i64 amount, .int .i64 span, .int .u64 lease, .string ⟨key.toArray⟩, .int .i64 beg, .int .i64 fin, .int .u64 rses, .int .u64 rseq, .int .i64 re, .int .u64 rlease, .int .i64 ramount, .int .i64 rtil, .int .i64 cap, .int .i64 lent] 48)) x0 by rw [hx0]; exact (Below.refl _ _).drew)
  have ld0 : ∀ w', Ext x0 w' → w'.cell? ⟨w.heap.size, 0, none⟩ = some (.int .i64 edge) := fun w' hw => (hbx0.kept hw).cell 0 rfl
  have ld1 : ∀ w', Ext x0 w' → w'.cell? ⟨w.heap.size, 11, none⟩ = some (.int .i64 beg) := fun w' hw => (hbx0.kept hw).cell 11 rfl
  have ld2 : ∀ w', Ext x0 w' → w'.cell? ⟨w.heap.size, 12, none⟩ = some (.int .i64 fin) := fun w' hw => (hbx0.kept hw).cell 12 rfl
  clear hx0 hbx0
  iterate 6 (refine plan_pure (v := ?_) rfl (by rfl) (fun w' hw' => ?_) ?_; rotate_left; (focus (simp only [List.getElem_toArray, List.getElem_cons_succ, List.getElem_cons_zero]; go_simp; try with_reducible rfl)); try simp only [List.getElem_toArray, List.getElem_cons_succ, List.getElem_cons_zero, Act.put, List.setIfInBounds_toArray, List.set_cons_zero, List.set_cons_succ])
  refine plan_call rfl (by rfl) (fun K hK => ?_)
  go_simp
  refine (refSigned edge g1 g2 x0).mono ?_
  rintro e x1 ⟨rfl, hb1⟩
  refine hK _ _ hb1 ?_
  clear hK K
  have B1 : Hid (Below (w.alloc (.cells #[.int .i64 edge, .bool true, .bool false, .int .u64 ses, .int .u64 seq, .int .i64 op, .string ⟨ckey.toArray⟩, .int .i64 amount, .int .i64 span, .int .u64 lease, .string ⟨key.toArray⟩, .int .i64 beg, .int .i64 fin, .int .u64 rses, .int .u64 rseq, .int .i64 re, .int .u64 rlease, .int .i64 ramount, .int .i64 rtil, .int .i64 cap, .int .i64 lent] 48)).heap.size (w.alloc (.cells #[.int .i64 edge, .bool true, .bool false, .int .u64 ses, .int .u64 seq, .int .i64 op, .string ⟨ckey.toArray⟩, .int .i64 amount, .int .i64 span, .int .u64 lease, .string ⟨key.toArray⟩, .int .i64 beg, .int .i64 fin, .int .u64 rses, .int .u64 rseq, .int .i64 re, .int .u64 rlease, .int .i64 ramount, .int .i64 rtil, .int .i64 cap, .int .i64 lent] 48)) x1) := Lib.hid (B0.out.trans (hb1.mono B0.out.size))
  replace ld0 := fun w' (h : Ext x1 w') => ld0 w' (Ext.trans hb1 h)
  replace ld1 := fun w' (h : Ext x1 w') => ld1 w' (Ext.trans hb1 h)
  replace ld2 := fun w' (h : Ext x1 w') => ld2 w' (Ext.trans hb1 h)
  clear hb1
  try simp only [List.getElem_toArray, List.getElem_cons_succ, List.getElem_cons_zero, Act.put, List.setIfInBounds_toArray, List.set_cons_zero, List.set_cons_succ]
  obtain ⟨z1, e1, l1, r1⟩ := catE [32] (Lib.itoa edge) 1 21 22 (by decide) (itoa_len g1 g2) (by decide) (by decide)
  obtain ⟨z2, e2, l2, r2⟩ := catE z1 [32] 22 1 23 l1 (by decide) (by decide) (by decide)
  iterate 2 (refine plan_pure (v := ?_) rfl (by rfl) (fun w' hw' => ?_) ?_; rotate_left; (focus (simp only [List.getElem_toArray, List.getElem_cons_succ, List.getElem_cons_zero]; go_simp; try with_reducible rfl)); try simp only [List.getElem_toArray, List.getElem_cons_succ, List.getElem_cons_zero, Act.put, List.setIfInBounds_toArray, List.set_cons_zero, List.set_cons_succ])
  refine plan_call rfl (by rfl) (fun K hK => ?_)
  go_simp
  refine (refSigned beg g3 g4 x1).mono ?_
  rintro e x2 ⟨rfl, hb2⟩
  refine hK _ _ hb2 ?_
  clear hK K
  have B2 : Hid (Below (w.alloc (.cells #[.int .i64 edge, .bool true, .bool false, .int .u64 ses, .int .u64 seq, .int .i64 op, .string ⟨ckey.toArray⟩, .int .i64 amount, .int .i64 span, .int .u64 lease, .string ⟨key.toArray⟩, .int .i64 beg, .int .i64 fin, .int .u64 rses, .int .u64 rseq, .int .i64 re, .int .u64 rlease, .int .i64 ramount, .int .i64 rtil, .int .i64 cap, .int .i64 lent] 48)).heap.size (w.alloc (.cells #[.int .i64 edge, .bool true, .bool false, .int .u64 ses, .int .u64 seq, .int .i64 op, .string ⟨ckey.toArray⟩, .int .i64 amount, .int .i64 span, .int .u64 lease, .string ⟨key.toArray⟩, .int .i64 beg, .int .i64 fin, .int .u64 rses, .int .u64 rseq, .int .i64 re, .int .u64 rlease, .int .i64 ramount, .int .i64 rtil, .int .i64 cap, .int .i64 lent] 48)) x2) := Lib.hid (B1.out.trans (hb2.mono B1.out.size))
  replace ld0 := fun w' (h : Ext x2 w') => ld0 w' (Ext.trans hb2 h)
  replace ld1 := fun w' (h : Ext x2 w') => ld1 w' (Ext.trans hb2 h)
  replace ld2 := fun w' (h : Ext x2 w') => ld2 w' (Ext.trans hb2 h)
  clear hb2
  try simp only [List.getElem_toArray, List.getElem_cons_succ, List.getElem_cons_zero, Act.put, List.setIfInBounds_toArray, List.set_cons_zero, List.set_cons_succ]
  obtain ⟨z3, e3, l3, r3⟩ := catE z2 (Lib.itoa beg) 23 21 44 l2 (itoa_len g3 g4) (by decide) (by decide)
  obtain ⟨z4, e4, l4, r4⟩ := catE z3 [32] 44 1 45 l3 (by decide) (by decide) (by decide)
  iterate 2 (refine plan_pure (v := ?_) rfl (by rfl) (fun w' hw' => ?_) ?_; rotate_left; (focus (simp only [List.getElem_toArray, List.getElem_cons_succ, List.getElem_cons_zero]; go_simp; try with_reducible rfl)); try simp only [List.getElem_toArray, List.getElem_cons_succ, List.getElem_cons_zero, Act.put, List.setIfInBounds_toArray, List.set_cons_zero, List.set_cons_succ])
  refine plan_call rfl (by rfl) (fun K hK => ?_)
  go_simp
  refine (refSigned fin g5 g6 x2).mono ?_
  rintro e x3 ⟨rfl, hb3⟩
  refine hK _ _ hb3 ?_
  clear hK K
  have B3 : Hid (Below (w.alloc (.cells #[.int .i64 edge, .bool true, .bool false, .int .u64 ses, .int .u64 seq, .int .i64 op, .string ⟨ckey.toArray⟩, .int .i64 amount, .int .i64 span, .int .u64 lease, .string ⟨key.toArray⟩, .int .i64 beg, .int .i64 fin, .int .u64 rses, .int .u64 rseq, .int .i64 re, .int .u64 rlease, .int .i64 ramount, .int .i64 rtil, .int .i64 cap, .int .i64 lent] 48)).heap.size (w.alloc (.cells #[.int .i64 edge, .bool true, .bool false, .int .u64 ses, .int .u64 seq, .int .i64 op, .string ⟨ckey.toArray⟩, .int .i64 amount, .int .i64 span, .int .u64 lease, .string ⟨key.toArray⟩, .int .i64 beg, .int .i64 fin, .int .u64 rses, .int .u64 rseq, .int .i64 re, .int .u64 rlease, .int .i64 ramount, .int .i64 rtil, .int .i64 cap, .int .i64 lent] 48)) x3) := Lib.hid (B2.out.trans (hb3.mono B2.out.size))
  replace ld0 := fun w' (h : Ext x3 w') => ld0 w' (Ext.trans hb3 h)
  replace ld1 := fun w' (h : Ext x3 w') => ld1 w' (Ext.trans hb3 h)
  replace ld2 := fun w' (h : Ext x3 w') => ld2 w' (Ext.trans hb3 h)
  clear hb3
  try simp only [List.getElem_toArray, List.getElem_cons_succ, List.getElem_cons_zero, Act.put, List.setIfInBounds_toArray, List.set_cons_zero, List.set_cons_succ]
  obtain ⟨z5, e5, l5, r5⟩ := catE z4 (Lib.itoa fin) 45 21 66 l4 (itoa_len g5 g6) (by decide) (by decide)
  iterate 2 (refine plan_pure (v := ?_) rfl (by rfl) (fun w' hw' => ?_) ?_; rotate_left; (focus (simp only [List.getElem_toArray, List.getElem_cons_succ, List.getElem_cons_zero]; go_simp; try with_reducible rfl)); try simp only [List.getElem_toArray, List.getElem_cons_succ, List.getElem_cons_zero, Act.put, List.setIfInBounds_toArray, List.set_cons_zero, List.set_cons_succ])
  refine plan_end ?_
  have HHD : Hid (z5 = tailw [Lib.itoa edge, Lib.itoa beg, Lib.itoa fin]) := Lib.hid (by rw [e5.out, e4.out, e3.out, e2.out, e1.out]; simp [tailw])
  have HB3 := Lib.hid (hB0.trans (B3.out.mono hB0.size))
  have hk3 := hbk.kept B3.out
  have hlt := hk3.lt
  have d0 := hk3.cell 13 rfl; have d1 := hk3.cell 14 rfl; have d2 := hk3.cell 15 rfl; have d3 := hk3.cell 16 rfl; have d4 := hk3.cell 17 rfl; have d5 := hk3.cell 18 rfl
  have HN := Lib.hid (Blk.new x3 #[.int .u64 0, .int .u64 0, .int .i64 0, .int .u64 0, .int .i64 0, .int .i64 0] 46)
  obtain ⟨hb4, hr4⟩ := laid_row x3 #[.int .u64 0, .int .u64 0, .int .i64 0, .int .u64 0, .int .i64 0, .int .i64 0] #[.int .u64 rses, .int .u64 rseq, .int .i64 re, .int .u64 rlease, .int .i64 ramount, .int .i64 rtil] 46
  have HK4 := Lib.hid (hk3.kept hb4)
  have HR4 := Lib.hid hr4
  have HB4 := Lib.hid (HB3.out.trans (hb4.mono HB3.out.size))
  clear ld0 ld1 ld2 e1 e2 e3 e4 e5 l1 l2 l3 l4 r1 r2 r3 r4 r5 B0 B1 B2 B3 hbk hB0 hk3 hb4 hr4 HB3
  obtain ⟨rb, hrb⟩ : ∃ n, n = x3.heap.size := ⟨_, rfl⟩
  go_wp2_with ((refine wpList_store_row rfl 46 (.tmp 5) (.tmp 22) rfl x3.heap.size #[.int .u64 rses, .int .u64 rseq, .int .i64 re, .int .u64 rlease, .int .i64 ramount, .int .i64 rtil] rfl rfl _ _ HN.out rep_size rfl (by simp [Value.oneCell']) ?_; clear HN d0 d1 d2 d3 d4 d5; generalize (x3.alloc (.cells #[.int .u64 0, .int .u64 0, .int .i64 0, .int .u64 0, .int .i64 0, .int .i64 0] 46)).setRow x3.heap.size #[.int .u64 rses, .int .u64 rseq, .int .i64 re, .int .u64 rlease, .int .i64 ramount, .int .i64 rtil] = w4 at *; rw [← hrb] at HR4; simp only [← hrb]; clear hrb; have c0 := HK4.out.cell 0 rfl; have c1 := HK4.out.cell 1 rfl; have c2 := HK4.out.cell 2 rfl; have c3 := HK4.out.cell 3 rfl; have c4 := HK4.out.cell 4 rfl; have c5 := HK4.out.cell 5 rfl; have c6 := HK4.out.cell 6 rfl; have c7 := HK4.out.cell 7 rfl; have c8 := HK4.out.cell 8 rfl; have c9 := HK4.out.cell 9 rfl; have c10 := HK4.out.cell 10 rfl; have c11 := HK4.out.cell 11 rfl; have c12 := HK4.out.cell 12 rfl; have c13 := HK4.out.cell 13 rfl; have c14 := HK4.out.cell 14 rfl; have c15 := HK4.out.cell 15 rfl; have c16 := HK4.out.cell 16 rfl; have c17 := HK4.out.cell 17 rfl; have c18 := HK4.out.cell 18 rfl; have c19 := HK4.out.cell 19 rfl; have c20 := HK4.out.cell 20 rfl; have r0 := HR4.out.cell 0 rfl; have r1 := HR4.out.cell 1 rfl; have r2 := HR4.out.cell 2 rfl; have r3 := HR4.out.cell 3 rfl; have r4 := HR4.out.cell 4 rfl; have r5 := HR4.out.cell 5 rfl); repeat (first | go_values | go_skip | go_guarded | go_step))
  clear hce hre hk c0 c1 c2 c3 c4 c5 c6 c7 c8 c9 c10 c11 c12 c13 c14 c15 c16 c17 c18 c19 c20 r0 r1 r2 r3 r4 r5
  refine wp_region_plan_gen (by kernel_rfl) [(0, true), (1, true), (2, true), (3, true), (4, true), (5, true), (9, true), (10, true), (14, true), (15, true), (6, false), (7, true), (8, true), (11, false), (12, true), (13, true), (16, false), (17, true), (18, true), (19, true)] (by kernel_rfl) (by kernel_rfl) (by decide) ?_
  intro y0 hx0
  have D0 : Hid (Below w4.heap.size w4 y0) := Lib.hid (by rw [hx0]; exact (Below.refl _ _).drew)
  have hbx0 := HK4.out.kept (show Below w4.heap.size w4 y0 by rw [hx0]; exact (Below.refl _ _).drew)
  have ld0 : ∀ w', Ext y0 w' → w'.cell? ⟨w.heap.size, 10, none⟩ = some (.string ⟨key.toArray⟩) := fun w' hw => (hbx0.kept hw).cell 10 rfl
  have ld1 : ∀ w', Ext y0 w' → w'.cell? ⟨w.heap.size, 19, none⟩ = some (.int .i64 cap) := fun w' hw => (hbx0.kept hw).cell 19 rfl
  have ld2 : ∀ w', Ext y0 w' → w'.cell? ⟨w.heap.size, 20, none⟩ = some (.int .i64 lent) := fun w' hw => (hbx0.kept hw).cell 20 rfl
  clear hx0 hbx0
  obtain ⟨z6, e6, l6, r6⟩ := catE [108, 111, 111, 107] z5 4 66 70 (by decide) l5 (by decide) (by decide)
  obtain ⟨z7, e7, l7, r7⟩ := catE z6 [32] 70 1 71 l6 (by decide) (by decide) (by decide)
  iterate 10 (refine plan_pure (v := ?_) rfl (by rfl) (fun w' hw' => ?_) ?_; rotate_left; (focus (simp only [List.getElem_toArray, List.getElem_cons_succ, List.getElem_cons_zero]; go_simp; try with_reducible rfl)); try simp only [List.getElem_toArray, List.getElem_cons_succ, List.getElem_cons_zero, Act.put, List.setIfInBounds_toArray, List.set_cons_zero, List.set_cons_succ])
  refine plan_call rfl (by rfl) (fun K hK => ?_)
  go_simp
  refine (refHex key hkl y0).mono ?_
  rintro e y1 ⟨rfl, hb1⟩
  refine hK _ _ hb1 ?_
  clear hK K
  have D1 : Hid (Below w4.heap.size w4 y1) := Lib.hid (D0.out.trans (hb1.mono D0.out.size))
  replace ld0 := fun w' (h : Ext y1 w') => ld0 w' (Ext.trans hb1 h)
  replace ld1 := fun w' (h : Ext y1 w') => ld1 w' (Ext.trans hb1 h)
  replace ld2 := fun w' (h : Ext y1 w') => ld2 w' (Ext.trans hb1 h)
  clear hb1
  try simp only [List.getElem_toArray, List.getElem_cons_succ, List.getElem_cons_zero, Act.put, List.setIfInBounds_toArray, List.set_cons_zero, List.set_cons_succ]
  obtain ⟨z8, e8, l8, r8⟩ := catE z7 (120 :: hexs key) 71 129 200 l7 (by simp only [List.length_cons, hexs_len]; omega) (by decide) (by decide)
  obtain ⟨z9, e9, l9, r9⟩ := catE z8 [32] 200 1 201 l8 (by decide) (by decide) (by decide)
  iterate 2 (refine plan_pure (v := ?_) rfl (by rfl) (fun w' hw' => ?_) ?_; rotate_left; (focus (simp only [List.getElem_toArray, List.getElem_cons_succ, List.getElem_cons_zero]; go_simp; try with_reducible rfl)); try simp only [List.getElem_toArray, List.getElem_cons_succ, List.getElem_cons_zero, Act.put, List.setIfInBounds_toArray, List.set_cons_zero, List.set_cons_succ])
  refine plan_call rfl (by rfl) (fun K hK => ?_)
  go_simp
  refine (refSigned cap g17 g18 y1).mono ?_
  rintro e y2 ⟨rfl, hb2⟩
  refine hK _ _ hb2 ?_
  clear hK K
  have D2 : Hid (Below w4.heap.size w4 y2) := Lib.hid (D1.out.trans (hb2.mono D1.out.size))
  replace ld0 := fun w' (h : Ext y2 w') => ld0 w' (Ext.trans hb2 h)
  replace ld1 := fun w' (h : Ext y2 w') => ld1 w' (Ext.trans hb2 h)
  replace ld2 := fun w' (h : Ext y2 w') => ld2 w' (Ext.trans hb2 h)
  clear hb2
  try simp only [List.getElem_toArray, List.getElem_cons_succ, List.getElem_cons_zero, Act.put, List.setIfInBounds_toArray, List.set_cons_zero, List.set_cons_succ]
  obtain ⟨z10, e10, l10, r10⟩ := catE z9 (Lib.itoa cap) 201 21 222 l9 (itoa_len g17 g18) (by decide) (by decide)
  obtain ⟨z11, e11, l11, r11⟩ := catE z10 [32] 222 1 223 l10 (by decide) (by decide) (by decide)
  iterate 2 (refine plan_pure (v := ?_) rfl (by rfl) (fun w' hw' => ?_) ?_; rotate_left; (focus (simp only [List.getElem_toArray, List.getElem_cons_succ, List.getElem_cons_zero]; go_simp; try with_reducible rfl)); try simp only [List.getElem_toArray, List.getElem_cons_succ, List.getElem_cons_zero, Act.put, List.setIfInBounds_toArray, List.set_cons_zero, List.set_cons_succ])
  refine plan_call rfl (by rfl) (fun K hK => ?_)
  go_simp
  refine (refSigned lent g19 g20 y2).mono ?_
  rintro e y3 ⟨rfl, hb3⟩
  refine hK _ _ hb3 ?_
  clear hK K
  have D3 : Hid (Below w4.heap.size w4 y3) := Lib.hid (D2.out.trans (hb3.mono D2.out.size))
  replace ld0 := fun w' (h : Ext y3 w') => ld0 w' (Ext.trans hb3 h)
  replace ld1 := fun w' (h : Ext y3 w') => ld1 w' (Ext.trans hb3 h)
  replace ld2 := fun w' (h : Ext y3 w') => ld2 w' (Ext.trans hb3 h)
  clear hb3
  try simp only [List.getElem_toArray, List.getElem_cons_succ, List.getElem_cons_zero, Act.put, List.setIfInBounds_toArray, List.set_cons_zero, List.set_cons_succ]
  obtain ⟨z12, e12, l12, r12⟩ := catE z11 (Lib.itoa lent) 223 21 244 l11 (itoa_len g19 g20) (by decide) (by decide)
  iterate 3 (refine plan_pure (v := ?_) rfl (by rfl) (fun w' hw' => ?_) ?_; rotate_left; (focus (simp only [List.getElem_toArray, List.getElem_cons_succ, List.getElem_cons_zero]; go_simp; try with_reducible rfl)); try simp only [List.getElem_toArray, List.getElem_cons_succ, List.getElem_cons_zero, Act.put, List.setIfInBounds_toArray, List.set_cons_zero, List.set_cons_succ])
  refine plan_end ?_
  go_wp2_with fail
  go_ret2
  exact HYES.out _ (by rw [HLN.out, e12.out, e11.out, e10.out, e9.out, e8.out, e7.out, e6.out, HHD.out]; simp [tailw]) _ (HB4.out.trans (D3.out.mono HB4.out.size))
set_option maxRecDepth 20000 in
set_option maxHeartbeats 8000000 in
theorem refCallLazy (c : Cl) (hc : c.wf) (hlk : c.look = true) (hlz : c.lazy = true) (hok : c.ok = true) (w : World) : Calls Tryd.prog 17 #[.agg c.cells.toArray] w (RefCallE c w) := by
  have HOK := Lib.hid hok
  have hok' := hok
  simp only [Cl.ok, hlk, if_true, Bool.and_eq_true, decide_eq_true_eq] at hok'
  obtain ⟨⟨hkl, hcz⟩, hrz⟩ := hok'
  have HCE := Lib.hid (fun W => cmd_eq c.cmd Cm.zero W 9998)
  have HRE := Lib.hid (fun W => rep_eq c.rep Rp.zero W 9998)
  rw [cm_zero_cells, decide_eq_true hcz] at HCE
  rw [rp_zero_cells, decide_eq_true hrz] at HRE
  have HLN : Hid (c.line = [108, 97, 122, 121] ++ tailw ([Lib.itoa c.edge, Lib.itoa c.beg, Lib.itoa c.fin] ++ [120 :: hexs c.key, Lib.itoa c.cap, Lib.itoa c.lent])) := Lib.hid (by simp [Cl.line, Cl.head, Cl.rest, hlk, hlz, wLook, wLazy])
  obtain ⟨⟨g1, g2⟩, hcw, _, ⟨g3, g4⟩, ⟨g5, g6⟩, ⟨⟨g7, g8⟩, ⟨g9, g10⟩, ⟨q1, q2⟩, ⟨g11, g12⟩, ⟨g13, g14⟩, g15, g16⟩, ⟨g17, g18⟩, g19, g20⟩ := hc
  have HYES := Lib.hid (fun l (hl : l = c.line) w' hb => refCallE_yes (w := w) (w' := w') (l := l) HOK.out hl hb)
  clear hok hcz hrz hcw
  obtain ⟨edge, look, lazy, ⟨ses, seq, op, ckey, amount, span, lease⟩, key, beg, fin, ⟨rses, rseq, re, rlease, ramount, rtil⟩, cap, lent⟩ := c
  simp only at *
  subst hlk hlz
  unfold Cl.cells Cm.cells Rp.cells at *
  simp only [List.cons_append, List.nil_append] at *
  have hce := HCE.out
  have hre := HRE.out
  have hk : ¬ (64 : Int) < (key.length : Int) := by omega
  clear HCE HRE
  have hbk := Blk.new w #[.int .i64 edge, .bool true, .bool true, .int .u64 ses, .int .u64 seq, .int .i64 op, .string ⟨ckey.toArray⟩, .int .i64 amount, .int .i64 span, .int .u64 lease, .string ⟨key.toArray⟩, .int .i64 beg, .int .i64 fin, .int .u64 rses, .int .u64 rseq, .int .i64 re, .int .u64 rlease, .int .i64 ramount, .int .i64 rtil, .int .i64 cap, .int .i64 lent] 48
  have hB0 : Below w.heap.size w (w.alloc (.cells #[.int .i64 edge, .bool true, .bool true, .int .u64 ses, .int .u64 seq, .int .i64 op, .string ⟨ckey.toArray⟩, .int .i64 amount, .int .i64 span, .int .u64 lease, .string ⟨key.toArray⟩, .int .i64 beg, .int .i64 fin, .int .u64 rses, .int .u64 rseq, .int .i64 re, .int .u64 rlease, .int .i64 ramount, .int .i64 rtil, .int .i64 cap, .int .i64 lent] 48)) := (Below.refl _ _).alloc (Nat.le_refl _) _
  go_enter Tryd.func17, Tryd.ntmps17
  go_wp2_with fail
  refine wp_region_plan_gen (by kernel_rfl) [(0, true), (1, true), (5, true), (6, true), (10, true), (11, true), (2, false), (3, true), (4, true), (7, false), (8, true), (9, true), (12, false), (13, true), (14, true)] (by kernel_rfl) (by kernel_rfl) (by decide) ?_
  intro x0 hx0
  have B0 : Hid (Below (w.alloc (.cells #[.int .i64 edge, .bool true, .bool true, .int .u64 ses, .int .u64 seq, .int .i64 op, .string ⟨ckey.toArray⟩, .int .i64 amount, .int .i64 span, .int .u64 lease, .string ⟨key.toArray⟩, .int .i64 beg, .int .i64 fin, .int .u64 rses, .int .u64 rseq, .int .i64 re, .int .u64 rlease, .int .i64 ramount, .int .i64 rtil, .int .i64 cap, .int .i64 lent] 48)).heap.size (w.alloc (.cells #[.int .i64 edge, .bool true, .bool true, .int .u64 ses, .int .u64 seq, .int .i64 op, .string ⟨ckey.toArray⟩, .int .i64 amount, .int .i64 span, .int .u64 lease, .string ⟨key.toArray⟩, .int .i64 beg, .int .i64 fin, .int .u64 rses, .int .u64 rseq, .int .i64 re, .int .u64 rlease, .int .i64 ramount, .int .i64 rtil, .int .i64 cap, .int .i64 lent] 48)) x0) := Lib.hid (by rw [hx0]; exact (Below.refl _ _).drew)
  have hbx0 := hbk.kept (show Below (w.alloc (.cells #[.int .i64 edge, .bool true, .bool true, .int .u64 ses, .int .u64 seq, .int .i64 op, .string ⟨ckey.toArray⟩, .int .i64 amount, .int .i64 span, .int .u64 lease, .string ⟨key.toArray⟩, .int .i64 beg, .int .i64 fin, .int .u64 rses, .int .u64 rseq, .int .i64 re, .int .u64 rlease, .int .i64 ramount, .int .i64 rtil, .int .i64 cap, .int .i64 lent] 48)).heap.size (w.alloc (.cells #[.int .i64 edge, .bool true, .bool true, .int .u64 ses, .int .u64 seq, .int .i64 op, .string ⟨ckey.toArray⟩, .int .i64 amount, .int .i64 span, .int .u64 lease, .string ⟨key.toArray⟩, .int .i64 beg, .int .i64 fin, .int .u64 rses, .int .u64 rseq, .int .i64 re, .int .u64 rlease, .int .i64 ramount, .int .i64 rtil, .int .i64 cap, .int .i64 lent] 48)) x0 by rw [hx0]; exact (Below.refl _ _).drew)
  have ld0 : ∀ w', Ext x0 w' → w'.cell? ⟨w.heap.size, 0, none⟩ = some (.int .i64 edge) := fun w' hw => (hbx0.kept hw).cell 0 rfl
  have ld1 : ∀ w', Ext x0 w' → w'.cell? ⟨w.heap.size, 11, none⟩ = some (.int .i64 beg) := fun w' hw => (hbx0.kept hw).cell 11 rfl
  have ld2 : ∀ w', Ext x0 w' → w'.cell? ⟨w.heap.size, 12, none⟩ = some (.int .i64 fin) := fun w' hw => (hbx0.kept hw).cell 12 rfl
  clear hx0 hbx0
  iterate 6 (refine plan_pure (v := ?_) rfl (by rfl) (fun w' hw' => ?_) ?_; rotate_left; (focus (simp only [List.getElem_toArray, List.getElem_cons_succ, List.getElem_cons_zero]; go_simp; try with_reducible rfl)); try simp only [List.getElem_toArray, List.getElem_cons_succ, List.getElem_cons_zero, Act.put, List.setIfInBounds_toArray, List.set_cons_zero, List.set_cons_succ])
  refine plan_call rfl (by rfl) (fun K hK => ?_)
  go_simp
  refine (refSigned edge g1 g2 x0).mono ?_
  rintro e x1 ⟨rfl, hb1⟩
  refine hK _ _ hb1 ?_
  clear hK K
  have B1 : Hid (Below (w.alloc (.cells #[.int .i64 edge, .bool true, .bool true, .int .u64 ses, .int .u64 seq, .int .i64 op, .string ⟨ckey.toArray⟩, .int .i64 amount, .int .i64 span, .int .u64 lease, .string ⟨key.toArray⟩, .int .i64 beg, .int .i64 fin, .int .u64 rses, .int .u64 rseq, .int .i64 re, .int .u64 rlease, .int .i64 ramount, .int .i64 rtil, .int .i64 cap, .int .i64 lent] 48)).heap.size (w.alloc (.cells #[.int .i64 edge, .bool true, .bool true, .int .u64 ses, .int .u64 seq, .int .i64 op, .string ⟨ckey.toArray⟩, .int .i64 amount, .int .i64 span, .int .u64 lease, .string ⟨key.toArray⟩, .int .i64 beg, .int .i64 fin, .int .u64 rses, .int .u64 rseq, .int .i64 re, .int .u64 rlease, .int .i64 ramount, .int .i64 rtil, .int .i64 cap, .int .i64 lent] 48)) x1) := Lib.hid (B0.out.trans (hb1.mono B0.out.size))
  replace ld0 := fun w' (h : Ext x1 w') => ld0 w' (Ext.trans hb1 h)
  replace ld1 := fun w' (h : Ext x1 w') => ld1 w' (Ext.trans hb1 h)
  replace ld2 := fun w' (h : Ext x1 w') => ld2 w' (Ext.trans hb1 h)
  clear hb1
  try simp only [List.getElem_toArray, List.getElem_cons_succ, List.getElem_cons_zero, Act.put, List.setIfInBounds_toArray, List.set_cons_zero, List.set_cons_succ]
  obtain ⟨z1, e1, l1, r1⟩ := catE [32] (Lib.itoa edge) 1 21 22 (by decide) (itoa_len g1 g2) (by decide) (by decide)
  obtain ⟨z2, e2, l2, r2⟩ := catE z1 [32] 22 1 23 l1 (by decide) (by decide) (by decide)
  iterate 2 (refine plan_pure (v := ?_) rfl (by rfl) (fun w' hw' => ?_) ?_; rotate_left; (focus (simp only [List.getElem_toArray, List.getElem_cons_succ, List.getElem_cons_zero]; go_simp; try with_reducible rfl)); try simp only [List.getElem_toArray, List.getElem_cons_succ, List.getElem_cons_zero, Act.put, List.setIfInBounds_toArray, List.set_cons_zero, List.set_cons_succ])
  refine plan_call rfl (by rfl) (fun K hK => ?_)
  go_simp
  refine (refSigned beg g3 g4 x1).mono ?_
  rintro e x2 ⟨rfl, hb2⟩
  refine hK _ _ hb2 ?_
  clear hK K
  have B2 : Hid (Below (w.alloc (.cells #[.int .i64 edge, .bool true, .bool true, .int .u64 ses, .int .u64 seq, .int .i64 op, .string ⟨ckey.toArray⟩, .int .i64 amount, .int .i64 span, .int .u64 lease, .string ⟨key.toArray⟩, .int .i64 beg, .int .i64 fin, .int .u64 rses, .int .u64 rseq, .int .i64 re, .int .u64 rlease, .int .i64 ramount, .int .i64 rtil, .int .i64 cap, .int .i64 lent] 48)).heap.size (w.alloc (.cells #[.int .i64 edge, .bool true, .bool true, .int .u64 ses, .int .u64 seq, .int .i64 op, .string ⟨ckey.toArray⟩, .int .i64 amount, .int .i64 span, .int .u64 lease, .string ⟨key.toArray⟩, .int .i64 beg, .int .i64 fin, .int .u64 rses, .int .u64 rseq, .int .i64 re, .int .u64 rlease, .int .i64 ramount, .int .i64 rtil, .int .i64 cap, .int .i64 lent] 48)) x2) := Lib.hid (B1.out.trans (hb2.mono B1.out.size))
  replace ld0 := fun w' (h : Ext x2 w') => ld0 w' (Ext.trans hb2 h)
  replace ld1 := fun w' (h : Ext x2 w') => ld1 w' (Ext.trans hb2 h)
  replace ld2 := fun w' (h : Ext x2 w') => ld2 w' (Ext.trans hb2 h)
  clear hb2
  try simp only [List.getElem_toArray, List.getElem_cons_succ, List.getElem_cons_zero, Act.put, List.setIfInBounds_toArray, List.set_cons_zero, List.set_cons_succ]
  obtain ⟨z3, e3, l3, r3⟩ := catE z2 (Lib.itoa beg) 23 21 44 l2 (itoa_len g3 g4) (by decide) (by decide)
  obtain ⟨z4, e4, l4, r4⟩ := catE z3 [32] 44 1 45 l3 (by decide) (by decide) (by decide)
  iterate 2 (refine plan_pure (v := ?_) rfl (by rfl) (fun w' hw' => ?_) ?_; rotate_left; (focus (simp only [List.getElem_toArray, List.getElem_cons_succ, List.getElem_cons_zero]; go_simp; try with_reducible rfl)); try simp only [List.getElem_toArray, List.getElem_cons_succ, List.getElem_cons_zero, Act.put, List.setIfInBounds_toArray, List.set_cons_zero, List.set_cons_succ])
  refine plan_call rfl (by rfl) (fun K hK => ?_)
  go_simp
  refine (refSigned fin g5 g6 x2).mono ?_
  rintro e x3 ⟨rfl, hb3⟩
  refine hK _ _ hb3 ?_
  clear hK K
  have B3 : Hid (Below (w.alloc (.cells #[.int .i64 edge, .bool true, .bool true, .int .u64 ses, .int .u64 seq, .int .i64 op, .string ⟨ckey.toArray⟩, .int .i64 amount, .int .i64 span, .int .u64 lease, .string ⟨key.toArray⟩, .int .i64 beg, .int .i64 fin, .int .u64 rses, .int .u64 rseq, .int .i64 re, .int .u64 rlease, .int .i64 ramount, .int .i64 rtil, .int .i64 cap, .int .i64 lent] 48)).heap.size (w.alloc (.cells #[.int .i64 edge, .bool true, .bool true, .int .u64 ses, .int .u64 seq, .int .i64 op, .string ⟨ckey.toArray⟩, .int .i64 amount, .int .i64 span, .int .u64 lease, .string ⟨key.toArray⟩, .int .i64 beg, .int .i64 fin, .int .u64 rses, .int .u64 rseq, .int .i64 re, .int .u64 rlease, .int .i64 ramount, .int .i64 rtil, .int .i64 cap, .int .i64 lent] 48)) x3) := Lib.hid (B2.out.trans (hb3.mono B2.out.size))
  replace ld0 := fun w' (h : Ext x3 w') => ld0 w' (Ext.trans hb3 h)
  replace ld1 := fun w' (h : Ext x3 w') => ld1 w' (Ext.trans hb3 h)
  replace ld2 := fun w' (h : Ext x3 w') => ld2 w' (Ext.trans hb3 h)
  clear hb3
  try simp only [List.getElem_toArray, List.getElem_cons_succ, List.getElem_cons_zero, Act.put, List.setIfInBounds_toArray, List.set_cons_zero, List.set_cons_succ]
  obtain ⟨z5, e5, l5, r5⟩ := catE z4 (Lib.itoa fin) 45 21 66 l4 (itoa_len g5 g6) (by decide) (by decide)
  iterate 2 (refine plan_pure (v := ?_) rfl (by rfl) (fun w' hw' => ?_) ?_; rotate_left; (focus (simp only [List.getElem_toArray, List.getElem_cons_succ, List.getElem_cons_zero]; go_simp; try with_reducible rfl)); try simp only [List.getElem_toArray, List.getElem_cons_succ, List.getElem_cons_zero, Act.put, List.setIfInBounds_toArray, List.set_cons_zero, List.set_cons_succ])
  refine plan_end ?_
  have HHD : Hid (z5 = tailw [Lib.itoa edge, Lib.itoa beg, Lib.itoa fin]) := Lib.hid (by rw [e5.out, e4.out, e3.out, e2.out, e1.out]; simp [tailw])
  have HB3 := Lib.hid (hB0.trans (B3.out.mono hB0.size))
  have hk3 := hbk.kept B3.out
  have hlt := hk3.lt
  have d0 := hk3.cell 13 rfl; have d1 := hk3.cell 14 rfl; have d2 := hk3.cell 15 rfl; have d3 := hk3.cell 16 rfl; have d4 := hk3.cell 17 rfl; have d5 := hk3.cell 18 rfl
  have HN := Lib.hid (Blk.new x3 #[.int .u64 0, .int .u64 0, .int .i64 0, .int .u64 0, .int .i64 0, .int .i64 0] 46)
  obtain ⟨hb4, hr4⟩ := laid_row x3 #[.int .u64 0, .int .u64 0, .int .i64 0, .int .u64 0, .int .i64 0, .int .i64 0] #[.int .u64 rses, .int .u64 rseq, .int .i64 re, .int .u64 rlease, .int .i64 ramount, .int .i64 rtil] 46
  have HK4 := Lib.hid (hk3.kept hb4)
  have HR4 := Lib.hid hr4
  have HB4 := Lib.hid (HB3.out.trans (hb4.mono HB3.out.size))
  clear ld0 ld1 ld2 e1 e2 e3 e4 e5 l1 l2 l3 l4 r1 r2 r3 r4 r5 B0 B1 B2 B3 hbk hB0 hk3 hb4 hr4 HB3
  obtain ⟨rb, hrb⟩ : ∃ n, n = x3.heap.size := ⟨_, rfl⟩
  go_wp2_with ((refine wpList_store_row rfl 46 (.tmp 5) (.tmp 22) rfl x3.heap.size #[.int .u64 rses, .int .u64 rseq, .int .i64 re, .int .u64 rlease, .int .i64 ramount, .int .i64 rtil] rfl rfl _ _ HN.out rep_size rfl (by simp [Value.oneCell']) ?_; clear HN d0 d1 d2 d3 d4 d5; generalize (x3.alloc (.cells #[.int .u64 0, .int .u64 0, .int .i64 0, .int .u64 0, .int .i64 0, .int .i64 0] 46)).setRow x3.heap.size #[.int .u64 rses, .int .u64 rseq, .int .i64 re, .int .u64 rlease, .int .i64 ramount, .int .i64 rtil] = w4 at *; rw [← hrb] at HR4; simp only [← hrb]; clear hrb; have c0 := HK4.out.cell 0 rfl; have c1 := HK4.out.cell 1 rfl; have c2 := HK4.out.cell 2 rfl; have c3 := HK4.out.cell 3 rfl; have c4 := HK4.out.cell 4 rfl; have c5 := HK4.out.cell 5 rfl; have c6 := HK4.out.cell 6 rfl; have c7 := HK4.out.cell 7 rfl; have c8 := HK4.out.cell 8 rfl; have c9 := HK4.out.cell 9 rfl; have c10 := HK4.out.cell 10 rfl; have c11 := HK4.out.cell 11 rfl; have c12 := HK4.out.cell 12 rfl; have c13 := HK4.out.cell 13 rfl; have c14 := HK4.out.cell 14 rfl; have c15 := HK4.out.cell 15 rfl; have c16 := HK4.out.cell 16 rfl; have c17 := HK4.out.cell 17 rfl; have c18 := HK4.out.cell 18 rfl; have c19 := HK4.out.cell 19 rfl; have c20 := HK4.out.cell 20 rfl; have r0 := HR4.out.cell 0 rfl; have r1 := HR4.out.cell 1 rfl; have r2 := HR4.out.cell 2 rfl; have r3 := HR4.out.cell 3 rfl; have r4 := HR4.out.cell 4 rfl; have r5 := HR4.out.cell 5 rfl); repeat (first | go_values | go_skip | go_guarded | go_step))
  clear hce hre hk c0 c1 c2 c3 c4 c5 c6 c7 c8 c9 c10 c11 c12 c13 c14 c15 c16 c17 c18 c19 c20 r0 r1 r2 r3 r4 r5
  refine wp_region_plan_gen (by kernel_rfl) [(0, true), (1, true), (2, true), (3, true), (4, true), (5, true), (9, true), (10, true), (14, true), (15, true), (6, false), (7, true), (8, true), (11, false), (12, true), (13, true), (16, false), (17, true), (18, true), (19, true)] (by kernel_rfl) (by kernel_rfl) (by decide) ?_
  intro y0 hx0
  have D0 : Hid (Below w4.heap.size w4 y0) := Lib.hid (by rw [hx0]; exact (Below.refl _ _).drew)
  have hbx0 := HK4.out.kept (show Below w4.heap.size w4 y0 by rw [hx0]; exact (Below.refl _ _).drew)
  have ld0 : ∀ w', Ext y0 w' → w'.cell? ⟨w.heap.size, 10, none⟩ = some (.string ⟨key.toArray⟩) := fun w' hw => (hbx0.kept hw).cell 10 rfl
  have ld1 : ∀ w', Ext y0 w' → w'.cell? ⟨w.heap.size, 19, none⟩ = some (.int .i64 cap) := fun w' hw => (hbx0.kept hw).cell 19 rfl
  have ld2 : ∀ w', Ext y0 w' → w'.cell? ⟨w.heap.size, 20, none⟩ = some (.int .i64 lent) := fun w' hw => (hbx0.kept hw).cell 20 rfl
  clear hx0 hbx0
  obtain ⟨z6, e6, l6, r6⟩ := catE [108, 97, 122, 121] z5 4 66 70 (by decide) l5 (by decide) (by decide)
  obtain ⟨z7, e7, l7, r7⟩ := catE z6 [32] 70 1 71 l6 (by decide) (by decide) (by decide)
  iterate 10 (refine plan_pure (v := ?_) rfl (by rfl) (fun w' hw' => ?_) ?_; rotate_left; (focus (simp only [List.getElem_toArray, List.getElem_cons_succ, List.getElem_cons_zero]; go_simp; try with_reducible rfl)); try simp only [List.getElem_toArray, List.getElem_cons_succ, List.getElem_cons_zero, Act.put, List.setIfInBounds_toArray, List.set_cons_zero, List.set_cons_succ])
  refine plan_call rfl (by rfl) (fun K hK => ?_)
  go_simp
  refine (refHex key hkl y0).mono ?_
  rintro e y1 ⟨rfl, hb1⟩
  refine hK _ _ hb1 ?_
  clear hK K
  have D1 : Hid (Below w4.heap.size w4 y1) := Lib.hid (D0.out.trans (hb1.mono D0.out.size))
  replace ld0 := fun w' (h : Ext y1 w') => ld0 w' (Ext.trans hb1 h)
  replace ld1 := fun w' (h : Ext y1 w') => ld1 w' (Ext.trans hb1 h)
  replace ld2 := fun w' (h : Ext y1 w') => ld2 w' (Ext.trans hb1 h)
  clear hb1
  try simp only [List.getElem_toArray, List.getElem_cons_succ, List.getElem_cons_zero, Act.put, List.setIfInBounds_toArray, List.set_cons_zero, List.set_cons_succ]
  obtain ⟨z8, e8, l8, r8⟩ := catE z7 (120 :: hexs key) 71 129 200 l7 (by simp only [List.length_cons, hexs_len]; omega) (by decide) (by decide)
  obtain ⟨z9, e9, l9, r9⟩ := catE z8 [32] 200 1 201 l8 (by decide) (by decide) (by decide)
  iterate 2 (refine plan_pure (v := ?_) rfl (by rfl) (fun w' hw' => ?_) ?_; rotate_left; (focus (simp only [List.getElem_toArray, List.getElem_cons_succ, List.getElem_cons_zero]; go_simp; try with_reducible rfl)); try simp only [List.getElem_toArray, List.getElem_cons_succ, List.getElem_cons_zero, Act.put, List.setIfInBounds_toArray, List.set_cons_zero, List.set_cons_succ])
  refine plan_call rfl (by rfl) (fun K hK => ?_)
  go_simp
  refine (refSigned cap g17 g18 y1).mono ?_
  rintro e y2 ⟨rfl, hb2⟩
  refine hK _ _ hb2 ?_
  clear hK K
  have D2 : Hid (Below w4.heap.size w4 y2) := Lib.hid (D1.out.trans (hb2.mono D1.out.size))
  replace ld0 := fun w' (h : Ext y2 w') => ld0 w' (Ext.trans hb2 h)
  replace ld1 := fun w' (h : Ext y2 w') => ld1 w' (Ext.trans hb2 h)
  replace ld2 := fun w' (h : Ext y2 w') => ld2 w' (Ext.trans hb2 h)
  clear hb2
  try simp only [List.getElem_toArray, List.getElem_cons_succ, List.getElem_cons_zero, Act.put, List.setIfInBounds_toArray, List.set_cons_zero, List.set_cons_succ]
  obtain ⟨z10, e10, l10, r10⟩ := catE z9 (Lib.itoa cap) 201 21 222 l9 (itoa_len g17 g18) (by decide) (by decide)
  obtain ⟨z11, e11, l11, r11⟩ := catE z10 [32] 222 1 223 l10 (by decide) (by decide) (by decide)
  iterate 2 (refine plan_pure (v := ?_) rfl (by rfl) (fun w' hw' => ?_) ?_; rotate_left; (focus (simp only [List.getElem_toArray, List.getElem_cons_succ, List.getElem_cons_zero]; go_simp; try with_reducible rfl)); try simp only [List.getElem_toArray, List.getElem_cons_succ, List.getElem_cons_zero, Act.put, List.setIfInBounds_toArray, List.set_cons_zero, List.set_cons_succ])
  refine plan_call rfl (by rfl) (fun K hK => ?_)
  go_simp
  refine (refSigned lent g19 g20 y2).mono ?_
  rintro e y3 ⟨rfl, hb3⟩
  refine hK _ _ hb3 ?_
  clear hK K
  have D3 : Hid (Below w4.heap.size w4 y3) := Lib.hid (D2.out.trans (hb3.mono D2.out.size))
  replace ld0 := fun w' (h : Ext y3 w') => ld0 w' (Ext.trans hb3 h)
  replace ld1 := fun w' (h : Ext y3 w') => ld1 w' (Ext.trans hb3 h)
  replace ld2 := fun w' (h : Ext y3 w') => ld2 w' (Ext.trans hb3 h)
  clear hb3
  try simp only [List.getElem_toArray, List.getElem_cons_succ, List.getElem_cons_zero, Act.put, List.setIfInBounds_toArray, List.set_cons_zero, List.set_cons_succ]
  obtain ⟨z12, e12, l12, r12⟩ := catE z11 (Lib.itoa lent) 223 21 244 l11 (itoa_len g19 g20) (by decide) (by decide)
  iterate 3 (refine plan_pure (v := ?_) rfl (by rfl) (fun w' hw' => ?_) ?_; rotate_left; (focus (simp only [List.getElem_toArray, List.getElem_cons_succ, List.getElem_cons_zero]; go_simp; try with_reducible rfl)); try simp only [List.getElem_toArray, List.getElem_cons_succ, List.getElem_cons_zero, Act.put, List.setIfInBounds_toArray, List.set_cons_zero, List.set_cons_succ])
  refine plan_end ?_
  go_wp2_with fail
  go_ret2
  exact HYES.out _ (by rw [HLN.out, e12.out, e11.out, e10.out, e9.out, e8.out, e7.out, e6.out, HHD.out]; simp [tailw]) _ (HB4.out.trans (D3.out.mono HB4.out.size))
set_option maxRecDepth 20000 in
set_option maxHeartbeats 8000000 in
theorem refCallNoLook (c : Cl) (hc : c.wf) (hlk : c.look = true) (hno : c.ok = false) (w : World) : Calls Tryd.prog 17 #[.agg c.cells.toArray] w (RefCallE c w) := by
  have HNO := Lib.hid hno
  have HCE := Lib.hid (fun W => cmd_eq c.cmd Cm.zero W 9998)
  have HRE := Lib.hid (fun W => rep_eq c.rep Rp.zero W 9998)
  rw [cm_zero_cells] at HCE
  rw [rp_zero_cells] at HRE
  have hno' : ¬ c.key.length ≤ 64 ∨ (c.key.length ≤ 64 ∧ ¬ c.cmd = .zero) ∨ (c.key.length ≤ 64 ∧ c.cmd = .zero ∧ ¬ c.rep = .zero) := by
    by_cases h1 : c.key.length ≤ 64
    · by_cases h2 : c.cmd = .zero
      · by_cases h3 : c.rep = .zero
        · simp [Cl.ok, hlk, h1, h2, h3] at hno
        · exact .inr (.inr ⟨h1, h2, h3⟩)
      · exact .inr (.inl ⟨h1, h2⟩)
    · exact .inl h1
  have hkl := hc.keyl
  obtain ⟨⟨g1, g2⟩, hcw, _, ⟨g3, g4⟩, ⟨g5, g6⟩, ⟨⟨g7, g8⟩, ⟨g9, g10⟩, ⟨q1, q2⟩, ⟨g11, g12⟩, ⟨g13, g14⟩, g15, g16⟩, ⟨g17, g18⟩, g19, g20⟩ := hc
  clear hno hcw
  generalize hp1 : decide (c.cmd = .zero) = p1 at HCE
  generalize hp2 : decide (c.rep = .zero) = p2 at HRE
  obtain ⟨edge, look, lazy, ⟨ses, seq, op, ckey, amount, span, lease⟩, key, beg, fin, ⟨rses, rseq, re, rlease, ramount, rtil⟩, cap, lent⟩ := c
  simp only at *
  subst hlk
  unfold Cl.cells Cm.cells Rp.cells at *
  simp only [List.cons_append, List.nil_append] at *
  have hce := HCE.out
  have hre := HRE.out
  have hcase : ((64 : Int) < (key.length : Int)) ∨ (¬ (64 : Int) < (key.length : Int) ∧ p1 = false) ∨ (¬ (64 : Int) < (key.length : Int) ∧ p1 = true ∧ p2 = false) := by
    rcases hno' with h1 | ⟨h1, h2⟩ | ⟨h1, h2, h3⟩
    · exact .inl (by omega)
    · exact .inr (.inl ⟨by omega, by rw [← hp1]; exact decide_eq_false h2⟩)
    · exact .inr (.inr ⟨by omega, by rw [← hp1]; exact decide_eq_true h2, by rw [← hp2]; exact decide_eq_false h3⟩)
  clear hno' hp1 hp2 HCE HRE
  have hbk := Blk.new w #[.int .i64 edge, .bool true, .bool lazy, .int .u64 ses, .int .u64 seq, .int .i64 op, .string ⟨ckey.toArray⟩, .int .i64 amount, .int .i64 span, .int .u64 lease, .string ⟨key.toArray⟩, .int .i64 beg, .int .i64 fin, .int .u64 rses, .int .u64 rseq, .int .i64 re, .int .u64 rlease, .int .i64 ramount, .int .i64 rtil, .int .i64 cap, .int .i64 lent] 48
  have hB0 : Below w.heap.size w (w.alloc (.cells #[.int .i64 edge, .bool true, .bool lazy, .int .u64 ses, .int .u64 seq, .int .i64 op, .string ⟨ckey.toArray⟩, .int .i64 amount, .int .i64 span, .int .u64 lease, .string ⟨key.toArray⟩, .int .i64 beg, .int .i64 fin, .int .u64 rses, .int .u64 rseq, .int .i64 re, .int .u64 rlease, .int .i64 ramount, .int .i64 rtil, .int .i64 cap, .int .i64 lent] 48)) := (Below.refl _ _).alloc (Nat.le_refl _) _
  go_enter Tryd.func17, Tryd.ntmps17
  go_wp2_with fail
  refine wp_region_plan_gen (by kernel_rfl) [(0, true), (1, true), (5, true), (6, true), (10, true), (11, true), (2, false), (3, true), (4, true), (7, false), (8, true), (9, true), (12, false), (13, true), (14, true)] (by kernel_rfl) (by kernel_rfl) (by decide) ?_
  intro x0 hx0
  have B0 : Hid (Below (w.alloc (.cells #[.int .i64 edge, .bool true, .bool lazy, .int .u64 ses, .int .u64 seq, .int .i64 op, .string ⟨ckey.toArray⟩, .int .i64 amount, .int .i64 span, .int .u64 lease, .string ⟨key.toArray⟩, .int .i64 beg, .int .i64 fin, .int .u64 rses, .int .u64 rseq, .int .i64 re, .int .u64 rlease, .int .i64 ramount, .int .i64 rtil, .int .i64 cap, .int .i64 lent] 48)).heap.size (w.alloc (.cells #[.int .i64 edge, .bool true, .bool lazy, .int .u64 ses, .int .u64 seq, .int .i64 op, .string ⟨ckey.toArray⟩, .int .i64 amount, .int .i64 span, .int .u64 lease, .string ⟨key.toArray⟩, .int .i64 beg, .int .i64 fin, .int .u64 rses, .int .u64 rseq, .int .i64 re, .int .u64 rlease, .int .i64 ramount, .int .i64 rtil, .int .i64 cap, .int .i64 lent] 48)) x0) := Lib.hid (by rw [hx0]; exact (Below.refl _ _).drew)
  have hbx0 := hbk.kept (show Below (w.alloc (.cells #[.int .i64 edge, .bool true, .bool lazy, .int .u64 ses, .int .u64 seq, .int .i64 op, .string ⟨ckey.toArray⟩, .int .i64 amount, .int .i64 span, .int .u64 lease, .string ⟨key.toArray⟩, .int .i64 beg, .int .i64 fin, .int .u64 rses, .int .u64 rseq, .int .i64 re, .int .u64 rlease, .int .i64 ramount, .int .i64 rtil, .int .i64 cap, .int .i64 lent] 48)).heap.size (w.alloc (.cells #[.int .i64 edge, .bool true, .bool lazy, .int .u64 ses, .int .u64 seq, .int .i64 op, .string ⟨ckey.toArray⟩, .int .i64 amount, .int .i64 span, .int .u64 lease, .string ⟨key.toArray⟩, .int .i64 beg, .int .i64 fin, .int .u64 rses, .int .u64 rseq, .int .i64 re, .int .u64 rlease, .int .i64 ramount, .int .i64 rtil, .int .i64 cap, .int .i64 lent] 48)) x0 by rw [hx0]; exact (Below.refl _ _).drew)
  have ld0 : ∀ w', Ext x0 w' → w'.cell? ⟨w.heap.size, 0, none⟩ = some (.int .i64 edge) := fun w' hw => (hbx0.kept hw).cell 0 rfl
  have ld1 : ∀ w', Ext x0 w' → w'.cell? ⟨w.heap.size, 11, none⟩ = some (.int .i64 beg) := fun w' hw => (hbx0.kept hw).cell 11 rfl
  have ld2 : ∀ w', Ext x0 w' → w'.cell? ⟨w.heap.size, 12, none⟩ = some (.int .i64 fin) := fun w' hw => (hbx0.kept hw).cell 12 rfl
  clear hx0 hbx0
  iterate 6 (refine plan_pure (v := ?_) rfl (by rfl) (fun w' hw' => ?_) ?_; rotate_left; (focus (simp only [List.getElem_toArray, List.getElem_cons_succ, List.getElem_cons_zero]; go_simp; try with_reducible rfl)); try simp only [List.getElem_toArray, List.getElem_cons_succ, List.getElem_cons_zero, Act.put, List.setIfInBounds_toArray, List.set_cons_zero, List.set_cons_succ])
  refine plan_call rfl (by rfl) (fun K hK => ?_)
  go_simp
  refine (refSigned edge g1 g2 x0).mono ?_
  rintro e x1 ⟨rfl, hb1⟩
  refine hK _ _ hb1 ?_
  clear hK K
  have B1 : Hid (Below (w.alloc (.cells #[.int .i64 edge, .bool true, .bool lazy, .int .u64 ses, .int .u64 seq, .int .i64 op, .string ⟨ckey.toArray⟩, .int .i64 amount, .int .i64 span, .int .u64 lease, .string ⟨key.toArray⟩, .int .i64 beg, .int .i64 fin, .int .u64 rses, .int .u64 rseq, .int .i64 re, .int .u64 rlease, .int .i64 ramount, .int .i64 rtil, .int .i64 cap, .int .i64 lent] 48)).heap.size (w.alloc (.cells #[.int .i64 edge, .bool true, .bool lazy, .int .u64 ses, .int .u64 seq, .int .i64 op, .string ⟨ckey.toArray⟩, .int .i64 amount, .int .i64 span, .int .u64 lease, .string ⟨key.toArray⟩, .int .i64 beg, .int .i64 fin, .int .u64 rses, .int .u64 rseq, .int .i64 re, .int .u64 rlease, .int .i64 ramount, .int .i64 rtil, .int .i64 cap, .int .i64 lent] 48)) x1) := Lib.hid (B0.out.trans (hb1.mono B0.out.size))
  replace ld0 := fun w' (h : Ext x1 w') => ld0 w' (Ext.trans hb1 h)
  replace ld1 := fun w' (h : Ext x1 w') => ld1 w' (Ext.trans hb1 h)
  replace ld2 := fun w' (h : Ext x1 w') => ld2 w' (Ext.trans hb1 h)
  clear hb1
  try simp only [List.getElem_toArray, List.getElem_cons_succ, List.getElem_cons_zero, Act.put, List.setIfInBounds_toArray, List.set_cons_zero, List.set_cons_succ]
  obtain ⟨z1, e1, l1, r1⟩ := catE [32] (Lib.itoa edge) 1 21 22 (by decide) (itoa_len g1 g2) (by decide) (by decide)
  obtain ⟨z2, e2, l2, r2⟩ := catE z1 [32] 22 1 23 l1 (by decide) (by decide) (by decide)
  iterate 2 (refine plan_pure (v := ?_) rfl (by rfl) (fun w' hw' => ?_) ?_; rotate_left; (focus (simp only [List.getElem_toArray, List.getElem_cons_succ, List.getElem_cons_zero]; go_simp; try with_reducible rfl)); try simp only [List.getElem_toArray, List.getElem_cons_succ, List.getElem_cons_zero, Act.put, List.setIfInBounds_toArray, List.set_cons_zero, List.set_cons_succ])
  refine plan_call rfl (by rfl) (fun K hK => ?_)
  go_simp
  refine (refSigned beg g3 g4 x1).mono ?_
  rintro e x2 ⟨rfl, hb2⟩
  refine hK _ _ hb2 ?_
  clear hK K
  have B2 : Hid (Below (w.alloc (.cells #[.int .i64 edge, .bool true, .bool lazy, .int .u64 ses, .int .u64 seq, .int .i64 op, .string ⟨ckey.toArray⟩, .int .i64 amount, .int .i64 span, .int .u64 lease, .string ⟨key.toArray⟩, .int .i64 beg, .int .i64 fin, .int .u64 rses, .int .u64 rseq, .int .i64 re, .int .u64 rlease, .int .i64 ramount, .int .i64 rtil, .int .i64 cap, .int .i64 lent] 48)).heap.size (w.alloc (.cells #[.int .i64 edge, .bool true, .bool lazy, .int .u64 ses, .int .u64 seq, .int .i64 op, .string ⟨ckey.toArray⟩, .int .i64 amount, .int .i64 span, .int .u64 lease, .string ⟨key.toArray⟩, .int .i64 beg, .int .i64 fin, .int .u64 rses, .int .u64 rseq, .int .i64 re, .int .u64 rlease, .int .i64 ramount, .int .i64 rtil, .int .i64 cap, .int .i64 lent] 48)) x2) := Lib.hid (B1.out.trans (hb2.mono B1.out.size))
  replace ld0 := fun w' (h : Ext x2 w') => ld0 w' (Ext.trans hb2 h)
  replace ld1 := fun w' (h : Ext x2 w') => ld1 w' (Ext.trans hb2 h)
  replace ld2 := fun w' (h : Ext x2 w') => ld2 w' (Ext.trans hb2 h)
  clear hb2
  try simp only [List.getElem_toArray, List.getElem_cons_succ, List.getElem_cons_zero, Act.put, List.setIfInBounds_toArray, List.set_cons_zero, List.set_cons_succ]
  obtain ⟨z3, e3, l3, r3⟩ := catE z2 (Lib.itoa beg) 23 21 44 l2 (itoa_len g3 g4) (by decide) (by decide)
  obtain ⟨z4, e4, l4, r4⟩ := catE z3 [32] 44 1 45 l3 (by decide) (by decide) (by decide)
  iterate 2 (refine plan_pure (v := ?_) rfl (by rfl) (fun w' hw' => ?_) ?_; rotate_left; (focus (simp only [List.getElem_toArray, List.getElem_cons_succ, List.getElem_cons_zero]; go_simp; try with_reducible rfl)); try simp only [List.getElem_toArray, List.getElem_cons_succ, List.getElem_cons_zero, Act.put, List.setIfInBounds_toArray, List.set_cons_zero, List.set_cons_succ])
  refine plan_call rfl (by rfl) (fun K hK => ?_)
  go_simp
  refine (refSigned fin g5 g6 x2).mono ?_
  rintro e x3 ⟨rfl, hb3⟩
  refine hK _ _ hb3 ?_
  clear hK K
  have B3 : Hid (Below (w.alloc (.cells #[.int .i64 edge, .bool true, .bool lazy, .int .u64 ses, .int .u64 seq, .int .i64 op, .string ⟨ckey.toArray⟩, .int .i64 amount, .int .i64 span, .int .u64 lease, .string ⟨key.toArray⟩, .int .i64 beg, .int .i64 fin, .int .u64 rses, .int .u64 rseq, .int .i64 re, .int .u64 rlease, .int .i64 ramount, .int .i64 rtil, .int .i64 cap, .int .i64 lent] 48)).heap.size (w.alloc (.cells #[.int .i64 edge, .bool true, .bool lazy, .int .u64 ses, .int .u64 seq, .int .i64 op, .string ⟨ckey.toArray⟩, .int .i64 amount, .int .i64 span, .int .u64 lease, .string ⟨key.toArray⟩, .int .i64 beg, .int .i64 fin, .int .u64 rses, .int .u64 rseq, .int .i64 re, .int .u64 rlease, .int .i64 ramount, .int .i64 rtil, .int .i64 cap, .int .i64 lent] 48)) x3) := Lib.hid (B2.out.trans (hb3.mono B2.out.size))
  replace ld0 := fun w' (h : Ext x3 w') => ld0 w' (Ext.trans hb3 h)
  replace ld1 := fun w' (h : Ext x3 w') => ld1 w' (Ext.trans hb3 h)
  replace ld2 := fun w' (h : Ext x3 w') => ld2 w' (Ext.trans hb3 h)
  clear hb3
  try simp only [List.getElem_toArray, List.getElem_cons_succ, List.getElem_cons_zero, Act.put, List.setIfInBounds_toArray, List.set_cons_zero, List.set_cons_succ]
  obtain ⟨z5, e5, l5, r5⟩ := catE z4 (Lib.itoa fin) 45 21 66 l4 (itoa_len g5 g6) (by decide) (by decide)
  iterate 2 (refine plan_pure (v := ?_) rfl (by rfl) (fun w' hw' => ?_) ?_; rotate_left; (focus (simp only [List.getElem_toArray, List.getElem_cons_succ, List.getElem_cons_zero]; go_simp; try with_reducible rfl)); try simp only [List.getElem_toArray, List.getElem_cons_succ, List.getElem_cons_zero, Act.put, List.setIfInBounds_toArray, List.set_cons_zero, List.set_cons_succ])
  refine plan_end ?_
  have HHD : Hid (z5 = tailw [Lib.itoa edge, Lib.itoa beg, Lib.itoa fin]) := Lib.hid (by rw [e5.out, e4.out, e3.out, e2.out, e1.out]; simp [tailw])
  have HB3 := Lib.hid (hB0.trans (B3.out.mono hB0.size))
  have hk3 := hbk.kept B3.out
  have hlt := hk3.lt
  have d0 := hk3.cell 13 rfl; have d1 := hk3.cell 14 rfl; have d2 := hk3.cell 15 rfl; have d3 := hk3.cell 16 rfl; have d4 := hk3.cell 17 rfl; have d5 := hk3.cell 18 rfl
  have HN := Lib.hid (Blk.new x3 #[.int .u64 0, .int .u64 0, .int .i64 0, .int .u64 0, .int .i64 0, .int .i64 0] 46)
  obtain ⟨hb4, hr4⟩ := laid_row x3 #[.int .u64 0, .int .u64 0, .int .i64 0, .int .u64 0, .int .i64 0, .int .i64 0] #[.int .u64 rses, .int .u64 rseq, .int .i64 re, .int .u64 rlease, .int .i64 ramount, .int .i64 rtil] 46
  have HK4 := Lib.hid (hk3.kept hb4)
  have HR4 := Lib.hid hr4
  have HB4 := Lib.hid (HB3.out.trans (hb4.mono HB3.out.size))
  clear ld0 ld1 ld2 e1 e2 e3 e4 e5 l1 l2 l3 l4 r1 r2 r3 r4 r5 B0 B1 B2 B3 hbk hB0 hk3 hb4 hr4 HB3
  obtain ⟨rb, hrb⟩ : ∃ n, n = x3.heap.size := ⟨_, rfl⟩
  rcases hcase with hk | ⟨hk, rfl⟩ | ⟨hk, rfl, rfl⟩
  · go_wp2_with ((refine wpList_store_row rfl 46 (.tmp 5) (.tmp 22) rfl x3.heap.size #[.int .u64 rses, .int .u64 rseq, .int .i64 re, .int .u64 rlease, .int .i64 ramount, .int .i64 rtil] rfl rfl _ _ HN.out rep_size rfl (by simp [Value.oneCell']) ?_; clear HN d0 d1 d2 d3 d4 d5; generalize (x3.alloc (.cells #[.int .u64 0, .int .u64 0, .int .i64 0, .int .u64 0, .int .i64 0, .int .i64 0] 46)).setRow x3.heap.size #[.int .u64 rses, .int .u64 rseq, .int .i64 re, .int .u64 rlease, .int .i64 ramount, .int .i64 rtil] = w4 at *; rw [← hrb] at HR4; simp only [← hrb]; clear hrb; have c0 := HK4.out.cell 0 rfl; have c1 := HK4.out.cell 1 rfl; have c2 := HK4.out.cell 2 rfl; have c3 := HK4.out.cell 3 rfl; have c4 := HK4.out.cell 4 rfl; have c5 := HK4.out.cell 5 rfl; have c6 := HK4.out.cell 6 rfl; have c7 := HK4.out.cell 7 rfl; have c8 := HK4.out.cell 8 rfl; have c9 := HK4.out.cell 9 rfl; have c10 := HK4.out.cell 10 rfl; have c11 := HK4.out.cell 11 rfl; have c12 := HK4.out.cell 12 rfl; have c13 := HK4.out.cell 13 rfl; have c14 := HK4.out.cell 14 rfl; have c15 := HK4.out.cell 15 rfl; have c16 := HK4.out.cell 16 rfl; have c17 := HK4.out.cell 17 rfl; have c18 := HK4.out.cell 18 rfl; have c19 := HK4.out.cell 19 rfl; have c20 := HK4.out.cell 20 rfl; have r0 := HR4.out.cell 0 rfl; have r1 := HR4.out.cell 1 rfl; have r2 := HR4.out.cell 2 rfl; have r3 := HR4.out.cell 3 rfl; have r4 := HR4.out.cell 4 rfl; have r5 := HR4.out.cell 5 rfl); repeat (first | go_values | go_skip | go_guarded | go_step))
    go_wp2_with fail
    go_ret2
    exact refCallE_no HNO.out HB4.out
  · go_wp2_with ((refine wpList_store_row rfl 46 (.tmp 5) (.tmp 22) rfl x3.heap.size #[.int .u64 rses, .int .u64 rseq, .int .i64 re, .int .u64 rlease, .int .i64 ramount, .int .i64 rtil] rfl rfl _ _ HN.out rep_size rfl (by simp [Value.oneCell']) ?_; clear HN d0 d1 d2 d3 d4 d5; generalize (x3.alloc (.cells #[.int .u64 0, .int .u64 0, .int .i64 0, .int .u64 0, .int .i64 0, .int .i64 0] 46)).setRow x3.heap.size #[.int .u64 rses, .int .u64 rseq, .int .i64 re, .int .u64 rlease, .int .i64 ramount, .int .i64 rtil] = w4 at *; rw [← hrb] at HR4; simp only [← hrb]; clear hrb; have c0 := HK4.out.cell 0 rfl; have c1 := HK4.out.cell 1 rfl; have c2 := HK4.out.cell 2 rfl; have c3 := HK4.out.cell 3 rfl; have c4 := HK4.out.cell 4 rfl; have c5 := HK4.out.cell 5 rfl; have c6 := HK4.out.cell 6 rfl; have c7 := HK4.out.cell 7 rfl; have c8 := HK4.out.cell 8 rfl; have c9 := HK4.out.cell 9 rfl; have c10 := HK4.out.cell 10 rfl; have c11 := HK4.out.cell 11 rfl; have c12 := HK4.out.cell 12 rfl; have c13 := HK4.out.cell 13 rfl; have c14 := HK4.out.cell 14 rfl; have c15 := HK4.out.cell 15 rfl; have c16 := HK4.out.cell 16 rfl; have c17 := HK4.out.cell 17 rfl; have c18 := HK4.out.cell 18 rfl; have c19 := HK4.out.cell 19 rfl; have c20 := HK4.out.cell 20 rfl; have r0 := HR4.out.cell 0 rfl; have r1 := HR4.out.cell 1 rfl; have r2 := HR4.out.cell 2 rfl; have r3 := HR4.out.cell 3 rfl; have r4 := HR4.out.cell 4 rfl; have r5 := HR4.out.cell 5 rfl); repeat (first | go_values | go_skip | go_guarded | go_step))
    go_wp2_with fail
    go_ret2
    exact refCallE_no HNO.out HB4.out
  · go_wp2_with ((refine wpList_store_row rfl 46 (.tmp 5) (.tmp 22) rfl x3.heap.size #[.int .u64 rses, .int .u64 rseq, .int .i64 re, .int .u64 rlease, .int .i64 ramount, .int .i64 rtil] rfl rfl _ _ HN.out rep_size rfl (by simp [Value.oneCell']) ?_; clear HN d0 d1 d2 d3 d4 d5; generalize (x3.alloc (.cells #[.int .u64 0, .int .u64 0, .int .i64 0, .int .u64 0, .int .i64 0, .int .i64 0] 46)).setRow x3.heap.size #[.int .u64 rses, .int .u64 rseq, .int .i64 re, .int .u64 rlease, .int .i64 ramount, .int .i64 rtil] = w4 at *; rw [← hrb] at HR4; simp only [← hrb]; clear hrb; have c0 := HK4.out.cell 0 rfl; have c1 := HK4.out.cell 1 rfl; have c2 := HK4.out.cell 2 rfl; have c3 := HK4.out.cell 3 rfl; have c4 := HK4.out.cell 4 rfl; have c5 := HK4.out.cell 5 rfl; have c6 := HK4.out.cell 6 rfl; have c7 := HK4.out.cell 7 rfl; have c8 := HK4.out.cell 8 rfl; have c9 := HK4.out.cell 9 rfl; have c10 := HK4.out.cell 10 rfl; have c11 := HK4.out.cell 11 rfl; have c12 := HK4.out.cell 12 rfl; have c13 := HK4.out.cell 13 rfl; have c14 := HK4.out.cell 14 rfl; have c15 := HK4.out.cell 15 rfl; have c16 := HK4.out.cell 16 rfl; have c17 := HK4.out.cell 17 rfl; have c18 := HK4.out.cell 18 rfl; have c19 := HK4.out.cell 19 rfl; have c20 := HK4.out.cell 20 rfl; have r0 := HR4.out.cell 0 rfl; have r1 := HR4.out.cell 1 rfl; have r2 := HR4.out.cell 2 rfl; have r3 := HR4.out.cell 3 rfl; have r4 := HR4.out.cell 4 rfl; have r5 := HR4.out.cell 5 rfl); repeat (first | go_values | go_skip | go_guarded | go_step))
    go_wp2_with fail
    go_ret2
    exact refCallE_no HNO.out HB4.out
set_option maxRecDepth 20000 in
set_option maxHeartbeats 8000000 in
theorem refCallNoCall (c : Cl) (hc : c.wf) (hlk : c.look = false) (hno : c.ok = false) (w : World) : Calls Tryd.prog 17 #[.agg c.cells.toArray] w (RefCallE c w) := by
  have HNO := Lib.hid hno
  have C := Lib.hid (refCommanded c.cmd hc.cmd)
  have hno' : c.cmd.ok = true → ¬ c.rep.e < 0 → ¬ 20 < c.rep.e → c.lazy = false → c.key = [] → c.cap = 0 → c.lent = 0 → False := by
    intro h1 h2 h3 h4 h5 h6 h7
    have a1 : (0 : Int) ≤ c.rep.e := by omega
    have a2 : c.rep.e ≤ 20 := by omega
    simp [Cl.ok, hlk, h1, h4, h5, h6, h7, a1, a2] at hno
  obtain ⟨⟨g1, g2⟩, hcw, _, ⟨g3, g4⟩, ⟨g5, g6⟩, ⟨⟨g7, g8⟩, ⟨g9, g10⟩, ⟨q1, q2⟩, ⟨g11, g12⟩, ⟨g13, g14⟩, g15, g16⟩, ⟨g17, g18⟩, g19, g20⟩ := hc
  clear hno hcw
  generalize hq : c.cmd.ok = q at C
  obtain ⟨edge, look, lazy, ⟨ses, seq, op, ckey, amount, span, lease⟩, key, beg, fin, ⟨rses, rseq, re, rlease, ramount, rtil⟩, cap, lent⟩ := c
  simp only at *
  subst hlk
  rw [hq] at hno'
  clear hq
  have HNP := Lib.hid hno'
  clear hno'
  unfold Cl.cells Cm.cells Rp.cells at *
  simp only [List.cons_append, List.nil_append] at *
  have hbk := Blk.new w #[.int .i64 edge, .bool false, .bool lazy, .int .u64 ses, .int .u64 seq, .int .i64 op, .string ⟨ckey.toArray⟩, .int .i64 amount, .int .i64 span, .int .u64 lease, .string ⟨key.toArray⟩, .int .i64 beg, .int .i64 fin, .int .u64 rses, .int .u64 rseq, .int .i64 re, .int .u64 rlease, .int .i64 ramount, .int .i64 rtil, .int .i64 cap, .int .i64 lent] 48
  have hB0 : Below w.heap.size w (w.alloc (.cells #[.int .i64 edge, .bool false, .bool lazy, .int .u64 ses, .int .u64 seq, .int .i64 op, .string ⟨ckey.toArray⟩, .int .i64 amount, .int .i64 span, .int .u64 lease, .string ⟨key.toArray⟩, .int .i64 beg, .int .i64 fin, .int .u64 rses, .int .u64 rseq, .int .i64 re, .int .u64 rlease, .int .i64 ramount, .int .i64 rtil, .int .i64 cap, .int .i64 lent] 48)) := (Below.refl _ _).alloc (Nat.le_refl _) _
  go_enter Tryd.func17, Tryd.ntmps17
  go_wp2_with fail
  refine wp_region_plan_gen (by kernel_rfl) [(0, true), (1, true), (5, true), (6, true), (10, true), (11, true), (2, false), (3, true), (4, true), (7, false), (8, true), (9, true), (12, false), (13, true), (14, true)] (by kernel_rfl) (by kernel_rfl) (by decide) ?_
  intro x0 hx0
  have B0 : Hid (Below (w.alloc (.cells #[.int .i64 edge, .bool false, .bool lazy, .int .u64 ses, .int .u64 seq, .int .i64 op, .string ⟨ckey.toArray⟩, .int .i64 amount, .int .i64 span, .int .u64 lease, .string ⟨key.toArray⟩, .int .i64 beg, .int .i64 fin, .int .u64 rses, .int .u64 rseq, .int .i64 re, .int .u64 rlease, .int .i64 ramount, .int .i64 rtil, .int .i64 cap, .int .i64 lent] 48)).heap.size (w.alloc (.cells #[.int .i64 edge, .bool false, .bool lazy, .int .u64 ses, .int .u64 seq, .int .i64 op, .string ⟨ckey.toArray⟩, .int .i64 amount, .int .i64 span, .int .u64 lease, .string ⟨key.toArray⟩, .int .i64 beg, .int .i64 fin, .int .u64 rses, .int .u64 rseq, .int .i64 re, .int .u64 rlease, .int .i64 ramount, .int .i64 rtil, .int .i64 cap, .int .i64 lent] 48)) x0) := Lib.hid (by rw [hx0]; exact (Below.refl _ _).drew)
  have hbx0 := hbk.kept (show Below (w.alloc (.cells #[.int .i64 edge, .bool false, .bool lazy, .int .u64 ses, .int .u64 seq, .int .i64 op, .string ⟨ckey.toArray⟩, .int .i64 amount, .int .i64 span, .int .u64 lease, .string ⟨key.toArray⟩, .int .i64 beg, .int .i64 fin, .int .u64 rses, .int .u64 rseq, .int .i64 re, .int .u64 rlease, .int .i64 ramount, .int .i64 rtil, .int .i64 cap, .int .i64 lent] 48)).heap.size (w.alloc (.cells #[.int .i64 edge, .bool false, .bool lazy, .int .u64 ses, .int .u64 seq, .int .i64 op, .string ⟨ckey.toArray⟩, .int .i64 amount, .int .i64 span, .int .u64 lease, .string ⟨key.toArray⟩, .int .i64 beg, .int .i64 fin, .int .u64 rses, .int .u64 rseq, .int .i64 re, .int .u64 rlease, .int .i64 ramount, .int .i64 rtil, .int .i64 cap, .int .i64 lent] 48)) x0 by rw [hx0]; exact (Below.refl _ _).drew)
  have ld0 : ∀ w', Ext x0 w' → w'.cell? ⟨w.heap.size, 0, none⟩ = some (.int .i64 edge) := fun w' hw => (hbx0.kept hw).cell 0 rfl
  have ld1 : ∀ w', Ext x0 w' → w'.cell? ⟨w.heap.size, 11, none⟩ = some (.int .i64 beg) := fun w' hw => (hbx0.kept hw).cell 11 rfl
  have ld2 : ∀ w', Ext x0 w' → w'.cell? ⟨w.heap.size, 12, none⟩ = some (.int .i64 fin) := fun w' hw => (hbx0.kept hw).cell 12 rfl
  clear hx0 hbx0
  iterate 6 (refine plan_pure (v := ?_) rfl (by rfl) (fun w' hw' => ?_) ?_; rotate_left; (focus (simp only [List.getElem_toArray, List.getElem_cons_succ, List.getElem_cons_zero]; go_simp; try with_reducible rfl)); try simp only [List.getElem_toArray, List.getElem_cons_succ, List.getElem_cons_zero, Act.put, List.setIfInBounds_toArray, List.set_cons_zero, List.set_cons_succ])
  refine plan_call rfl (by rfl) (fun K hK => ?_)
  go_simp
  refine (refSigned edge g1 g2 x0).mono ?_
  rintro e x1 ⟨rfl, hb1⟩
  refine hK _ _ hb1 ?_
  clear hK K
  have B1 : Hid (Below (w.alloc (.cells #[.int .i64 edge, .bool false, .bool lazy, .int .u64 ses, .int .u64 seq, .int .i64 op, .string ⟨ckey.toArray⟩, .int .i64 amount, .int .i64 span, .int .u64 lease, .string ⟨key.toArray⟩, .int .i64 beg, .int .i64 fin, .int .u64 rses, .int .u64 rseq, .int .i64 re, .int .u64 rlease, .int .i64 ramount, .int .i64 rtil, .int .i64 cap, .int .i64 lent] 48)).heap.size (w.alloc (.cells #[.int .i64 edge, .bool false, .bool lazy, .int .u64 ses, .int .u64 seq, .int .i64 op, .string ⟨ckey.toArray⟩, .int .i64 amount, .int .i64 span, .int .u64 lease, .string ⟨key.toArray⟩, .int .i64 beg, .int .i64 fin, .int .u64 rses, .int .u64 rseq, .int .i64 re, .int .u64 rlease, .int .i64 ramount, .int .i64 rtil, .int .i64 cap, .int .i64 lent] 48)) x1) := Lib.hid (B0.out.trans (hb1.mono B0.out.size))
  replace ld0 := fun w' (h : Ext x1 w') => ld0 w' (Ext.trans hb1 h)
  replace ld1 := fun w' (h : Ext x1 w') => ld1 w' (Ext.trans hb1 h)
  replace ld2 := fun w' (h : Ext x1 w') => ld2 w' (Ext.trans hb1 h)
  clear hb1
  try simp only [List.getElem_toArray, List.getElem_cons_succ, List.getElem_cons_zero, Act.put, List.setIfInBounds_toArray, List.set_cons_zero, List.set_cons_succ]
  obtain ⟨z1, e1, l1, r1⟩ := catE [32] (Lib.itoa edge) 1 21 22 (by decide) (itoa_len g1 g2) (by decide) (by decide)
  obtain ⟨z2, e2, l2, r2⟩ := catE z1 [32] 22 1 23 l1 (by decide) (by decide) (by decide)
  iterate 2 (refine plan_pure (v := ?_) rfl (by rfl) (fun w' hw' => ?_) ?_; rotate_left; (focus (simp only [List.getElem_toArray, List.getElem_cons_succ, List.getElem_cons_zero]; go_simp; try with_reducible rfl)); try simp only [List.getElem_toArray, List.getElem_cons_succ, List.getElem_cons_zero, Act.put, List.setIfInBounds_toArray, List.set_cons_zero, List.set_cons_succ])
  refine plan_call rfl (by rfl) (fun K hK => ?_)
  go_simp
  refine (refSigned beg g3 g4 x1).mono ?_
  rintro e x2 ⟨rfl, hb2⟩
  refine hK _ _ hb2 ?_
  clear hK K
  have B2 : Hid (Below (w.alloc (.cells #[.int .i64 edge, .bool false, .bool lazy, .int .u64 ses, .int .u64 seq, .int .i64 op, .string ⟨ckey.toArray⟩, .int .i64 amount, .int .i64 span, .int .u64 lease, .string ⟨key.toArray⟩, .int .i64 beg, .int .i64 fin, .int .u64 rses, .int .u64 rseq, .int .i64 re, .int .u64 rlease, .int .i64 ramount, .int .i64 rtil, .int .i64 cap, .int .i64 lent] 48)).heap.size (w.alloc (.cells #[.int .i64 edge, .bool false, .bool lazy, .int .u64 ses, .int .u64 seq, .int .i64 op, .string ⟨ckey.toArray⟩, .int .i64 amount, .int .i64 span, .int .u64 lease, .string ⟨key.toArray⟩, .int .i64 beg, .int .i64 fin, .int .u64 rses, .int .u64 rseq, .int .i64 re, .int .u64 rlease, .int .i64 ramount, .int .i64 rtil, .int .i64 cap, .int .i64 lent] 48)) x2) := Lib.hid (B1.out.trans (hb2.mono B1.out.size))
  replace ld0 := fun w' (h : Ext x2 w') => ld0 w' (Ext.trans hb2 h)
  replace ld1 := fun w' (h : Ext x2 w') => ld1 w' (Ext.trans hb2 h)
  replace ld2 := fun w' (h : Ext x2 w') => ld2 w' (Ext.trans hb2 h)
  clear hb2
  try simp only [List.getElem_toArray, List.getElem_cons_succ, List.getElem_cons_zero, Act.put, List.setIfInBounds_toArray, List.set_cons_zero, List.set_cons_succ]
  obtain ⟨z3, e3, l3, r3⟩ := catE z2 (Lib.itoa beg) 23 21 44 l2 (itoa_len g3 g4) (by decide) (by decide)
  obtain ⟨z4, e4, l4, r4⟩ := catE z3 [32] 44 1 45 l3 (by decide) (by decide) (by decide)
  iterate 2 (refine plan_pure (v := ?_) rfl (by rfl) (fun w' hw' => ?_) ?_; rotate_left; (focus (simp only [List.getElem_toArray, List.getElem_cons_succ, List.getElem_cons_zero]; go_simp; try with_reducible rfl)); try simp only [List.getElem_toArray, List.getElem_cons_succ, List.getElem_cons_zero, Act.put, List.setIfInBounds_toArray, List.set_cons_zero, List.set_cons_succ])
  refine plan_call rfl (by rfl) (fun K hK => ?_)
  go_simp
  refine (refSigned fin g5 g6 x2).mono ?_
  rintro e x3 ⟨rfl, hb3⟩
  refine hK _ _ hb3 ?_
  clear hK K
  have B3 : Hid (Below (w.alloc (.cells #[.int .i64 edge, .bool false, .bool lazy, .int .u64 ses, .int .u64 seq, .int .i64 op, .string ⟨ckey.toArray⟩, .int .i64 amount, .int .i64 span, .int .u64 lease, .string ⟨key.toArray⟩, .int .i64 beg, .int .i64 fin, .int .u64 rses, .int .u64 rseq, .int .i64 re, .int .u64 rlease, .int .i64 ramount, .int .i64 rtil, .int .i64 cap, .int .i64 lent] 48)).heap.size (w.alloc (.cells #[.int .i64 edge, .bool false, .bool lazy, .int .u64 ses, .int .u64 seq, .int .i64 op, .string ⟨ckey.toArray⟩, .int .i64 amount, .int .i64 span, .int .u64 lease, .string ⟨key.toArray⟩, .int .i64 beg, .int .i64 fin, .int .u64 rses, .int .u64 rseq, .int .i64 re, .int .u64 rlease, .int .i64 ramount, .int .i64 rtil, .int .i64 cap, .int .i64 lent] 48)) x3) := Lib.hid (B2.out.trans (hb3.mono B2.out.size))
  replace ld0 := fun w' (h : Ext x3 w') => ld0 w' (Ext.trans hb3 h)
  replace ld1 := fun w' (h : Ext x3 w') => ld1 w' (Ext.trans hb3 h)
  replace ld2 := fun w' (h : Ext x3 w') => ld2 w' (Ext.trans hb3 h)
  clear hb3
  try simp only [List.getElem_toArray, List.getElem_cons_succ, List.getElem_cons_zero, Act.put, List.setIfInBounds_toArray, List.set_cons_zero, List.set_cons_succ]
  obtain ⟨z5, e5, l5, r5⟩ := catE z4 (Lib.itoa fin) 45 21 66 l4 (itoa_len g5 g6) (by decide) (by decide)
  iterate 2 (refine plan_pure (v := ?_) rfl (by rfl) (fun w' hw' => ?_) ?_; rotate_left; (focus (simp only [List.getElem_toArray, List.getElem_cons_succ, List.getElem_cons_zero]; go_simp; try with_reducible rfl)); try simp only [List.getElem_toArray, List.getElem_cons_succ, List.getElem_cons_zero, Act.put, List.setIfInBounds_toArray, List.set_cons_zero, List.set_cons_succ])
  refine plan_end ?_
  have HHD : Hid (z5 = tailw [Lib.itoa edge, Lib.itoa beg, Lib.itoa fin]) := Lib.hid (by rw [e5.out, e4.out, e3.out, e2.out, e1.out]; simp [tailw])
  have HB3 := Lib.hid (hB0.trans (B3.out.mono hB0.size))
  have hk3 := hbk.kept B3.out
  have hlt := hk3.lt
  have d0 := hk3.cell 13 rfl; have d1 := hk3.cell 14 rfl; have d2 := hk3.cell 15 rfl; have d3 := hk3.cell 16 rfl; have d4 := hk3.cell 17 rfl; have d5 := hk3.cell 18 rfl
  have HN := Lib.hid (Blk.new x3 #[.int .u64 0, .int .u64 0, .int .i64 0, .int .u64 0, .int .i64 0, .int .i64 0] 46)
  obtain ⟨hb4, hr4⟩ := laid_row x3 #[.int .u64 0, .int .u64 0, .int .i64 0, .int .u64 0, .int .i64 0, .int .i64 0] #[.int .u64 rses, .int .u64 rseq, .int .i64 re, .int .u64 rlease, .int .i64 ramount, .int .i64 rtil] 46
  have HK4 := Lib.hid (hk3.kept hb4)
  have HR4 := Lib.hid hr4
  have HB4 := Lib.hid (HB3.out.trans (hb4.mono HB3.out.size))
  clear ld0 ld1 ld2 e1 e2 e3 e4 e5 l1 l2 l3 l4 r1 r2 r3 r4 r5 B0 B1 B2 B3 hbk hB0 hk3 hb4 hr4 HB3
  obtain ⟨rb, hrb⟩ : ∃ n, n = x3.heap.size := ⟨_, rfl⟩
  go_wp2_with ((refine wpList_store_row rfl 46 (.tmp 5) (.tmp 22) rfl x3.heap.size #[.int .u64 rses, .int .u64 rseq, .int .i64 re, .int .u64 rlease, .int .i64 ramount, .int .i64 rtil] rfl rfl _ _ HN.out rep_size rfl (by simp [Value.oneCell']) ?_; clear HN d0 d1 d2 d3 d4 d5; generalize (x3.alloc (.cells #[.int .u64 0, .int .u64 0, .int .i64 0, .int .u64 0, .int .i64 0, .int .i64 0] 46)).setRow x3.heap.size #[.int .u64 rses, .int .u64 rseq, .int .i64 re, .int .u64 rlease, .int .i64 ramount, .int .i64 rtil] = w4 at *; rw [← hrb] at HR4; simp only [← hrb]; clear hrb; have c0 := HK4.out.cell 0 rfl; have c1 := HK4.out.cell 1 rfl; have c2 := HK4.out.cell 2 rfl; have c3 := HK4.out.cell 3 rfl; have c4 := HK4.out.cell 4 rfl; have c5 := HK4.out.cell 5 rfl; have c6 := HK4.out.cell 6 rfl; have c7 := HK4.out.cell 7 rfl; have c8 := HK4.out.cell 8 rfl; have c9 := HK4.out.cell 9 rfl; have c10 := HK4.out.cell 10 rfl; have c11 := HK4.out.cell 11 rfl; have c12 := HK4.out.cell 12 rfl; have c13 := HK4.out.cell 13 rfl; have c14 := HK4.out.cell 14 rfl; have c15 := HK4.out.cell 15 rfl; have c16 := HK4.out.cell 16 rfl; have c17 := HK4.out.cell 17 rfl; have c18 := HK4.out.cell 18 rfl; have c19 := HK4.out.cell 19 rfl; have c20 := HK4.out.cell 20 rfl; have r0 := HR4.out.cell 0 rfl; have r1 := HR4.out.cell 1 rfl; have r2 := HR4.out.cell 2 rfl; have r3 := HR4.out.cell 3 rfl; have r4 := HR4.out.cell 4 rfl; have r5 := HR4.out.cell 5 rfl); repeat (first | go_values | go_skip | go_guarded | go_step))
  go_wp2_with (go_at_call 33; refine (C.out _).mono ?_)
  rintro e w5 ⟨rfl, hb5⟩
  have HB5 := Lib.hid (HB4.out.trans (hb5.mono HB4.out.size))
  have HK5 := Lib.hid (HK4.out.kept hb5)
  have HR5 := Lib.hid (HR4.out.kept hb5)
  clear hb5 HB4 HK4 HR4 c0 c1 c2 c3 c4 c5 c6 c7 c8 c9 c10 c11 c12 c13 c14 c15 c16 c17 c18 c19 c20 r0 r1 r2 r3 r4 r5
  have c0 := HK5.out.cell 0 rfl; have c1 := HK5.out.cell 1 rfl; have c2 := HK5.out.cell 2 rfl; have c3 := HK5.out.cell 3 rfl; have c4 := HK5.out.cell 4 rfl; have c5 := HK5.out.cell 5 rfl; have c6 := HK5.out.cell 6 rfl; have c7 := HK5.out.cell 7 rfl; have c8 := HK5.out.cell 8 rfl; have c9 := HK5.out.cell 9 rfl; have c10 := HK5.out.cell 10 rfl; have c11 := HK5.out.cell 11 rfl; have c12 := HK5.out.cell 12 rfl; have c13 := HK5.out.cell 13 rfl; have c14 := HK5.out.cell 14 rfl; have c15 := HK5.out.cell 15 rfl; have c16 := HK5.out.cell 16 rfl; have c17 := HK5.out.cell 17 rfl; have c18 := HK5.out.cell 18 rfl; have c19 := HK5.out.cell 19 rfl; have c20 := HK5.out.cell 20 rfl
  have r0 := HR5.out.cell 0 rfl; have r1 := HR5.out.cell 1 rfl; have r2 := HR5.out.cell 2 rfl; have r3 := HR5.out.cell 3 rfl; have r4 := HR5.out.cell 4 rfl; have r5 := HR5.out.cell 5 rfl
  have hno' := HNP.out
  have he : (re < 0 ∨ ¬ re < 0) ∧ (20 < re ∨ ¬ 20 < re) := ⟨by omega, by omega⟩
  cases q with
  | false =>
    clear hno' he
    go_wp2_with fail
    go_ret2
    exact refCallE_no HNO.out HB5.out
  | true =>
    obtain ⟨e0, e1⟩ := he
    rcases e0 with e0 | e0
    · clear hno' e1
      go_wp2_with fail
      go_ret2
      exact refCallE_no HNO.out HB5.out
    · rcases e1 with e1 | e1
      · clear hno'
        go_wp2_with fail
        go_ret2
        exact refCallE_no HNO.out HB5.out
      · cases lazy with
        | true =>
          clear hno'
          go_wp2_with fail
          go_ret2
          exact refCallE_no HNO.out HB5.out
        | false =>
          by_cases hk : key = []
          · by_cases hcp : cap = 0
            · have hln : (lent != 0) = true := by
                rw [bne_iff_ne]
                intro hl
                exact HNP.out rfl (by omega) (by omega) rfl hk hcp hl
              clear hno'
              subst hk hcp
              go_wp2_with fail
              go_ret2
              exact refCallE_no HNO.out HB5.out
            · have hcn : (cap != 0) = true := by rw [bne_iff_ne]; exact hcp
              clear hno' hcp
              subst hk
              go_wp2_with fail
              go_ret2
              exact refCallE_no HNO.out HB5.out
          · have hkn : (key == ([] : List UInt8)) = false := str_ne_of hk
            have hke : key.isEmpty = false := by cases key with | nil => exact absurd rfl hk | cons a b => rfl
            clear hno' hk
            go_wp2_with fail
            go_ret2
            exact refCallE_no HNO.out HB5.out
set_option maxRecDepth 20000 in
set_option maxHeartbeats 8000000 in
theorem refCallCall (c : Cl) (hc : c.wf) (hlk : c.look = false) (hok : c.ok = true) (w : World) : Calls Tryd.prog 17 #[.agg c.cells.toArray] w (RefCallE c w) := by
  have HOK := Lib.hid hok
  have hok' := hok
  simp only [Cl.ok, hlk, Bool.false_eq_true, if_false, Bool.and_eq_true, decide_eq_true_eq, Bool.not_eq_true'] at hok'
  obtain ⟨⟨⟨⟨⟨⟨o1, o2⟩, o3⟩, o4⟩, o5⟩, o6⟩, o7⟩ := hok'
  have C := Lib.hid (refCommanded c.cmd hc.cmd)
  rw [o1] at C
  have hckl : c.cmd.key.length ≤ 64 := by simp only [Cm.ok, Bool.and_eq_true, decide_eq_true_eq] at o1; exact o1.1.1
  have CW := Lib.hid (refCommand c.cmd hc.cmd hckl)
  have HTL : Hid ((tailw c.cmd.words).length ≤ 910) := Lib.hid (by
    have := tailw_len c.cmd.words 129 (Cm.words_len hc.cmd hckl)
    simp only [Cm.words, List.length_cons, List.length_nil] at this ⊢
    omega)
  have HLN : Hid (c.line = [99, 97, 108, 108] ++ (tailw [Lib.itoa c.edge, Lib.itoa c.beg, Lib.itoa c.fin] ++ (tailw c.cmd.words ++ tailw [udec c.rep.ses, udec c.rep.seq, udec c.rep.e, udec c.rep.lease, Lib.itoa c.rep.amount, Lib.itoa c.rep.til]))) := Lib.hid (by
    rw [← tailw_append, ← tailw_append]
    simp [Cl.line, Cl.head, Cl.rest, Rp.words, hlk, wCall])
  generalize tailw c.cmd.words = tw at *
  have hwc := wrap_code o2 o3
  obtain ⟨⟨g1, g2⟩, hcw, _, ⟨g3, g4⟩, ⟨g5, g6⟩, ⟨⟨g7, g8⟩, ⟨g9, g10⟩, ⟨q1, q2⟩, ⟨g11, g12⟩, ⟨g13, g14⟩, g15, g16⟩, ⟨g17, g18⟩, g19, g20⟩ := hc
  have HYES := Lib.hid (fun l (hl : l = c.line) w' hb => refCallE_yes (w := w) (w' := w') (l := l) HOK.out hl hb)
  clear hok hcw o1 hckl
  obtain ⟨edge, look, lazy, ⟨ses, seq, op, ckey, amount, span, lease⟩, key, beg, fin, ⟨rses, rseq, re, rlease, ramount, rtil⟩, cap, lent⟩ := c
  simp only at *
  subst hlk o4 o5 o6 o7
  unfold Cl.cells Cm.cells Rp.cells at *
  simp only [List.cons_append, List.nil_append] at *
  have he0 : ¬ re < 0 := by omega
  have he1 : ¬ 20 < re := by omega
  have hbk := Blk.new w #[.int .i64 edge, .bool false, .bool false, .int .u64 ses, .int .u64 seq, .int .i64 op, .string ⟨ckey.toArray⟩, .int .i64 amount, .int .i64 span, .int .u64 lease, .string ⟨#[]⟩, .int .i64 beg, .int .i64 fin, .int .u64 rses, .int .u64 rseq, .int .i64 re, .int .u64 rlease, .int .i64 ramount, .int .i64 rtil, .int .i64 0, .int .i64 0] 48
  have hB0 : Below w.heap.size w (w.alloc (.cells #[.int .i64 edge, .bool false, .bool false, .int .u64 ses, .int .u64 seq, .int .i64 op, .string ⟨ckey.toArray⟩, .int .i64 amount, .int .i64 span, .int .u64 lease, .string ⟨#[]⟩, .int .i64 beg, .int .i64 fin, .int .u64 rses, .int .u64 rseq, .int .i64 re, .int .u64 rlease, .int .i64 ramount, .int .i64 rtil, .int .i64 0, .int .i64 0] 48)) := (Below.refl _ _).alloc (Nat.le_refl _) _
  go_enter Tryd.func17, Tryd.ntmps17
  go_wp2_with fail
  refine wp_region_plan_gen (by kernel_rfl) [(0, true), (1, true), (5, true), (6, true), (10, true), (11, true), (2, false), (3, true), (4, true), (7, false), (8, true), (9, true), (12, false), (13, true), (14, true)] (by kernel_rfl) (by kernel_rfl) (by decide) ?_
  intro x0 hx0
  have B0 : Hid (Below (w.alloc (.cells #[.int .i64 edge, .bool false, .bool false, .int .u64 ses, .int .u64 seq, .int .i64 op, .string ⟨ckey.toArray⟩, .int .i64 amount, .int .i64 span, .int .u64 lease, .string ⟨#[]⟩, .int .i64 beg, .int .i64 fin, .int .u64 rses, .int .u64 rseq, .int .i64 re, .int .u64 rlease, .int .i64 ramount, .int .i64 rtil, .int .i64 0, .int .i64 0] 48)).heap.size (w.alloc (.cells #[.int .i64 edge, .bool false, .bool false, .int .u64 ses, .int .u64 seq, .int .i64 op, .string ⟨ckey.toArray⟩, .int .i64 amount, .int .i64 span, .int .u64 lease, .string ⟨#[]⟩, .int .i64 beg, .int .i64 fin, .int .u64 rses, .int .u64 rseq, .int .i64 re, .int .u64 rlease, .int .i64 ramount, .int .i64 rtil, .int .i64 0, .int .i64 0] 48)) x0) := Lib.hid (by rw [hx0]; exact (Below.refl _ _).drew)
  have hbx0 := hbk.kept (show Below (w.alloc (.cells #[.int .i64 edge, .bool false, .bool false, .int .u64 ses, .int .u64 seq, .int .i64 op, .string ⟨ckey.toArray⟩, .int .i64 amount, .int .i64 span, .int .u64 lease, .string ⟨#[]⟩, .int .i64 beg, .int .i64 fin, .int .u64 rses, .int .u64 rseq, .int .i64 re, .int .u64 rlease, .int .i64 ramount, .int .i64 rtil, .int .i64 0, .int .i64 0] 48)).heap.size (w.alloc (.cells #[.int .i64 edge, .bool false, .bool false, .int .u64 ses, .int .u64 seq, .int .i64 op, .string ⟨ckey.toArray⟩, .int .i64 amount, .int .i64 span, .int .u64 lease, .string ⟨#[]⟩, .int .i64 beg, .int .i64 fin, .int .u64 rses, .int .u64 rseq, .int .i64 re, .int .u64 rlease, .int .i64 ramount, .int .i64 rtil, .int .i64 0, .int .i64 0] 48)) x0 by rw [hx0]; exact (Below.refl _ _).drew)
  have ld0 : ∀ w', Ext x0 w' → w'.cell? ⟨w.heap.size, 0, none⟩ = some (.int .i64 edge) := fun w' hw => (hbx0.kept hw).cell 0 rfl
  have ld1 : ∀ w', Ext x0 w' → w'.cell? ⟨w.heap.size, 11, none⟩ = some (.int .i64 beg) := fun w' hw => (hbx0.kept hw).cell 11 rfl
  have ld2 : ∀ w', Ext x0 w' → w'.cell? ⟨w.heap.size, 12, none⟩ = some (.int .i64 fin) := fun w' hw => (hbx0.kept hw).cell 12 rfl
  clear hx0 hbx0
  iterate 6 (refine plan_pure (v := ?_) rfl (by rfl) (fun w' hw' => ?_) ?_; rotate_left; (focus (simp only [List.getElem_toArray, List.getElem_cons_succ, List.getElem_cons_zero]; go_simp; try with_reducible rfl)); try simp only [List.getElem_toArray, List.getElem_cons_succ, List.getElem_cons_zero, Act.put, List.setIfInBounds_toArray, List.set_cons_zero, List.set_cons_succ])
  refine plan_call rfl (by rfl) (fun K hK => ?_)
  go_simp
  refine (refSigned edge g1 g2 x0).mono ?_
  rintro e x1 ⟨rfl, hb1⟩
  refine hK _ _ hb1 ?_
  clear hK K
  have B1 : Hid (Below (w.alloc (.cells #[.int .i64 edge, .bool false, .bool false, .int .u64 ses, .int .u64 seq, .int .i64 op, .string ⟨ckey.toArray⟩, .int .i64 amount, .int .i64 span, .int .u64 lease, .string ⟨#[]⟩, .int .i64 beg, .int .i64 fin, .int .u64 rses, .int .u64 rseq, .int .i64 re, .int .u64 rlease, .int .i64 ramount, .int .i64 rtil, .int .i64 0, .int .i64 0] 48)).heap.size (w.alloc (.cells #[.int .i64 edge, .bool false, .bool false, .int .u64 ses, .int .u64 seq, .int .i64 op, .string ⟨ckey.toArray⟩, .int .i64 amount, .int .i64 span, .int .u64 lease, .string ⟨#[]⟩, .int .i64 beg, .int .i64 fin, .int .u64 rses, .int .u64 rseq, .int .i64 re, .int .u64 rlease, .int .i64 ramount, .int .i64 rtil, .int .i64 0, .int .i64 0] 48)) x1) := Lib.hid (B0.out.trans (hb1.mono B0.out.size))
  replace ld0 := fun w' (h : Ext x1 w') => ld0 w' (Ext.trans hb1 h)
  replace ld1 := fun w' (h : Ext x1 w') => ld1 w' (Ext.trans hb1 h)
  replace ld2 := fun w' (h : Ext x1 w') => ld2 w' (Ext.trans hb1 h)
  clear hb1
  try simp only [List.getElem_toArray, List.getElem_cons_succ, List.getElem_cons_zero, Act.put, List.setIfInBounds_toArray, List.set_cons_zero, List.set_cons_succ]
  obtain ⟨z1, e1, l1, r1⟩ := catE [32] (Lib.itoa edge) 1 21 22 (by decide) (itoa_len g1 g2) (by decide) (by decide)
  obtain ⟨z2, e2, l2, r2⟩ := catE z1 [32] 22 1 23 l1 (by decide) (by decide) (by decide)
  iterate 2 (refine plan_pure (v := ?_) rfl (by rfl) (fun w' hw' => ?_) ?_; rotate_left; (focus (simp only [List.getElem_toArray, List.getElem_cons_succ, List.getElem_cons_zero]; go_simp; try with_reducible rfl)); try simp only [List.getElem_toArray, List.getElem_cons_succ, List.getElem_cons_zero, Act.put, List.setIfInBounds_toArray, List.set_cons_zero, List.set_cons_succ])
  refine plan_call rfl (by rfl) (fun K hK => ?_)
  go_simp
  refine (refSigned beg g3 g4 x1).mono ?_
  rintro e x2 ⟨rfl, hb2⟩
  refine hK _ _ hb2 ?_
  clear hK K
  have B2 : Hid (Below (w.alloc (.cells #[.int .i64 edge, .bool false, .bool false, .int .u64 ses, .int .u64 seq, .int .i64 op, .string ⟨ckey.toArray⟩, .int .i64 amount, .int .i64 span, .int .u64 lease, .string ⟨#[]⟩, .int .i64 beg, .int .i64 fin, .int .u64 rses, .int .u64 rseq, .int .i64 re, .int .u64 rlease, .int .i64 ramount, .int .i64 rtil, .int .i64 0, .int .i64 0] 48)).heap.size (w.alloc (.cells #[.int .i64 edge, .bool false, .bool false, .int .u64 ses, .int .u64 seq, .int .i64 op, .string ⟨ckey.toArray⟩, .int .i64 amount, .int .i64 span, .int .u64 lease, .string ⟨#[]⟩, .int .i64 beg, .int .i64 fin, .int .u64 rses, .int .u64 rseq, .int .i64 re, .int .u64 rlease, .int .i64 ramount, .int .i64 rtil, .int .i64 0, .int .i64 0] 48)) x2) := Lib.hid (B1.out.trans (hb2.mono B1.out.size))
  replace ld0 := fun w' (h : Ext x2 w') => ld0 w' (Ext.trans hb2 h)
  replace ld1 := fun w' (h : Ext x2 w') => ld1 w' (Ext.trans hb2 h)
  replace ld2 := fun w' (h : Ext x2 w') => ld2 w' (Ext.trans hb2 h)
  clear hb2
  try simp only [List.getElem_toArray, List.getElem_cons_succ, List.getElem_cons_zero, Act.put, List.setIfInBounds_toArray, List.set_cons_zero, List.set_cons_succ]
  obtain ⟨z3, e3, l3, r3⟩ := catE z2 (Lib.itoa beg) 23 21 44 l2 (itoa_len g3 g4) (by decide) (by decide)
  obtain ⟨z4, e4, l4, r4⟩ := catE z3 [32] 44 1 45 l3 (by decide) (by decide) (by decide)
  iterate 2 (refine plan_pure (v := ?_) rfl (by rfl) (fun w' hw' => ?_) ?_; rotate_left; (focus (simp only [List.getElem_toArray, List.getElem_cons_succ, List.getElem_cons_zero]; go_simp; try with_reducible rfl)); try simp only [List.getElem_toArray, List.getElem_cons_succ, List.getElem_cons_zero, Act.put, List.setIfInBounds_toArray, List.set_cons_zero, List.set_cons_succ])
  refine plan_call rfl (by rfl) (fun K hK => ?_)
  go_simp
  refine (refSigned fin g5 g6 x2).mono ?_
  rintro e x3 ⟨rfl, hb3⟩
  refine hK _ _ hb3 ?_
  clear hK K
  have B3 : Hid (Below (w.alloc (.cells #[.int .i64 edge, .bool false, .bool false, .int .u64 ses, .int .u64 seq, .int .i64 op, .string ⟨ckey.toArray⟩, .int .i64 amount, .int .i64 span, .int .u64 lease, .string ⟨#[]⟩, .int .i64 beg, .int .i64 fin, .int .u64 rses, .int .u64 rseq, .int .i64 re, .int .u64 rlease, .int .i64 ramount, .int .i64 rtil, .int .i64 0, .int .i64 0] 48)).heap.size (w.alloc (.cells #[.int .i64 edge, .bool false, .bool false, .int .u64 ses, .int .u64 seq, .int .i64 op, .string ⟨ckey.toArray⟩, .int .i64 amount, .int .i64 span, .int .u64 lease, .string ⟨#[]⟩, .int .i64 beg, .int .i64 fin, .int .u64 rses, .int .u64 rseq, .int .i64 re, .int .u64 rlease, .int .i64 ramount, .int .i64 rtil, .int .i64 0, .int .i64 0] 48)) x3) := Lib.hid (B2.out.trans (hb3.mono B2.out.size))
  replace ld0 := fun w' (h : Ext x3 w') => ld0 w' (Ext.trans hb3 h)
  replace ld1 := fun w' (h : Ext x3 w') => ld1 w' (Ext.trans hb3 h)
  replace ld2 := fun w' (h : Ext x3 w') => ld2 w' (Ext.trans hb3 h)
  clear hb3
  try simp only [List.getElem_toArray, List.getElem_cons_succ, List.getElem_cons_zero, Act.put, List.setIfInBounds_toArray, List.set_cons_zero, List.set_cons_succ]
  obtain ⟨z5, e5, l5, r5⟩ := catE z4 (Lib.itoa fin) 45 21 66 l4 (itoa_len g5 g6) (by decide) (by decide)
  iterate 2 (refine plan_pure (v := ?_) rfl (by rfl) (fun w' hw' => ?_) ?_; rotate_left; (focus (simp only [List.getElem_toArray, List.getElem_cons_succ, List.getElem_cons_zero]; go_simp; try with_reducible rfl)); try simp only [List.getElem_toArray, List.getElem_cons_succ, List.getElem_cons_zero, Act.put, List.setIfInBounds_toArray, List.set_cons_zero, List.set_cons_succ])
  refine plan_end ?_
  have HHD : Hid (z5 = tailw [Lib.itoa edge, Lib.itoa beg, Lib.itoa fin]) := Lib.hid (by rw [e5.out, e4.out, e3.out, e2.out, e1.out]; simp [tailw])
  have HB3 := Lib.hid (hB0.trans (B3.out.mono hB0.size))
  have hk3 := hbk.kept B3.out
  have hlt := hk3.lt
  have d0 := hk3.cell 13 rfl; have d1 := hk3.cell 14 rfl; have d2 := hk3.cell 15 rfl; have d3 := hk3.cell 16 rfl; have d4 := hk3.cell 17 rfl; have d5 := hk3.cell 18 rfl
  have HN := Lib.hid (Blk.new x3 #[.int .u64 0, .int .u64 0, .int .i64 0, .int .u64 0, .int .i64 0, .int .i64 0] 46)
  obtain ⟨hb4, hr4⟩ := laid_row x3 #[.int .u64 0, .int .u64 0, .int .i64 0, .int .u64 0, .int .i64 0, .int .i64 0] #[.int .u64 rses, .int .u64 rseq, .int .i64 re, .int .u64 rlease, .int .i64 ramount, .int .i64 rtil] 46
  have HK4 := Lib.hid (hk3.kept hb4)
  have HR4 := Lib.hid hr4
  have HB4 := Lib.hid (HB3.out.trans (hb4.mono HB3.out.size))
  clear ld0 ld1 ld2 e1 e2 e3 e4 e5 l1 l2 l3 l4 r1 r2 r3 r4 r5 B0 B1 B2 B3 hbk hB0 hk3 hb4 hr4 HB3
  obtain ⟨rb, hrb⟩ : ∃ n, n = x3.heap.size := ⟨_, rfl⟩
  go_wp2_with ((refine wpList_store_row rfl 46 (.tmp 5) (.tmp 22) rfl x3.heap.size #[.int .u64 rses, .int .u64 rseq, .int .i64 re, .int .u64 rlease, .int .i64 ramount, .int .i64 rtil] rfl rfl _ _ HN.out rep_size rfl (by simp [Value.oneCell']) ?_; clear HN d0 d1 d2 d3 d4 d5; generalize (x3.alloc (.cells #[.int .u64 0, .int .u64 0, .int .i64 0, .int .u64 0, .int .i64 0, .int .i64 0] 46)).setRow x3.heap.size #[.int .u64 rses, .int .u64 rseq, .int .i64 re, .int .u64 rlease, .int .i64 ramount, .int .i64 rtil] = w4 at *; rw [← hrb] at HR4; simp only [← hrb]; clear hrb; have c0 := HK4.out.cell 0 rfl; have c1 := HK4.out.cell 1 rfl; have c2 := HK4.out.cell 2 rfl; have c3 := HK4.out.cell 3 rfl; have c4 := HK4.out.cell 4 rfl; have c5 := HK4.out.cell 5 rfl; have c6 := HK4.out.cell 6 rfl; have c7 := HK4.out.cell 7 rfl; have c8 := HK4.out.cell 8 rfl; have c9 := HK4.out.cell 9 rfl; have c10 := HK4.out.cell 10 rfl; have c11 := HK4.out.cell 11 rfl; have c12 := HK4.out.cell 12 rfl; have c13 := HK4.out.cell 13 rfl; have c14 := HK4.out.cell 14 rfl; have c15 := HK4.out.cell 15 rfl; have c16 := HK4.out.cell 16 rfl; have c17 := HK4.out.cell 17 rfl; have c18 := HK4.out.cell 18 rfl; have c19 := HK4.out.cell 19 rfl; have c20 := HK4.out.cell 20 rfl; have r0 := HR4.out.cell 0 rfl; have r1 := HR4.out.cell 1 rfl; have r2 := HR4.out.cell 2 rfl; have r3 := HR4.out.cell 3 rfl; have r4 := HR4.out.cell 4 rfl; have r5 := HR4.out.cell 5 rfl); repeat (first | go_values | go_skip | go_guarded | go_step))
  go_wp2_with (go_at_call 33; refine (C.out _).mono ?_)
  rintro e w5 ⟨rfl, hb5⟩
  have HB5 := Lib.hid (HB4.out.trans (hb5.mono HB4.out.size))
  have HK5 := Lib.hid (HK4.out.kept hb5)
  have HR5 := Lib.hid (HR4.out.kept hb5)
  clear hb5 HB4 HK4 HR4 C c0 c1 c2 c3 c4 c5 c6 c7 c8 c9 c10 c11 c12 c13 c14 c15 c16 c17 c18 c19 c20 r0 r1 r2 r3 r4 r5
  have c0 := HK5.out.cell 0 rfl; have c1 := HK5.out.cell 1 rfl; have c2 := HK5.out.cell 2 rfl; have c3 := HK5.out.cell 3 rfl; have c4 := HK5.out.cell 4 rfl; have c5 := HK5.out.cell 5 rfl; have c6 := HK5.out.cell 6 rfl; have c7 := HK5.out.cell 7 rfl; have c8 := HK5.out.cell 8 rfl; have c9 := HK5.out.cell 9 rfl; have c10 := HK5.out.cell 10 rfl; have c11 := HK5.out.cell 11 rfl; have c12 := HK5.out.cell 12 rfl; have c13 := HK5.out.cell 13 rfl; have c14 := HK5.out.cell 14 rfl; have c15 := HK5.out.cell 15 rfl; have c16 := HK5.out.cell 16 rfl; have c17 := HK5.out.cell 17 rfl; have c18 := HK5.out.cell 18 rfl; have c19 := HK5.out.cell 19 rfl; have c20 := HK5.out.cell 20 rfl
  have r0 := HR5.out.cell 0 rfl; have r1 := HR5.out.cell 1 rfl; have r2 := HR5.out.cell 2 rfl; have r3 := HR5.out.cell 3 rfl; have r4 := HR5.out.cell 4 rfl; have r5 := HR5.out.cell 5 rfl
  go_wp2_with fail
  clear c0 c1 c2 c3 c4 c5 c6 c7 c8 c9 c10 c11 c12 c13 c14 c15 c16 c17 c18 c19 c20 r0 r1 r2 r3 r4 r5
  refine wp_region_plan_gen (by kernel_rfl) [(0, true), (1, true), (2, true), (3, true), (7, true), (8, true), (12, true), (13, true), (17, true), (18, true), (19, true), (23, true), (24, true), (28, true), (29, true), (33, true), (34, true), (4, false), (5, true), (6, true), (9, false), (10, true), (11, true), (14, false), (15, true), (16, true), (20, false), (21, true), (22, true), (25, false), (26, true), (27, true), (30, false), (31, true), (32, true), (35, false), (36, true), (37, true), (38, true)] (by kernel_rfl) (by kernel_rfl) (by decide) ?_
  intro y0 hx0
  have D0 : Hid (Below w5.heap.size w5 y0) := Lib.hid (by rw [hx0]; exact (Below.refl _ _).drew)
  have hbx0 := HK5.out.kept (show Below w5.heap.size w5 y0 by rw [hx0]; exact (Below.refl _ _).drew)
  have hbx1 := HR5.out.kept (show Below w5.heap.size w5 y0 by rw [hx0]; exact (Below.refl _ _).drew)
  have ld0 : ∀ w', Ext y0 w' → w'.cell? ⟨w.heap.size, 3, none⟩ = some (.int .u64 ses) := fun w' hw => (hbx0.kept hw).cell 3 rfl
  have ld1 : ∀ w', Ext y0 w' → w'.cell? ⟨w.heap.size, 4, none⟩ = some (.int .u64 seq) := fun w' hw => (hbx0.kept hw).cell 4 rfl
  have ld2 : ∀ w', Ext y0 w' → w'.cell? ⟨w.heap.size, 5, none⟩ = some (.int .i64 op) := fun w' hw => (hbx0.kept hw).cell 5 rfl
  have ld3 : ∀ w', Ext y0 w' → w'.cell? ⟨w.heap.size, 6, none⟩ = some (.string ⟨ckey.toArray⟩) := fun w' hw => (hbx0.kept hw).cell 6 rfl
  have ld4 : ∀ w', Ext y0 w' → w'.cell? ⟨w.heap.size, 7, none⟩ = some (.int .i64 amount) := fun w' hw => (hbx0.kept hw).cell 7 rfl
  have ld5 : ∀ w', Ext y0 w' → w'.cell? ⟨w.heap.size, 8, none⟩ = some (.int .i64 span) := fun w' hw => (hbx0.kept hw).cell 8 rfl
  have ld6 : ∀ w', Ext y0 w' → w'.cell? ⟨w.heap.size, 9, none⟩ = some (.int .u64 lease) := fun w' hw => (hbx0.kept hw).cell 9 rfl
  have ld7 : ∀ w', Ext y0 w' → w'.cell? ⟨rb, 0, none⟩ = some (.int .u64 rses) := fun w' hw => (hbx1.kept hw).cell 0 rfl
  have ld8 : ∀ w', Ext y0 w' → w'.cell? ⟨rb, 1, none⟩ = some (.int .u64 rseq) := fun w' hw => (hbx1.kept hw).cell 1 rfl
  have ld9 : ∀ w', Ext y0 w' → w'.cell? ⟨rb, 2, none⟩ = some (.int .i64 re) := fun w' hw => (hbx1.kept hw).cell 2 rfl
  have ld10 : ∀ w', Ext y0 w' → w'.cell? ⟨rb, 3, none⟩ = some (.int .u64 rlease) := fun w' hw => (hbx1.kept hw).cell 3 rfl
  have ld11 : ∀ w', Ext y0 w' → w'.cell? ⟨rb, 4, none⟩ = some (.int .i64 ramount) := fun w' hw => (hbx1.kept hw).cell 4 rfl
  have ld12 : ∀ w', Ext y0 w' → w'.cell? ⟨rb, 5, none⟩ = some (.int .i64 rtil) := fun w' hw => (hbx1.kept hw).cell 5 rfl
  clear hx0 hbx0 hbx1
  obtain ⟨z6, e6, l6, r6⟩ := catE [99, 97, 108, 108] z5 4 66 70 (by decide) l5 (by decide) (by decide)
  iterate 17 (refine plan_pure (v := ?_) rfl (by rfl) (fun w' hw' => ?_) ?_; rotate_left; (focus (simp only [List.getElem_toArray, List.getElem_cons_succ, List.getElem_cons_zero]; go_simp; try with_reducible rfl)); try simp only [List.getElem_toArray, List.getElem_cons_succ, List.getElem_cons_zero, Act.put, List.setIfInBounds_toArray, List.set_cons_zero, List.set_cons_succ])
  refine plan_call rfl (by rfl) (fun K hK => ?_)
  go_simp
  refine (CW.out y0).mono ?_
  rintro e y1 ⟨rfl, hb1⟩
  refine hK _ _ hb1 ?_
  clear hK K
  have D1 : Hid (Below w5.heap.size w5 y1) := Lib.hid (D0.out.trans (hb1.mono D0.out.size))
  replace ld0 := fun w' (h : Ext y1 w') => ld0 w' (Ext.trans hb1 h)
  replace ld1 := fun w' (h : Ext y1 w') => ld1 w' (Ext.trans hb1 h)
  replace ld2 := fun w' (h : Ext y1 w') => ld2 w' (Ext.trans hb1 h)
  replace ld3 := fun w' (h : Ext y1 w') => ld3 w' (Ext.trans hb1 h)
  replace ld4 := fun w' (h : Ext y1 w') => ld4 w' (Ext.trans hb1 h)
  replace ld5 := fun w' (h : Ext y1 w') => ld5 w' (Ext.trans hb1 h)
  replace ld6 := fun w' (h : Ext y1 w') => ld6 w' (Ext.trans hb1 h)
  replace ld7 := fun w' (h : Ext y1 w') => ld7 w' (Ext.trans hb1 h)
  replace ld8 := fun w' (h : Ext y1 w') => ld8 w' (Ext.trans hb1 h)
  replace ld9 := fun w' (h : Ext y1 w') => ld9 w' (Ext.trans hb1 h)
  replace ld10 := fun w' (h : Ext y1 w') => ld10 w' (Ext.trans hb1 h)
  replace ld11 := fun w' (h : Ext y1 w') => ld11 w' (Ext.trans hb1 h)
  replace ld12 := fun w' (h : Ext y1 w') => ld12 w' (Ext.trans hb1 h)
  clear hb1
  try simp only [List.getElem_toArray, List.getElem_cons_succ, List.getElem_cons_zero, Act.put, List.setIfInBounds_toArray, List.set_cons_zero, List.set_cons_succ]
  obtain ⟨z7, e7, l7, r7⟩ := catE z6 tw 70 910 980 l6 HTL.out (by decide) (by decide)
  obtain ⟨z8, e8, l8, r8⟩ := catE z7 [32] 980 1 981 l7 (by decide) (by decide) (by decide)
  iterate 2 (refine plan_pure (v := ?_) rfl (by rfl) (fun w' hw' => ?_) ?_; rotate_left; (focus (simp only [List.getElem_toArray, List.getElem_cons_succ, List.getElem_cons_zero]; go_simp; try with_reducible rfl)); try simp only [List.getElem_toArray, List.getElem_cons_succ, List.getElem_cons_zero, Act.put, List.setIfInBounds_toArray, List.set_cons_zero, List.set_cons_succ])
  refine plan_call rfl (by rfl) (fun K hK => ?_)
  go_simp
  refine (refDecU rses g7 g8 y1).mono ?_
  rintro e y2 ⟨rfl, hb2⟩
  refine hK _ _ hb2 ?_
  clear hK K
  have D2 : Hid (Below w5.heap.size w5 y2) := Lib.hid (D1.out.trans (hb2.mono D1.out.size))
  replace ld0 := fun w' (h : Ext y2 w') => ld0 w' (Ext.trans hb2 h)
  replace ld1 := fun w' (h : Ext y2 w') => ld1 w' (Ext.trans hb2 h)
  replace ld2 := fun w' (h : Ext y2 w') => ld2 w' (Ext.trans hb2 h)
  replace ld3 := fun w' (h : Ext y2 w') => ld3 w' (Ext.trans hb2 h)
  replace ld4 := fun w' (h : Ext y2 w') => ld4 w' (Ext.trans hb2 h)
  replace ld5 := fun w' (h : Ext y2 w') => ld5 w' (Ext.trans hb2 h)
  replace ld6 := fun w' (h : Ext y2 w') => ld6 w' (Ext.trans hb2 h)
  replace ld7 := fun w' (h : Ext y2 w') => ld7 w' (Ext.trans hb2 h)
  replace ld8 := fun w' (h : Ext y2 w') => ld8 w' (Ext.trans hb2 h)
  replace ld9 := fun w' (h : Ext y2 w') => ld9 w' (Ext.trans hb2 h)
  replace ld10 := fun w' (h : Ext y2 w') => ld10 w' (Ext.trans hb2 h)
  replace ld11 := fun w' (h : Ext y2 w') => ld11 w' (Ext.trans hb2 h)
  replace ld12 := fun w' (h : Ext y2 w') => ld12 w' (Ext.trans hb2 h)
  clear hb2
  try simp only [List.getElem_toArray, List.getElem_cons_succ, List.getElem_cons_zero, Act.put, List.setIfInBounds_toArray, List.set_cons_zero, List.set_cons_succ]
  obtain ⟨z9, e9, l9, r9⟩ := catE z8 (udec rses) 981 20 1001 l8 (udec_len g8) (by decide) (by decide)
  obtain ⟨z10, e10, l10, r10⟩ := catE z9 [32] 1001 1 1002 l9 (by decide) (by decide) (by decide)
  iterate 2 (refine plan_pure (v := ?_) rfl (by rfl) (fun w' hw' => ?_) ?_; rotate_left; (focus (simp only [List.getElem_toArray, List.getElem_cons_succ, List.getElem_cons_zero]; go_simp; try with_reducible rfl)); try simp only [List.getElem_toArray, List.getElem_cons_succ, List.getElem_cons_zero, Act.put, List.setIfInBounds_toArray, List.set_cons_zero, List.set_cons_succ])
  refine plan_call rfl (by rfl) (fun K hK => ?_)
  go_simp
  refine (refDecU rseq g9 g10 y2).mono ?_
  rintro e y3 ⟨rfl, hb3⟩
  refine hK _ _ hb3 ?_
  clear hK K
  have D3 : Hid (Below w5.heap.size w5 y3) := Lib.hid (D2.out.trans (hb3.mono D2.out.size))
  replace ld0 := fun w' (h : Ext y3 w') => ld0 w' (Ext.trans hb3 h)
  replace ld1 := fun w' (h : Ext y3 w') => ld1 w' (Ext.trans hb3 h)
  replace ld2 := fun w' (h : Ext y3 w') => ld2 w' (Ext.trans hb3 h)
  replace ld3 := fun w' (h : Ext y3 w') => ld3 w' (Ext.trans hb3 h)
  replace ld4 := fun w' (h : Ext y3 w') => ld4 w' (Ext.trans hb3 h)
  replace ld5 := fun w' (h : Ext y3 w') => ld5 w' (Ext.trans hb3 h)
  replace ld6 := fun w' (h : Ext y3 w') => ld6 w' (Ext.trans hb3 h)
  replace ld7 := fun w' (h : Ext y3 w') => ld7 w' (Ext.trans hb3 h)
  replace ld8 := fun w' (h : Ext y3 w') => ld8 w' (Ext.trans hb3 h)
  replace ld9 := fun w' (h : Ext y3 w') => ld9 w' (Ext.trans hb3 h)
  replace ld10 := fun w' (h : Ext y3 w') => ld10 w' (Ext.trans hb3 h)
  replace ld11 := fun w' (h : Ext y3 w') => ld11 w' (Ext.trans hb3 h)
  replace ld12 := fun w' (h : Ext y3 w') => ld12 w' (Ext.trans hb3 h)
  clear hb3
  try simp only [List.getElem_toArray, List.getElem_cons_succ, List.getElem_cons_zero, Act.put, List.setIfInBounds_toArray, List.set_cons_zero, List.set_cons_succ]
  obtain ⟨z11, e11, l11, r11⟩ := catE z10 (udec rseq) 1002 20 1022 l10 (udec_len g10) (by decide) (by decide)
  obtain ⟨z12, e12, l12, r12⟩ := catE z11 [32] 1022 1 1023 l11 (by decide) (by decide) (by decide)
  iterate 2 (refine plan_pure (v := ?_) rfl (by rfl) (fun w' hw' => ?_) ?_; rotate_left; (focus (simp only [List.getElem_toArray, List.getElem_cons_succ, List.getElem_cons_zero]; go_simp; try with_reducible rfl)); try simp only [List.getElem_toArray, List.getElem_cons_succ, List.getElem_cons_zero, Act.put, List.setIfInBounds_toArray, List.set_cons_zero, List.set_cons_succ])
  refine plan_call rfl (by rfl) (fun K hK => ?_)
  go_simp
  refine (refDecU re o2 (by omega) y3).mono ?_
  rintro e y4 ⟨rfl, hb4⟩
  refine hK _ _ hb4 ?_
  clear hK K
  have D4 : Hid (Below w5.heap.size w5 y4) := Lib.hid (D3.out.trans (hb4.mono D3.out.size))
  replace ld0 := fun w' (h : Ext y4 w') => ld0 w' (Ext.trans hb4 h)
  replace ld1 := fun w' (h : Ext y4 w') => ld1 w' (Ext.trans hb4 h)
  replace ld2 := fun w' (h : Ext y4 w') => ld2 w' (Ext.trans hb4 h)
  replace ld3 := fun w' (h : Ext y4 w') => ld3 w' (Ext.trans hb4 h)
  replace ld4 := fun w' (h : Ext y4 w') => ld4 w' (Ext.trans hb4 h)
  replace ld5 := fun w' (h : Ext y4 w') => ld5 w' (Ext.trans hb4 h)
  replace ld6 := fun w' (h : Ext y4 w') => ld6 w' (Ext.trans hb4 h)
  replace ld7 := fun w' (h : Ext y4 w') => ld7 w' (Ext.trans hb4 h)
  replace ld8 := fun w' (h : Ext y4 w') => ld8 w' (Ext.trans hb4 h)
  replace ld9 := fun w' (h : Ext y4 w') => ld9 w' (Ext.trans hb4 h)
  replace ld10 := fun w' (h : Ext y4 w') => ld10 w' (Ext.trans hb4 h)
  replace ld11 := fun w' (h : Ext y4 w') => ld11 w' (Ext.trans hb4 h)
  replace ld12 := fun w' (h : Ext y4 w') => ld12 w' (Ext.trans hb4 h)
  clear hb4
  try simp only [List.getElem_toArray, List.getElem_cons_succ, List.getElem_cons_zero, Act.put, List.setIfInBounds_toArray, List.set_cons_zero, List.set_cons_succ]
  obtain ⟨z13, e13, l13, r13⟩ := catE z12 (udec re) 1023 20 1043 l12 (udec_len (by omega)) (by decide) (by decide)
  obtain ⟨z14, e14, l14, r14⟩ := catE z13 [32] 1043 1 1044 l13 (by decide) (by decide) (by decide)
  iterate 2 (refine plan_pure (v := ?_) rfl (by rfl) (fun w' hw' => ?_) ?_; rotate_left; (focus (simp only [List.getElem_toArray, List.getElem_cons_succ, List.getElem_cons_zero]; go_simp; try with_reducible rfl)); try simp only [List.getElem_toArray, List.getElem_cons_succ, List.getElem_cons_zero, Act.put, List.setIfInBounds_toArray, List.set_cons_zero, List.set_cons_succ])
  refine plan_call rfl (by rfl) (fun K hK => ?_)
  go_simp
  refine (refDecU rlease g11 g12 y4).mono ?_
  rintro e y5 ⟨rfl, hb5⟩
  refine hK _ _ hb5 ?_
  clear hK K
  have D5 : Hid (Below w5.heap.size w5 y5) := Lib.hid (D4.out.trans (hb5.mono D4.out.size))
  replace ld0 := fun w' (h : Ext y5 w') => ld0 w' (Ext.trans hb5 h)
  replace ld1 := fun w' (h : Ext y5 w') => ld1 w' (Ext.trans hb5 h)
  replace ld2 := fun w' (h : Ext y5 w') => ld2 w' (Ext.trans hb5 h)
  replace ld3 := fun w' (h : Ext y5 w') => ld3 w' (Ext.trans hb5 h)
  replace ld4 := fun w' (h : Ext y5 w') => ld4 w' (Ext.trans hb5 h)
  replace ld5 := fun w' (h : Ext y5 w') => ld5 w' (Ext.trans hb5 h)
  replace ld6 := fun w' (h : Ext y5 w') => ld6 w' (Ext.trans hb5 h)
  replace ld7 := fun w' (h : Ext y5 w') => ld7 w' (Ext.trans hb5 h)
  replace ld8 := fun w' (h : Ext y5 w') => ld8 w' (Ext.trans hb5 h)
  replace ld9 := fun w' (h : Ext y5 w') => ld9 w' (Ext.trans hb5 h)
  replace ld10 := fun w' (h : Ext y5 w') => ld10 w' (Ext.trans hb5 h)
  replace ld11 := fun w' (h : Ext y5 w') => ld11 w' (Ext.trans hb5 h)
  replace ld12 := fun w' (h : Ext y5 w') => ld12 w' (Ext.trans hb5 h)
  clear hb5
  try simp only [List.getElem_toArray, List.getElem_cons_succ, List.getElem_cons_zero, Act.put, List.setIfInBounds_toArray, List.set_cons_zero, List.set_cons_succ]
  obtain ⟨z15, e15, l15, r15⟩ := catE z14 (udec rlease) 1044 20 1064 l14 (udec_len g12) (by decide) (by decide)
  obtain ⟨z16, e16, l16, r16⟩ := catE z15 [32] 1064 1 1065 l15 (by decide) (by decide) (by decide)
  iterate 2 (refine plan_pure (v := ?_) rfl (by rfl) (fun w' hw' => ?_) ?_; rotate_left; (focus (simp only [List.getElem_toArray, List.getElem_cons_succ, List.getElem_cons_zero]; go_simp; try with_reducible rfl)); try simp only [List.getElem_toArray, List.getElem_cons_succ, List.getElem_cons_zero, Act.put, List.setIfInBounds_toArray, List.set_cons_zero, List.set_cons_succ])
  refine plan_call rfl (by rfl) (fun K hK => ?_)
  go_simp
  refine (refSigned ramount g13 g14 y5).mono ?_
  rintro e y6 ⟨rfl, hb6⟩
  refine hK _ _ hb6 ?_
  clear hK K
  have D6 : Hid (Below w5.heap.size w5 y6) := Lib.hid (D5.out.trans (hb6.mono D5.out.size))
  replace ld0 := fun w' (h : Ext y6 w') => ld0 w' (Ext.trans hb6 h)
  replace ld1 := fun w' (h : Ext y6 w') => ld1 w' (Ext.trans hb6 h)
  replace ld2 := fun w' (h : Ext y6 w') => ld2 w' (Ext.trans hb6 h)
  replace ld3 := fun w' (h : Ext y6 w') => ld3 w' (Ext.trans hb6 h)
  replace ld4 := fun w' (h : Ext y6 w') => ld4 w' (Ext.trans hb6 h)
  replace ld5 := fun w' (h : Ext y6 w') => ld5 w' (Ext.trans hb6 h)
  replace ld6 := fun w' (h : Ext y6 w') => ld6 w' (Ext.trans hb6 h)
  replace ld7 := fun w' (h : Ext y6 w') => ld7 w' (Ext.trans hb6 h)
  replace ld8 := fun w' (h : Ext y6 w') => ld8 w' (Ext.trans hb6 h)
  replace ld9 := fun w' (h : Ext y6 w') => ld9 w' (Ext.trans hb6 h)
  replace ld10 := fun w' (h : Ext y6 w') => ld10 w' (Ext.trans hb6 h)
  replace ld11 := fun w' (h : Ext y6 w') => ld11 w' (Ext.trans hb6 h)
  replace ld12 := fun w' (h : Ext y6 w') => ld12 w' (Ext.trans hb6 h)
  clear hb6
  try simp only [List.getElem_toArray, List.getElem_cons_succ, List.getElem_cons_zero, Act.put, List.setIfInBounds_toArray, List.set_cons_zero, List.set_cons_succ]
  obtain ⟨z17, e17, l17, r17⟩ := catE z16 (Lib.itoa ramount) 1065 21 1086 l16 (itoa_len g13 g14) (by decide) (by decide)
  obtain ⟨z18, e18, l18, r18⟩ := catE z17 [32] 1086 1 1087 l17 (by decide) (by decide) (by decide)
  iterate 2 (refine plan_pure (v := ?_) rfl (by rfl) (fun w' hw' => ?_) ?_; rotate_left; (focus (simp only [List.getElem_toArray, List.getElem_cons_succ, List.getElem_cons_zero]; go_simp; try with_reducible rfl)); try simp only [List.getElem_toArray, List.getElem_cons_succ, List.getElem_cons_zero, Act.put, List.setIfInBounds_toArray, List.set_cons_zero, List.set_cons_succ])
  refine plan_call rfl (by rfl) (fun K hK => ?_)
  go_simp
  refine (refSigned rtil g15 g16 y6).mono ?_
  rintro e y7 ⟨rfl, hb7⟩
  refine hK _ _ hb7 ?_
  clear hK K
  have D7 : Hid (Below w5.heap.size w5 y7) := Lib.hid (D6.out.trans (hb7.mono D6.out.size))
  replace ld0 := fun w' (h : Ext y7 w') => ld0 w' (Ext.trans hb7 h)
  replace ld1 := fun w' (h : Ext y7 w') => ld1 w' (Ext.trans hb7 h)
  replace ld2 := fun w' (h : Ext y7 w') => ld2 w' (Ext.trans hb7 h)
  replace ld3 := fun w' (h : Ext y7 w') => ld3 w' (Ext.trans hb7 h)
  replace ld4 := fun w' (h : Ext y7 w') => ld4 w' (Ext.trans hb7 h)
  replace ld5 := fun w' (h : Ext y7 w') => ld5 w' (Ext.trans hb7 h)
  replace ld6 := fun w' (h : Ext y7 w') => ld6 w' (Ext.trans hb7 h)
  replace ld7 := fun w' (h : Ext y7 w') => ld7 w' (Ext.trans hb7 h)
  replace ld8 := fun w' (h : Ext y7 w') => ld8 w' (Ext.trans hb7 h)
  replace ld9 := fun w' (h : Ext y7 w') => ld9 w' (Ext.trans hb7 h)
  replace ld10 := fun w' (h : Ext y7 w') => ld10 w' (Ext.trans hb7 h)
  replace ld11 := fun w' (h : Ext y7 w') => ld11 w' (Ext.trans hb7 h)
  replace ld12 := fun w' (h : Ext y7 w') => ld12 w' (Ext.trans hb7 h)
  clear hb7
  try simp only [List.getElem_toArray, List.getElem_cons_succ, List.getElem_cons_zero, Act.put, List.setIfInBounds_toArray, List.set_cons_zero, List.set_cons_succ]
  obtain ⟨z19, e19, l19, r19⟩ := catE z18 (Lib.itoa rtil) 1087 21 1108 l18 (itoa_len g15 g16) (by decide) (by decide)
  iterate 3 (refine plan_pure (v := ?_) rfl (by rfl) (fun w' hw' => ?_) ?_; rotate_left; (focus (simp only [List.getElem_toArray, List.getElem_cons_succ, List.getElem_cons_zero]; go_simp; try with_reducible rfl)); try simp only [List.getElem_toArray, List.getElem_cons_succ, List.getElem_cons_zero, Act.put, List.setIfInBounds_toArray, List.set_cons_zero, List.set_cons_succ])
  refine plan_end ?_
  go_wp2_with fail
  go_ret2
  exact HYES.out _ (by rw [HLN.out, e19.out, e18.out, e17.out, e16.out, e15.out, e14.out, e13.out, e12.out, e11.out, e10.out, e9.out, e8.out, e7.out, e6.out, HHD.out]; simp [tailw]) _ (HB5.out.trans (D7.out.mono HB5.out.size))

theorem refCall (c : Cl) (hc : c.wf) (w : World) : Calls Tryd.prog 17 #[.agg c.cells.toArray] w (RefCallE c w) := by
  cases hk : c.look with
  | true =>
    cases ho : c.ok with
    | false => exact refCallNoLook c hc hk ho w
    | true =>
      cases hz : c.lazy with
      | false => exact refCallLook c hc hk hz ho w
      | true => exact refCallLazy c hc hk hz ho w
  | false =>
    cases ho : c.ok with
    | false => exact refCallNoCall c hc hk ho w
    | true => exact refCallCall c hc hk ho w
end Go.Proofs.YtcinohmhhglpjaaDoor
