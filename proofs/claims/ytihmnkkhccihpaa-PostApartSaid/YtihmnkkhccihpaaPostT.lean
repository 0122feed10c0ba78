/- The law's act doubles a letter. -/
import Derived.Test.YtihmnkkhccihpaaPostX
namespace Go.Proofs.Ytihmnkkhccihpaa
open Go.RowKit

section
variable {n N : Nat} {w w' : World} {g g2 : Nat} {V : List Val} {C : Int × Int → Bool} {room : Int}
theorem RefR.addRow {w w5 : World} {R : List Ltr} {A A' : Option Addr} {cap cap' : Nat} {Cs : List (Int × Int)} {B : Option Addr} {capB : Nat} (h : RefR w g2 R A cap Cs B capB room) (r : Ltr) (ys : List (List Value)) (hys : ys = R.map Ltr.cells ++ [r.cells]) (hrow5 : OR w5 0 68 3 A' cap' ys) (hg5 : w.grownBy w5 (A.map (·.block))) (hA5 : A'.map (·.block) = A.map (·.block) ∨ A'.map (·.block) = some w.heap.size) (hr : OB w 0 r.A r.c r.d ∧ r.d.length ≤ 65536) (hl : R.length < 4096) :
    RefR (w5.setCell ⟨g2, 1, none⟩ (.slice A' ys.length cap')) g2 (R ++ [r]) A' cap' Cs B capB room ∧ Mods (PF g2 A) w (w5.setCell ⟨g2, 1, none⟩ (.slice A' ys.length cap')) := by
  have hk5 := h.blk.grown hg5 h.ne_row
  have hB5 := h.cuts.grown_row hg5 (h.cuts.ne_OR h.row (by decide))
  have hd5 : ∀ q ∈ R ++ [r], OB w5 0 q.A q.c q.d ∧ q.d.length ≤ 65536 := fun q hq => by
    rcases List.mem_append.1 hq with hq | hq
    · exact ⟨(h.data q hq).1.grown_row hg5 ((h.data q hq).1.ne_row h.row (by decide)), (h.data q hq).2⟩
    · rw [List.mem_singleton] at hq
      subst hq
      exact ⟨hr.1.grown_row hg5 (hr.1.ne_row h.row (by decide)), hr.2⟩
  have hm5 : Mods (PF g2 A) w w5 := .of_grown hg5 fun k hk => .inr hk
  have hAg : A'.map (·.block) ≠ some g2 := by
    rcases hA5 with e | e
    · rw [e]; exact h.ne_row
    · rw [e]; have := h.blk.lt; intro e'; injection e' with e'; omega
  have hk6 := hk5.setCell 1 (.slice A' ys.length cap')
  rw [show (#[.int .i64 room, .slice A R.length cap, .slice B Cs.length capB] : Array Value).setIfInBounds 1 (.slice A' ys.length cap') = #[.int .i64 room, .slice A' ys.length cap', .slice B Cs.length capB] from rfl] at hk6
  have hyl : ys.length = R.length + 1 := by rw [hys]; simp
  refine ⟨⟨by rw [List.length_append, List.length_singleton, ← hyl]; exact hk6, ?_, fun q hq => ⟨(hd5 q hq).1.setCell_ne (p := ⟨g2, 1, none⟩) ((hd5 q hq).1.ne_var hk5 (by decide)) _, (hd5 q hq).2⟩, hB5.setCell_ne (p := ⟨g2, 1, none⟩) h.cuts_ne_var _, by simp; omega, h.fits.2⟩, hm5.setCell ⟨g2, 1, none⟩ (.inl (.inl rfl)) _⟩
  rw [List.map_append, List.map_singleton, ← hys]
  exact hrow5.setCell_ne (p := ⟨g2, 1, none⟩) hAg _
set_option maxRecDepth 20000 in
set_option maxHeartbeats 8000000 in
theorem act_twin (k a b : Int) (D : Option Addr) (c : Nat) (d : List UInt8) (h : PI n w g V C room) (r : RI n w g2 V C room N) (hn : n ≤ w.heap.size) (hN : N < 4096) (hr0 : room ≤ 4096) (ha : I64 a) (hb : I64 b) (hD : ∀ w', Below n w w' → RB w' D d) (hd : d.length ≤ 140737488351232) (hk : k = 3) :
    Calls Try.prog 19 #[.pointer (some ⟨g, 0, none⟩), .pointer (some ⟨g2, 0, none⟩), .agg #[.int .i64 k, .int .i64 a, .int .i64 b, .slice D d.length c]] w (BothE n g g2 (actV V C room k a b d) (actC C k a b) room room (N + 1) w) := by
  subst hk
  have hbw := (Below.refl w.heap.size w).alloc (Nat.le_refl _) (.cells #[.int .i64 3, .int .i64 a, .int .i64 b, .slice D d.length c] 35)
  have hX := Blk.new w #[.int .i64 3, .int .i64 a, .int .i64 b, .slice D d.length c] 35
  obtain ⟨xb, hxb⟩ : ∃ xb, xb = w.heap.size := ⟨_, rfl⟩
  rw [← hxb] at hX
  have HXB := Lib.hid hxb
  have hn1 := Nat.le_trans hn hbw.size
  have h1 := h.below hbw
  have r1 := r.below hbw
  have hB1 := hbw.mono hn
  have HD := Lib.hid hD
  have x0 := hX.cell 0 rfl
  have x1 := hX.cell 1 rfl
  have x2 := hX.cell 2 rfl
  have x3 := hX.cell 3 rfl
  clear h r hn hxb hD hbw
  go_enter Try.func19, Try.ntmps19
  go_upto_region 1 with fail
  rw [← HXB.out]
  generalize w.alloc (.cells #[.int .i64 3, .int .i64 a, .int .i64 b, .slice D d.length c] 35) = w1 at *
  go_cut [7] (fun s7 wx => s7 = .bool (okB a b) ∧ w1 = wx)
  case first =>
    cases e1 : endB a
    · have he : okB a b = false := by simp [okB, e1]
      go_wp2_with fail
      refine (refEnd a _).mono ?_
      rintro e w' ⟨rfl, rfl⟩
      rw [e1]
      go_wp2_with fail
      go_meet
      exact ⟨by rw [he], rfl⟩
    · cases e2 : endB b
      · have he : okB a b = false := by simp [okB, e2]
        go_wp2_with fail
        refine (refEnd a _).mono ?_
        rintro e w' ⟨rfl, rfl⟩
        rw [e1]
        go_wp2_with fail
        refine (refEnd b _).mono ?_
        rintro e w' ⟨rfl, rfl⟩
        rw [e2]
        go_wp2_with fail
        go_meet
        exact ⟨by rw [he], rfl⟩
      · have he : okB a b = (a != b) := by simp [okB, e1, e2, bne]; by_cases hab : a = b <;> simp [hab]
        go_wp2_with fail
        refine (refEnd a _).mono ?_
        rintro e w' ⟨rfl, rfl⟩
        rw [e1]
        go_wp2_with fail
        refine (refEnd b _).mono ?_
        rintro e w' ⟨rfl, rfl⟩
        rw [e2]
        go_wp2_with fail
        go_meet
        exact ⟨by rw [he], rfl⟩
  case rest =>
  obtain ⟨rfl, rfl⟩ := hcut
  go_wp2_with fail
  refine (postTwinI a h1 hn1 ha).mono ?_
  rintro e w2 ⟨rfl, hP2, hK2⟩
  have hR2 := r1.tm hK2.tm
  have hX2 := hX.tm hK2.tm (by simp [badP])
  have hB2 := hB1.trans hK2.below
  have hn2 := Nat.le_trans hn1 hK2.tm.size
  clear x0 x1 x2 x3 h1 r1 hX hB1 hK2 hn1
  have x1 := hX2.cell 1 rfl
  have R0 := Lib.hid hR2
  obtain ⟨R, A, cap, Cs, B, capB, h2, hfr, hV, hCn, hC, hCN⟩ := hR2
  have hRV : R.length = V.length := by rw [← hV, List.length_map]
  have c0 := h2.blk.cell 0 rfl
  have c1 := h2.blk.cell 1 rfl
  have hfl := h2.fits.1
  by_cases ha0 : a < 0
  · have te : twinErr V room a = 8 := by rw [twinErr, if_neg (by omega)]
    have HF : Hid (BothE n g g2 (actV V C room 3 a b d) (actC C 3 a b) room room (N + 1) w (.returned (.bool true)) w2) := Lib.hid (by
      rw [actC_same (by decide) (by decide), actV, if_neg (by decide), if_neg (by decide), if_pos rfl, te, if_neg (by decide)]
      rw [te, if_neg (by decide)] at hP2
      exact ⟨rfl, hP2, R0.out.more (Nat.le_succ _), hB2⟩)
    rw [te]
    clear hP2 hB2 h2 hfr hV hCn hC hCN R0 te
    go_wp2_with fail
    go_quiet (fail)
    go_wp2_with fail
    go_ret
    exact HF.out.below hn2 (by first | exact below_drewN (Below.refl _ _) _ | exact below_drewN (below_drewN (Below.refl _ _) _) _)
  by_cases ha1 : (R.length : Int) ≤ a
  · have te : twinErr V room a = 8 := by rw [twinErr, if_neg (by omega)]
    have HF : Hid (BothE n g g2 (actV V C room 3 a b d) (actC C 3 a b) room room (N + 1) w (.returned (.bool true)) w2) := Lib.hid (by
      rw [actC_same (by decide) (by decide), actV, if_neg (by decide), if_neg (by decide), if_pos rfl, te, if_neg (by decide)]
      rw [te, if_neg (by decide)] at hP2
      exact ⟨rfl, hP2, R0.out.more (Nat.le_succ _), hB2⟩)
    rw [te]
    clear hP2 hB2 h2 hfr hV hCn hC hCN R0 te
    go_wp2_with fail
    go_quiet (fail)
    go_wp2_with fail
    go_ret
    exact HF.out.below hn2 (by first | exact below_drewN (Below.refl _ _) _ | exact below_drewN (below_drewN (Below.refl _ _) _) _)
  by_cases hrm : room ≤ (R.length : Int)
  · have te : twinErr V room a = 10 := by rw [twinErr, if_pos (by omega), if_pos (by omega)]
    have HF : Hid (BothE n g g2 (actV V C room 3 a b d) (actC C 3 a b) room room (N + 1) w (.returned (.bool true)) w2) := Lib.hid (by
      rw [actC_same (by decide) (by decide), actV, if_neg (by decide), if_neg (by decide), if_pos rfl, te, if_neg (by decide)]
      rw [te, if_neg (by decide)] at hP2
      exact ⟨rfl, hP2, R0.out.more (Nat.le_succ _), hB2⟩)
    rw [te]
    clear hP2 hB2 h2 hfr hV hCn hC hCN R0 te
    go_wp2_with fail
    go_quiet (fail)
    go_wp2_with fail
    go_quiet (fail)
    go_wp2_with fail
    go_ret
    exact HF.out.below hn2 (by first | exact below_drewN (Below.refl _ _) _ | exact below_drewN (below_drewN (Below.refl _ _) _) _)
  obtain ⟨j, rfl⟩ : ∃ j : Nat, a = (j : Int) := ⟨a.toNat, by omega⟩
  have te : twinErr V room (j : Int) = 0 := by rw [twinErr, if_pos (by omega), if_neg (by omega)]
  have hjR : j < R.length := by omega
  have ate : (atV V (j : Int)).1 = (R[j].f, R[j].t, R[j].d) := by rw [atV, if_pos (by omega), ← hV]; simp [Ltr.val, hjR]
  rw [te, if_pos rfl, ate] at hP2
  rw [te]
  obtain ⟨bb, rfl⟩ := h2.row.head (by simpa using (show 0 < R.length by omega))
  have hg := fun (k : Nat) (v : Value) (hk : R[j].cells[k]? = some v) => h2.row.rs.get (i := j) (cs := R[j].cells) (by simp [hjR]) k (v := v) hk
  have r0 := hg 0 (.int .i64 R[j].f) (by simp [Ltr.cells])
  have r1 := hg 1 (.int .i64 R[j].t) (by simp [Ltr.cells])
  have r2 := hg 2 (.slice R[j].A R[j].d.length R[j].c) (by simp [Ltr.cells])
  have hdat := h2.data _ (List.getElem_mem hjR)
  have hdf := hfr.2.2.2 _ (List.getElem_mem hjR)
  have HVJ : Hid (actV V C room 3 (j : Int) b d = V ++ [(R[j].f, R[j].t, R[j].d)]) := Lib.hid (by
    rw [actV, if_neg (by decide), if_neg (by decide), if_pos rfl, te, if_pos rfl, ate])
  simp only [Nat.zero_add, Nat.add_zero] at r0 r1 r2
  have HDAT : Hid (∀ w', Below w2.heap.size w2 w' → w'.cell? ⟨xb, 1, none⟩ = some (.int .i64 (j : Int)) ∧ w'.cell? ⟨g2, 1, none⟩ = some (.slice (some ⟨bb, 0, none⟩) R.length cap) ∧ w'.cell? ⟨bb, j * 3, none⟩ = some (.int .i64 R[j].f) ∧ w'.cell? ⟨bb, j * 3 + 1, none⟩ = some (.int .i64 R[j].t) ∧ w'.cell? ⟨bb, j * 3 + 2, none⟩ = some (.slice R[j].A R[j].d.length R[j].c)) := Lib.hid fun w' hb => by
    have hg' := fun (k : Nat) (v : Value) (hk : R[j].cells[k]? = some v) => (h2.below hb).row.rs.get (i := j) (cs := R[j].cells) (by simp [hjR]) k (v := v) hk
    exact ⟨(hX2.kept hb).cell 1 rfl, (h2.below hb).blk.cell 1 rfl, by simpa using hg' 0 (.int .i64 R[j].f) (by simp [Ltr.cells]), by simpa using hg' 1 (.int .i64 R[j].t) (by simp [Ltr.cells]), by simpa using hg' 2 (.slice R[j].A R[j].d.length R[j].c) (by simp [Ltr.cells])⟩
  generalize R[j].f = f at *
  generalize R[j].t = t at *
  generalize R[j].A = DA at *
  generalize R[j].c = dc at *
  generalize R[j].d = da at *
  clear hg te ate hRV
  go_wp2_with fail
  go_quiet (fail)
  go_wp2_with fail
  go_quiet (fail)
  go_wp2_with fail
  refine wp_region_planE_gen (by kernel_rfl) [(0, none), (1, none), (2, none), (3, none), (4, none), (5, none), (6, none), (7, none), (8, some []), (9, some [0, 1, 2, 3, 4, 5, 6, 7])] (by kernel_rfl) (by kernel_rfl) (by decide) ?_
  intro wq hwq
  have hbq : Below w2.heap.size w2 wq := by rw [hwq]; exact (below_drewN (below_drewN (Below.refl _ _) _) _).drew
  clear x1 c0 c1 r0 r1 r2 hwq
  obtain ⟨x1, c1, r0, r1, r2⟩ := HDAT.out _ hbq
  iterate 3 (refine planE_pure (v := ?_) rfl (by rfl) (fun w' => ?_) ?_; rotate_left; (focus (simp only [List.getElem_toArray, List.getElem_cons_succ, List.getElem_cons_zero]; go_simp; first | with_reducible rfl | (simp (disch := omega) only [if_pos, if_neg, Result.andThen_ok]; try with_reducible rfl) | skip)); try simp only [List.getElem_toArray, List.getElem_cons_succ, List.getElem_cons_zero, Act.put, List.setIfInBounds_toArray, List.set_cons_zero, List.set_cons_succ])
  refine planE_cells (v := ?_) [(⟨g2, 1, none⟩, .slice (some ⟨bb, 0, none⟩) R.length cap)] (by simp; and_intros <;> assumption) rfl (by rfl) (fun w' hw' => ?_) ?_; rotate_left; (focus (simp only [List.forall_mem_cons, List.not_mem_nil, false_imp_iff, implies_true, and_true] at hw'; simp only [List.getElem_toArray, List.getElem_cons_succ, List.getElem_cons_zero]; go_simp; first | with_reducible rfl | (simp (disch := omega) only [if_pos, if_neg, Result.andThen_ok]; try with_reducible rfl) | skip)); try simp only [List.getElem_toArray, List.getElem_cons_succ, List.getElem_cons_zero, Act.put, List.setIfInBounds_toArray, List.set_cons_zero, List.set_cons_succ]
  iterate 1 (refine planE_pure (v := ?_) rfl (by rfl) (fun w' => ?_) ?_; rotate_left; (focus (simp only [List.getElem_toArray, List.getElem_cons_succ, List.getElem_cons_zero]; go_simp; first | with_reducible rfl | (simp (disch := omega) only [if_pos, if_neg, Result.andThen_ok]; try with_reducible rfl) | skip)); try simp only [List.getElem_toArray, List.getElem_cons_succ, List.getElem_cons_zero, Act.put, List.setIfInBounds_toArray, List.set_cons_zero, List.set_cons_succ])
  refine planE_cells (v := ?_) [(⟨xb, 1, none⟩, .int .i64 (j : Int))] (by simp; and_intros <;> assumption) rfl (by rfl) (fun w' hw' => ?_) ?_; rotate_left; (focus (simp only [List.forall_mem_cons, List.not_mem_nil, false_imp_iff, implies_true, and_true] at hw'; simp only [List.getElem_toArray, List.getElem_cons_succ, List.getElem_cons_zero]; go_simp; first | with_reducible rfl | (simp (disch := omega) only [if_pos, if_neg, Result.andThen_ok]; try with_reducible rfl) | skip)); try simp only [List.getElem_toArray, List.getElem_cons_succ, List.getElem_cons_zero, Act.put, List.setIfInBounds_toArray, List.set_cons_zero, List.set_cons_succ]
  iterate 1 (refine planE_pure (v := ?_) rfl (by rfl) (fun w' => ?_) ?_; rotate_left; (focus (simp only [List.getElem_toArray, List.getElem_cons_succ, List.getElem_cons_zero]; go_simp; first | with_reducible rfl | (simp (disch := omega) only [if_pos, if_neg, Result.andThen_ok]; try with_reducible rfl) | skip)); try simp only [List.getElem_toArray, List.getElem_cons_succ, List.getElem_cons_zero, Act.put, List.setIfInBounds_toArray, List.set_cons_zero, List.set_cons_succ])
  refine planE_cells (v := ?_) [(⟨bb, j * 3, none⟩, .int .i64 f), (⟨bb, j * 3 + 1, none⟩, .int .i64 t), (⟨bb, j * 3 + 2, none⟩, .slice DA da.length dc)] (by simp; and_intros <;> assumption) rfl (by rfl) (fun w' hw' => ?_) ?_; rotate_left; (focus (simp only [List.forall_mem_cons, List.not_mem_nil, false_imp_iff, implies_true, and_true] at hw'; simp only [List.getElem_toArray, List.getElem_cons_succ, List.getElem_cons_zero]; go_simp; first | with_reducible rfl | (simp (disch := omega) only [if_pos, if_neg, Result.andThen_ok]; try with_reducible rfl) | skip)); try simp only [List.getElem_toArray, List.getElem_cons_succ, List.getElem_cons_zero, Act.put, List.setIfInBounds_toArray, List.set_cons_zero, List.set_cons_succ]
  refine planE_eff rfl (by rfl) (fun K hK => ?_)
  go_simp
  have hb3 := hbq.alloc hbq.size (.cells #[.int .i64 0, .int .i64 0, .slice none 0 0] 68)
  have hL3 := Blk.new wq #[.int .i64 0, .int .i64 0, .slice none 0 0] 68
  have hf3 := Lib.hid (hbq.size)
  obtain ⟨lb, hlb⟩ : ∃ lb, lb = wq.heap.size := ⟨_, rfl⟩
  rw [← hlb] at hL3 hf3 ⊢
  generalize wq.alloc (.cells #[.int .i64 0, .int .i64 0, .slice none 0 0] 68) = w3 at *
  clear x1 c1 r0 r1 r2 hbq hlb
  obtain ⟨x1, c1, r0, r1, r2⟩ := HDAT.out _ hb3
  have f0 := hL3.free 0
  have f1 := hL3.free 1
  have f2 := hL3.free 2
  refine hK _ _ (by simp [owed, left] <;> (and_intros <;> first | trivial | assumption)) ?_
  clear hK K
  try simp only [List.getElem_toArray, List.getElem_cons_succ, List.getElem_cons_zero, Act.put, List.setIfInBounds_toArray, List.set_cons_zero, List.set_cons_succ]
  refine planE_eff rfl (by rfl) (fun K hK => ?_)
  go_simp
  have y0 := hL3.cell 0 rfl
  have k1 := hL3.setCell 0 (.int .i64 f)
  have y1 := k1.cell 1 rfl
  have z1 := k1.free 1
  have k2 := k1.setCell 1 (.int .i64 t)
  have y2 := k2.cell 2 rfl
  have z2 := k2.free 2
  have hL6 := k2.setCell 2 (.slice DA da.length dc)
  have hb6 := ((hb3.setCell (p := ⟨lb, 0, none⟩) (by simpa using hf3.out) (.int .i64 f)).setCell (p := ⟨lb, 1, none⟩) (by simpa using hf3.out) (.int .i64 t)).setCell (p := ⟨lb, 2, none⟩) (by simpa using hf3.out) (.slice DA da.length dc)
  simp only [y0, Result.andThen_ok, y1, z1, y2, z2, Bool.false_eq_true, if_false]
  go_simp
  rw [show ((#[.int .i64 0, .int .i64 0, .slice none 0 0] : Array Value).setIfInBounds 0 (.int .i64 f)).setIfInBounds 1 (.int .i64 t) = #[.int .i64 f, .int .i64 t, .slice none 0 0] from rfl, show (#[.int .i64 f, .int .i64 t, .slice none 0 0] : Array Value).setIfInBounds 2 (.slice DA da.length dc) = #[.int .i64 f, .int .i64 t, .slice DA da.length dc] from rfl] at hL6
  clear y0 k1 y1 z1 k2 y2 z2 f0 f1 f2 x1 c1 r0 r1 r2
  generalize ((w3.setCell ⟨lb, 0, none⟩ (.int .i64 f)).setCell ⟨lb, 1, none⟩ (.int .i64 t)).setCell ⟨lb, 2, none⟩ (.slice DA da.length dc) = w6 at *
  clear hb3 hL3
  obtain ⟨x1, c1, r0, r1, r2⟩ := HDAT.out _ hb6
  refine hK _ _ (by simp [owed, left] <;> (and_intros <;> first | trivial | assumption)) ?_
  clear hK K
  try simp only [List.getElem_toArray, List.getElem_cons_succ, List.getElem_cons_zero, Act.put, List.setIfInBounds_toArray, List.set_cons_zero, List.set_cons_succ]
  refine planE_end ?_
  have l0 := hL6.cell 0 rfl
  have l1 := hL6.cell 1 rfl
  have l2 := hL6.cell 2 rfl
  clear x1 r0 r1 r2
  go_wp2_with fail
  refine wp_region_planE_gen (by kernel_rfl) [(0, none), (1, none), (2, none), (3, none), (4, none), (5, none), (6, some [5]), (7, some [4]), (8, none), (9, none), (10, some [0, 1, 2, 3, 4, 5, 9])] (by kernel_rfl) (by kernel_rfl) (by decide) ?_
  intro wq hwq
  have hb7 : Below w6.heap.size w6 wq := by rw [hwq]; exact (Below.refl _ _).drew
  have hB7 := hb6.trans (hb7.mono hb6.size)
  have hL7 := hL6.kept hb7
  clear hwq l0 l1 l2 c1 hb7 hb6 hL6
  obtain ⟨_, c1, _, _, _⟩ := HDAT.out _ hB7
  have l0 := hL7.cell 0 rfl
  have l1 := hL7.cell 1 rfl
  have l2 := hL7.cell 2 rfl
  iterate 4 (refine planE_pure (v := ?_) rfl (by rfl) (fun w' => ?_) ?_; rotate_left; (focus (simp only [List.getElem_toArray, List.getElem_cons_succ, List.getElem_cons_zero]; go_simp; first | with_reducible rfl | (simp (disch := omega) only [if_pos, if_neg, Result.andThen_ok]; try with_reducible rfl) | skip)); try simp only [List.getElem_toArray, List.getElem_cons_succ, List.getElem_cons_zero, Act.put, List.setIfInBounds_toArray, List.set_cons_zero, List.set_cons_succ])
  refine planE_cells (v := ?_) [(⟨g2, 1, none⟩, .slice (some ⟨bb, 0, none⟩) R.length cap)] (by simp; and_intros <;> assumption) rfl (by rfl) (fun w' hw' => ?_) ?_; rotate_left; (focus (simp only [List.forall_mem_cons, List.not_mem_nil, false_imp_iff, implies_true, and_true] at hw'; simp only [List.getElem_toArray, List.getElem_cons_succ, List.getElem_cons_zero]; go_simp; first | with_reducible rfl | (simp (disch := omega) only [if_pos, if_neg, Result.andThen_ok]; try with_reducible rfl) | skip)); try simp only [List.getElem_toArray, List.getElem_cons_succ, List.getElem_cons_zero, Act.put, List.setIfInBounds_toArray, List.set_cons_zero, List.set_cons_succ]
  refine planE_cells (v := ?_) [(⟨lb, 0, none⟩, .int .i64 f), (⟨lb, 1, none⟩, .int .i64 t), (⟨lb, 2, none⟩, .slice DA da.length dc)] (by simp; and_intros <;> assumption) rfl (by rfl) (fun w' hw' => ?_) ?_; rotate_left; (focus (simp only [List.forall_mem_cons, List.not_mem_nil, false_imp_iff, implies_true, and_true] at hw'; simp only [List.getElem_toArray, List.getElem_cons_succ, List.getElem_cons_zero]; go_simp; first | with_reducible rfl | (simp (disch := omega) only [if_pos, if_neg, Result.andThen_ok]; try with_reducible rfl) | skip)); try simp only [List.getElem_toArray, List.getElem_cons_succ, List.getElem_cons_zero, Act.put, List.setIfInBounds_toArray, List.set_cons_zero, List.set_cons_succ]
  refine planE_eff rfl (by rfl) (fun K hK => ?_)
  go_simp
  have hb8 : Below wq.heap.size wq (wq.alloc (.cells #[.int .i64 f, .int .i64 t, .slice DA da.length dc] 68)) := (Below.refl _ _).alloc (Nat.le_refl _) _
  have hN8 := Blk.new wq #[.int .i64 f, .int .i64 t, .slice DA da.length dc] 68
  have hL8 := hL7.kept hb8
  have hB8 := hB7.trans (hb8.mono hB7.size)
  have hf8 := Lib.hid hB7.size
  obtain ⟨nb, hnb⟩ : ∃ nb, nb = wq.heap.size := ⟨_, rfl⟩
  rw [← hnb] at hN8 hf8 ⊢
  generalize wq.alloc (.cells #[.int .i64 f, .int .i64 t, .slice DA da.length dc] 68) = w8 at *
  clear c1 l0 l1 l2 hb8 hB7 hL7 hnb
  obtain ⟨_, c1, _, _, _⟩ := HDAT.out _ hB8
  have l0 := hL8.cell 0 rfl
  have l1 := hL8.cell 1 rfl
  have l2 := hL8.cell 2 rfl
  refine hK _ _ (by simp [owed, left] <;> (and_intros <;> first | trivial | assumption)) ?_
  clear hK K
  try simp only [List.getElem_toArray, List.getElem_cons_succ, List.getElem_cons_zero, Act.put, List.setIfInBounds_toArray, List.set_cons_zero, List.set_cons_succ]
  refine planE_eff rfl (by rfl) (fun K hK => ?_)
  obtain ⟨i0, hi0, hz0, hz1, hz2⟩ := info_parts rletter_info
  have h4 := h2.below hB8
  refine op_appendS w8 (.tmp 104) (.tmp 106) 42 68 (by rfl) Try.underlying42 hi0 hz0 hz1 hz2 rfl (by decide) 0 (some ⟨bb, 0, none⟩) (some ⟨nb, 0, none⟩) cap 1 (R.map Ltr.cells) [[.int .i64 f, .int .i64 t, .slice DA da.length dc]] (by simp; rfl) (by rfl) h4.row (RS.lit hN8) (by simp) (by simp [Value.oneCell']) (by simp; omega) (by simp; omega) (Nat.zero_le _) ?_
  intro ys A' cap' w5 hys hy1 hy2 hrow5 hg5 hA5
  have hk5 := h4.blk.grown hg5 h4.ne_row
  obtain ⟨h6, hm6⟩ := h4.addRow ⟨f, t, DA, dc, da⟩ ys hys.out hrow5 hg5 hA5 ⟨hdat.1.below hB8, hdat.2⟩ (by omega)
  have hK6 := h4.keep hfr.1 hfr.2.1 (Nat.le_trans hn2 hB8.size) hm6
  have hs4 := hB8.size
  have HF : Hid (BothE n g g2 (actV V C room 3 (j : Int) b d) (actC C 3 (j : Int) b) room room (N + 1) w (.returned (.bool true)) (w5.setCell ⟨g2, 1, none⟩ (.slice A' ys.length cap'))) := Lib.hid (by
    rw [HVJ.out, actC_same (by decide) (by decide)]
    refine ⟨rfl, (hP2.below hB8).tm hK6.tm, ⟨_, A', cap', Cs, B, capB, h6, ⟨hfr.1, fun b hb => ?_, hfr.2.2.1, fun r hr b hb => ?_⟩, ?_, hCn, hC, Nat.le_succ_of_le hCN⟩, (hB2.trans (hB8.mono hn2)).trans hK6.below⟩
    · rcases hA5 with e | e
      · rw [e] at hb; exact hfr.2.1 b hb
      · rw [e] at hb; injection hb with hb; omega
    · rcases List.mem_append.1 hr with hr | hr
      · exact hfr.2.2.2 r hr b hb
      · rw [List.mem_singleton] at hr
        subst hr
        exact hdf b hb
    · rw [List.map_append, hV]
      rfl)
  clear c1 l0 l1 l2 h6 hm6 hK6 hs4 h4 hB8 hrow5 hg5 hA5 hys hN8 hL8 HDAT hP2 hB2 hfr hV hCn hC hCN h2 R0 hdat hdf HVJ hX2
  have c1 := hk5.cell 1 rfl
  have f1 := hk5.free 1
  skip
  refine hK _ _ (by simp [owed, left] <;> (and_intros <;> first | trivial | assumption)) ?_
  clear hK K
  try simp only [List.getElem_toArray, List.getElem_cons_succ, List.getElem_cons_zero, Act.put, List.setIfInBounds_toArray, List.set_cons_zero, List.set_cons_succ]
  iterate 2 (refine planE_pure (v := ?_) rfl (by rfl) (fun w' => ?_) ?_; rotate_left; (focus (simp only [List.getElem_toArray, List.getElem_cons_succ, List.getElem_cons_zero]; go_simp; first | with_reducible rfl | (simp (disch := omega) only [if_pos, if_neg, Result.andThen_ok]; try with_reducible rfl) | skip)); try simp only [List.getElem_toArray, List.getElem_cons_succ, List.getElem_cons_zero, Act.put, List.setIfInBounds_toArray, List.set_cons_zero, List.set_cons_succ])
  refine planE_eff rfl (by rfl) (fun K hK => ?_)
  go_simp
  skip
  refine hK _ _ (by simp [owed, left] <;> (and_intros <;> first | trivial | assumption)) ?_
  clear hK K
  try simp only [List.getElem_toArray, List.getElem_cons_succ, List.getElem_cons_zero, Act.put, List.setIfInBounds_toArray, List.set_cons_zero, List.set_cons_succ]
  refine planE_end ?_
  go_wp2_with fail
  go_ret
  exact HF.out

end
end Go.Proofs.Ytihmnkkhccihpaa
