/- Contract of the reference's Tick. -/
import Derived.Test.YtekkcbonkjdgeaaClockF
import Derived.IntWalk
namespace Go.Proofs.Ytekkcbonkjdgeaa
open Go.RowKit

theorem endAt_inj {nodes : Int} (h : 1 ≤ nodes) {i j : Nat} (e : endAt nodes i = endAt nodes j) : i = j := by
  unfold endAt at e
  split at e <;> split at e <;> omega
theorem times_set {s : Clk} (h : s.ok) {x v : Int} {b : Bool} (hx : inE s.nodes s.edges x = true) : timesL { s with T := fun y => if y = x then v else s.T y, skew := b } = (timesL s).set (atV s x).toNat v := by
  obtain ⟨h1, h2, h3⟩ := atV_in h hx
  apply List.ext_getElem
  · rw [List.length_set, timesL_len, timesL_len]
  · intro j hj1 hj2
    rw [timesL_get, List.getElem_set]
    simp only
    by_cases e : (atV s x).toNat = j
    · rw [if_pos e, if_pos (by rw [← e]; exact h3)]
    · rw [if_neg e, if_neg (fun e' => e (endAt_inj h.1.1 (by rw [h3, e'])))]
      rw [timesL_get]

section
variable {n : Nat} {w : World} {g : Nat} {s : Clk}
theorem rtick_same {x k er : Int} (h : WI n w g s) (he : tickE s x k = er) (hne : er ≠ 0) : (Ending.returned (.int .i64 er) = .returned (.int .i64 (tickE s x k))) ∧ WI n w g (tickS s x k) ∧ Keep badW n w w := by
  refine ⟨by rw [he], ?_, .refl _ _ _⟩
  rw [tickS, he, if_neg hne]
  exact h

set_option maxRecDepth 20000 in
set_option maxHeartbeats 4000000 in
theorem refTick (x k : Int) (h : WI n w g s) (hn : n ≤ w.heap.size) (hx64 : -9223372036854775808 ≤ x ∧ x ≤ 9223372036854775807) : Calls Try.prog 57 #[.pointer (some ⟨g, 0, none⟩), .int .i64 x, .int .i64 k] w fun e w' => e = .returned (.int .i64 (tickE s x k)) ∧ WI n w' g (tickS s x k) ∧ Keep badW n w w' := by
  have HA := Lib.hid (refAt x h hx64)
  have hok := h.ok
  by_cases h0 : k < 0
  · have HF := Lib.hid (rtick_same (x := x) (k := k) h (by rw [tickE, if_pos (.inl h0)]) (by decide))
    clear h
    go_enter Try.func57, Try.ntmps57
    go_wp2_with fail
    refine HA.out.mono ?_
    rintro e w' ⟨rfl, rfl⟩
    go_wp2_with fail
    go_ret
    exact HF.out
  by_cases h1 : 1099511627776 < k
  · have HF := Lib.hid (rtick_same (x := x) (k := k) h (by rw [tickE, if_pos (.inr h1)]) (by decide))
    clear h
    go_enter Try.func57, Try.ntmps57
    go_wp2_with fail
    refine HA.out.mono ?_
    rintro e w' ⟨rfl, rfl⟩
    go_wp2_with fail
    go_ret
    exact HF.out
  have hk : ¬ (k < 0 ∨ 1099511627776 < k) := by omega
  by_cases hx : inE s.nodes s.edges x = true
  · obtain ⟨p1, p2, p3⟩ := atV_in hok hx
    obtain ⟨t1, t2⟩ := hok.2.2.2.2 x hx
    obtain ⟨i, hi⟩ := Int.eq_ofNat_of_zero_le p1
    rw [hi, Int.toNat_natCast] at p2 p3
    rw [hi] at HA
    have H := Lib.hid h
    obtain ⟨gt, hb, hnr, hng, _⟩ := h
    have hct := hnr.cell p2
    rw [timesL_get _ _ p2, p3] at hct
    have hcell3 := hb.cell 3 rfl
    by_cases hov : 1152921504606846976 < s.T x + k
    · have HF := Lib.hid (rtick_same (x := x) (k := k) H.out (by rw [tickE, if_neg hk, if_pos hx, if_pos hov]) (by decide))
      generalize s.T x = t at *
      clear hb hnr hok H hx hi p3 p1
      generalize (timesL s).length = N at *
      go_enter Try.func57, Try.ntmps57
      go_wp2_with fail
      refine HA.out.mono ?_
      rintro e w' ⟨rfl, rfl⟩
      go_wp2_with fail
      go_ret
      exact HF.out
    · have he : tickE s x k = 0 := by rw [tickE, if_neg hk, if_pos hx, if_neg hov]
      have hgg : gt ≠ g := hnr.ne_var hb (by decide)
      have HF2 : Hid (∀ (w1 : World) (b : Bool), b = (s.skew || decide (0 < k)) → (w1 = (w.drew).setCell ⟨gt, i, none⟩ (.int .i64 (s.T x + k))) →
          (Ending.returned (.int .i64 0) = .returned (.int .i64 (tickE s x k))) ∧ WI n (w1.setCell ⟨g, 5, none⟩ (.bool b)) g (tickS s x k) ∧ Keep badW n w (w1.setCell ⟨g, 5, none⟩ (.bool b))) := Lib.hid fun w1 b hbb hw1 => by
        have hd : Below w.heap.size w w.drew := (Below.refl _ _).drew
        have hb1 := hb.kept hd
        have hn1 := hnr.below hd
        have hb2 := hb1.setCell_other (a := ⟨gt, i, none⟩) (.int .i64 (s.T x + k)) (Ne.symm hgg)
        rw [← hw1] at hb2
        have hn2 := hn1.set i (s.T x + k)
        rw [← hw1] at hn2
        have hB1 : Below n w w1 := by rw [hw1]; exact below_setCell (p := ⟨gt, i, none⟩) (hd.mono hn) hng.2 _
        have hT1 : TM badW w w1 := by
          rw [hw1]
          refine (TM.below hd).setCellT (p := ⟨gt, i, none⟩) (fun o ho => ?_) _
          obtain ⟨cs, hc⟩ := hn1.blk
          rw [show w.drew.heap[gt]? = _ from hc] at ho
          injection ho with ho
          subst ho
          exact .inr rfl
        refine ⟨by rw [he], ?_, below_setCell (p := ⟨g, 5, none⟩) hB1 hng.1 _, hT1.setCellT (p := ⟨g, 5, none⟩) (fun o ho => ?_) _⟩
        · rw [tickS, if_pos he]
          have hts := times_set (v := s.T x + k) (b := s.skew || decide (0 < k)) hok hx
          rw [hi, Int.toNat_natCast] at hts
          refine ⟨gt, ?_, ?_, hng, hok.1, hok.2.1, hok.2.2.1, hok.2.2.2.1, fun y hy => ?_⟩
          · rw [hts, List.length_set, ← hbb]
            exact hb2.setCell 5 (.bool b)
          · rw [hts]
            exact hn2.setCell_other (p := ⟨g, 5, none⟩) hgg _
          · simp only
            by_cases hyx : y = x
            · subst hyx
              rw [if_pos rfl]
              omega
            · rw [if_neg hyx]
              exact hok.2.2.2.2 y hy
        · rw [show w1.heap[g]? = _ from hb2] at ho
          injection ho with ho
          subst ho
          exact .inl rfl
      have HB := Lib.hid hb
      have HN := Lib.hid hnr
      clear hb hok H hx hi p3 p1 he hk
      generalize s.T x = t at *
      have hfree := fun j => hnr.free j
      have HFR := Lib.hid hfree
      clear hnr hfree
      cases hs : s.skew
      all_goals
        rw [hs] at HF2 HB
        clear hs
        by_cases hk0 : 0 < k
        all_goals
          go_enter Try.func57, Try.ntmps57
          go_wp2_with fail
          refine HA.out.mono ?_
          rintro e w' ⟨rfl, rfl⟩
          generalize hNN : (timesL s).length = N at *
          clear hNN
          go_wp2_with fail
          refine wp_region_planE_gen (by kernel_rfl) [(0, none), (1, none), (2, none), (3, none), (4, none), (5, none), (6, none), (7, none), (8, none), (9, none), (10, none), (11, none), (12, none), (13, none), (14, none), (15, some [0, 1, 2, 3, 4, 5, 6, 7, 8, 9, 10, 11, 12, 13, 14])] (by kernel_rfl) (by kernel_rfl) (by decide) ?_
          intro wq hwq
          have hd : Below w.heap.size w wq := by rw [hwq]; exact (Below.refl _ _).drew
          have hbq := HB.out.kept hd
          have hnq := HN.out.below hd
          have q3 := hbq.cell 3 rfl
          have qt : wq.cell? ⟨gt, i, none⟩ = some (.int .i64 t) := by rw [hwq]; exact hct
          have qf := hnq.free i
          have HWQ := Lib.hid hwq
          have hwr : IntKind.i64.wrap (t + k) = t + k := IntWalk.i64_in _ (by omega)
          clear hwq hct hcell3
          iterate 3 (refine planE_pure (v := ?_) rfl (by rfl) (fun w' => ?_) ?_; rotate_left; (focus (simp only [List.getElem_toArray, List.getElem_cons_succ, List.getElem_cons_zero]; go_simp; first | with_reducible rfl | (simp (disch := omega) only [if_pos, if_neg, Result.andThen_ok]; try with_reducible rfl) | skip)); try simp only [List.getElem_toArray, List.getElem_cons_succ, List.getElem_cons_zero, Act.put, List.setIfInBounds_toArray, List.set_cons_zero, List.set_cons_succ])
          refine planE_cells (v := ?_) [(⟨g, 3, none⟩, .slice (some ⟨gt, 0, none⟩) N N)] (by simp; and_intros <;> assumption) rfl (by rfl) (fun w' hw' => ?_) ?_; rotate_left; (focus (simp only [List.forall_mem_cons, List.not_mem_nil, false_imp_iff, implies_true, and_true] at hw'; simp only [List.getElem_toArray, List.getElem_cons_succ, List.getElem_cons_zero]; go_simp; first | with_reducible rfl | (simp (disch := omega) only [if_pos, if_neg, Result.andThen_ok]; try with_reducible rfl) | skip)); try simp only [List.getElem_toArray, List.getElem_cons_succ, List.getElem_cons_zero, Act.put, List.setIfInBounds_toArray, List.set_cons_zero, List.set_cons_succ]
          iterate 4 (refine planE_pure (v := ?_) rfl (by rfl) (fun w' => ?_) ?_; rotate_left; (focus (simp only [List.getElem_toArray, List.getElem_cons_succ, List.getElem_cons_zero]; go_simp; first | with_reducible rfl | (simp (disch := omega) only [if_pos, if_neg, Result.andThen_ok]; try with_reducible rfl) | skip)); try simp only [List.getElem_toArray, List.getElem_cons_succ, List.getElem_cons_zero, Act.put, List.setIfInBounds_toArray, List.set_cons_zero, List.set_cons_succ])
          refine planE_cells (v := ?_) [(⟨g, 3, none⟩, .slice (some ⟨gt, 0, none⟩) N N)] (by simp; and_intros <;> assumption) rfl (by rfl) (fun w' hw' => ?_) ?_; rotate_left; (focus (simp only [List.forall_mem_cons, List.not_mem_nil, false_imp_iff, implies_true, and_true] at hw'; simp only [List.getElem_toArray, List.getElem_cons_succ, List.getElem_cons_zero]; go_simp; first | with_reducible rfl | (simp (disch := omega) only [if_pos, if_neg, Result.andThen_ok]; try with_reducible rfl) | skip)); try simp only [List.getElem_toArray, List.getElem_cons_succ, List.getElem_cons_zero, Act.put, List.setIfInBounds_toArray, List.set_cons_zero, List.set_cons_succ]
          iterate 2 (refine planE_pure (v := ?_) rfl (by rfl) (fun w' => ?_) ?_; rotate_left; (focus (simp only [List.getElem_toArray, List.getElem_cons_succ, List.getElem_cons_zero]; go_simp; first | with_reducible rfl | (simp (disch := omega) only [if_pos, if_neg, Result.andThen_ok]; try with_reducible rfl) | skip)); try simp only [List.getElem_toArray, List.getElem_cons_succ, List.getElem_cons_zero, Act.put, List.setIfInBounds_toArray, List.set_cons_zero, List.set_cons_succ])
          refine planE_cells (v := ?_) [(⟨gt, i, none⟩, .int .i64 t)] (by simp; and_intros <;> assumption) rfl (by rfl) (fun w' hw' => ?_) ?_; rotate_left; (focus (simp only [List.forall_mem_cons, List.not_mem_nil, false_imp_iff, implies_true, and_true] at hw'; simp only [List.getElem_toArray, List.getElem_cons_succ, List.getElem_cons_zero]; go_simp; first | with_reducible rfl | (simp (disch := omega) only [if_pos, if_neg, Result.andThen_ok]; try with_reducible rfl) | skip)); try simp only [List.getElem_toArray, List.getElem_cons_succ, List.getElem_cons_zero, Act.put, List.setIfInBounds_toArray, List.set_cons_zero, List.set_cons_succ]
          iterate 3 (refine planE_pure (v := ?_) rfl (by rfl) (fun w' => ?_) ?_; rotate_left; (focus (simp only [List.getElem_toArray, List.getElem_cons_succ, List.getElem_cons_zero]; go_simp; first | with_reducible rfl | (simp (disch := omega) only [if_pos, if_neg, Result.andThen_ok]; try with_reducible rfl) | skip)); try simp only [List.getElem_toArray, List.getElem_cons_succ, List.getElem_cons_zero, Act.put, List.setIfInBounds_toArray, List.set_cons_zero, List.set_cons_succ])
          refine planE_eff rfl (by rfl) (fun K hK => ?_)
          go_simp
          skip
          refine hK _ _ (by simp [owed, left] <;> (and_intros <;> first | trivial | assumption)) ?_
          clear hK K
          try simp only [List.getElem_toArray, List.getElem_cons_succ, List.getElem_cons_zero, Act.put, List.setIfInBounds_toArray, List.set_cons_zero, List.set_cons_succ]
          refine planE_end ?_
          obtain ⟨w2, hw2⟩ : ∃ w2, w2 = wq.setCell ⟨gt, i, none⟩ (.int .i64 (t + k)) := ⟨_, rfl⟩
          rw [← hw2]
          have hb2 := hbq.setCell_other (a := ⟨gt, i, none⟩) (.int .i64 (t + k)) (Ne.symm hgg)
          rw [← hw2] at hb2
          have HW := Lib.hid (show w2 = w.drew.setCell ⟨gt, i, none⟩ (.int .i64 (t + k)) by rw [hw2, HWQ.out])
          clear hw2 q3 qt qf hbq hnq hd HWQ hwr
          have c5 := hb2.cell 5 rfl
          have f5 := hb2.free 5
          go_wp2_with fail
          go_ret
          exact HF2.out w2 _ (by simp [hk0]) HW.out
  · have hat := atV_out hx hok
    rw [hat] at HA
    have HF := Lib.hid (rtick_same (x := x) (k := k) h (by rw [tickE, if_neg hk, if_neg hx]) (by decide))
    clear h hok hx hat
    go_enter Try.func57, Try.ntmps57
    go_wp2_with fail
    refine HA.out.mono ?_
    rintro e w' ⟨rfl, rfl⟩
    go_wp2_with fail
    go_ret
    exact HF.out
end
end Go.Proofs.Ytekkcbonkjdgeaa
