/- Contract of the reference's Pass. -/
import Derived.Test.YtekkcbonkjdgeaaClockG
namespace Go.Proofs.Ytekkcbonkjdgeaa
open Go.RowKit

/-- Was a time too long among the first j? -/
def overAt (s : Clk) (k : Int) (draw j : Nat) : Bool := decide (1152921504606846976 < s.real + k) || (List.range j).any fun i => decide (1152921504606846976 < s.T (endAt s.nodes i) + stepV k s.rho draw (endAt s.nodes i))
theorem overAt_succ (s : Clk) (k : Int) (draw j : Nat) : overAt s k draw (j + 1) = (overAt s k draw j || decide (1152921504606846976 < s.T (endAt s.nodes j) + stepV k s.rho draw (endAt s.nodes j))) := by
  unfold overAt
  rw [List.range_succ, List.any_append]
  simp [Bool.or_assoc]
theorem overAt_all {s : Clk} (h : s.ok) (k : Int) (draw : Nat) : overAt s k draw (timesL s).length = overB s k draw := by
  rw [Bool.eq_iff_iff]
  unfold overAt
  rw [Bool.or_eq_true, List.any_eq_true]
  constructor
  · rintro (h1 | ⟨i, hi, h1⟩)
    · exact overB_real (by simpa using h1)
    · exact overB_end h (endAt_in h (List.mem_range.1 hi)) (by simpa using h1)
  · intro h1
    unfold overB at h1
    rw [Bool.or_eq_true, List.any_eq_true] at h1
    rcases h1 with ⟨x, _, hx⟩ | h1
    · rw [Bool.and_eq_true] at hx
      obtain ⟨p1, p2, p3⟩ := atV_in h hx.1
      exact .inr ⟨_, List.mem_range.2 p2, by rw [p3]; exact hx.2⟩
    · exact .inl h1
/-- The times that are reckoned, up to the j-th. -/
def mixL (s : Clk) (k : Int) (draw j : Nat) : List Int := (List.range (s.nodes + s.edges).toNat).map fun i => if i < j then s.T (endAt s.nodes i) + stepV k s.rho draw (endAt s.nodes i) else 0
theorem mixL_len (s : Clk) (k : Int) (draw j : Nat) : (mixL s k draw j).length = (timesL s).length := by simp [mixL, timesL]
theorem mixL_zero (s : Clk) (k : Int) (draw : Nat) : mixL s k draw 0 = List.replicate (timesL s).length 0 := by
  apply List.ext_getElem
  · simp [mixL, timesL]
  · intro i h1 h2; simp [mixL]
theorem mixL_succ (s : Clk) (k : Int) (draw j : Nat) : mixL s k draw (j + 1) = (mixL s k draw j).set j (s.T (endAt s.nodes j) + stepV k s.rho draw (endAt s.nodes j)) := by
  apply List.ext_getElem
  · simp [mixL]
  · intro i h1 h2
    rw [List.getElem_set]
    simp only [mixL, List.getElem_map, List.getElem_range]
    by_cases e : j = i
    · subst e; simp
    · rw [if_neg e]
      by_cases h3 : i < j
      · rw [if_pos h3, if_pos (by omega)]
      · rw [if_neg h3, if_neg (by omega)]
theorem mixL_all (s : Clk) (k : Int) (draw : Nat) (r : Int) : mixL s k draw (timesL s).length = timesL { s with real := r, T := fun y => s.T y + stepV k s.rho draw y } := by
  apply List.ext_getElem
  · simp [mixL, timesL]
  · intro i h1 h2
    simp only [mixL, timesL, List.getElem_map, List.getElem_range]
    rw [if_pos (by simp [mixL] at h1; simp [timesL]; exact h1)]
/-- Where the bits of the j-th begin. -/
theorem pos_end {nodes : Int} {j : Nat} (h1 : 1 ≤ nodes) (h2 : nodes ≤ 16) (hj : j < 32) : posE (endAt nodes j) = if (j : Int) < nodes then 4 * j else (4 * ((j : Int) - nodes + 8) % 64).toNat := by
  unfold posE endAt
  by_cases h : (j : Int) < nodes
  · rw [if_pos h, if_neg (by omega), if_pos h]; omega
  · rw [if_neg h, if_pos (by omega), if_neg h]
    congr 1
    omega

section
variable {n : Nat} {w : World} {g : Nat} {s : Clk}
theorem rpass_same {w' : World} {k er : Int} {draw : Nat} (h : WI n w g s) (hn : n ≤ w.heap.size) (hb : Below w.heap.size w w') (he : passE s k draw = er) (hne : er ≠ 0) : (Ending.returned (.int .i64 er) = .returned (.int .i64 (passE s k draw))) ∧ WI n w' g (passS s k draw) ∧ Keep badW n w w' := by
  refine ⟨by rw [he], ?_, .of_below hb hn⟩
  rw [passS, he, if_neg hne]
  exact h.below hb

set_option maxRecDepth 20000 in
set_option maxHeartbeats 8000000 in
theorem refPass (k : Int) (draw : Nat) (h : WI n w g s) (hn : n ≤ w.heap.size) (hd : draw < 18446744073709551616) : Calls Try.prog 56 #[.pointer (some ⟨g, 0, none⟩), .int .i64 k, .int .u64 (draw : Int)] w fun e w' => e = .returned (.int .i64 (passE s k draw)) ∧ WI n w' g (passS s k draw) ∧ Keep badW n w w' := by
  by_cases h0 : k < 0
  · have HF := Lib.hid (rpass_same (k := k) (draw := draw) h hn (Below.refl _ _) (by rw [passE, if_pos (.inl h0)]) (by decide))
    clear h
    go_enter Try.func56, Try.ntmps56
    go_wp2_with fail
    go_ret
    exact HF.out
  by_cases h1 : 1099511627776 < k
  · have HF := Lib.hid (rpass_same (k := k) (draw := draw) h hn (Below.refl _ _) (by rw [passE, if_pos (.inr h1)]) (by decide))
    clear h
    go_enter Try.func56, Try.ntmps56
    go_wp2_with fail
    go_ret
    exact HF.out
  have hk : ¬ (k < 0 ∨ 1099511627776 < k) := by omega
  have H := Lib.hid h
  have hok := h.ok
  have hgood : Good k s.rho := ⟨by omega, by omega, hok.2.2.1.1, hok.2.2.1.2⟩
  have HLW := Lib.hid (fun w' => refLeast k s.rho w' hgood)
  have HMW := Lib.hid (fun w' => refMost k s.rho w' hgood)
  have hlm := least_le_most hgood
  have hreal := hok.2.2.2.1
  have hrho := hok.2.2.1
  have hnodes := hok.1
  have HPE : Hid (∀ w', overAt s k draw (timesL s).length = true → Below w.heap.size w w' → (Ending.returned (.int .i64 3) = .returned (.int .i64 (passE s k draw))) ∧ WI n w' g (passS s k draw) ∧ Keep badW n w w') := Lib.hid fun w' ho hb => rpass_same h hn hb (by rw [passE, if_neg hk, if_pos (by rw [← overAt_all hok]; exact ho)]) (by decide)
  obtain ⟨gt, hblk, hnr, hng, _⟩ := h
  have HIN : Hid (∀ j, j < (timesL s).length → j < 32 ∧ (0 ≤ s.T (endAt s.nodes j) ∧ s.T (endAt s.nodes j) ≤ 1152921504606846976)) := Lib.hid fun j hj => ⟨by rw [timesL_len] at hj; have := hok.2.1; omega, hok.2.2.2.2 _ (endAt_in hok hj)⟩
  have HTG : Hid (∀ w' j, j < (timesL s).length → Below w.heap.size w w' → w'.cell? ⟨gt, j, none⟩ = some (.int .i64 (s.T (endAt s.nodes j)))) := Lib.hid fun w' j hj hb => by
    rw [(hnr.below hb).cell hj, timesL_get]
  have HFIN : Hid (∀ (w' : World) (gn : Nat), Below w.heap.size w w' → w.heap.size ≤ gn → NR w' gn (mixL s k draw (timesL s).length) → overAt s k draw (timesL s).length = false →
      (Ending.returned (.int .i64 0) = .returned (.int .i64 (passE s k draw))) ∧ WI n ((w'.setCell ⟨g, 4, none⟩ (.int .i64 (s.real + k))).setCell ⟨g, 3, none⟩ (.slice (some ⟨gn, 0, none⟩) (timesL s).length (timesL s).length)) g (passS s k draw) ∧ Keep badW n w ((w'.setCell ⟨g, 4, none⟩ (.int .i64 (s.real + k))).setCell ⟨g, 3, none⟩ (.slice (some ⟨gn, 0, none⟩) (timesL s).length (timesL s).length))) := Lib.hid fun w' gn hb2 hgn hn2 hov => by
    rw [overAt_all hok] at hov
    have he : passE s k draw = 0 := by rw [passE, if_neg hk, if_neg (by rw [hov]; simp)]
    have hblk2 := hblk.kept hb2
    have hgg : gn ≠ g := by have := hblk.lt; omega
    have hblk3 := (hblk2.setCell 4 (.int .i64 (s.real + k))).setCell 3 (.slice (some ⟨gn, 0, none⟩) (timesL s).length (timesL s).length)
    refine ⟨by rw [he], ?_, below_setCell (p := ⟨g, 3, none⟩) (below_setCell (p := ⟨g, 4, none⟩) (hb2.mono hn) hng.1 _) hng.1 _, ((TM.below hb2).setCellT (p := ⟨g, 4, none⟩) (fun o ho => ?_) _).setCellT (p := ⟨g, 3, none⟩) (fun o ho => ?_) _⟩
    · rw [passS, if_pos he]
      have hml := mixL_all s k draw (s.real + k)
      have hll : (timesL { s with real := s.real + k, T := fun y => s.T y + stepV k s.rho draw y }).length = (timesL s).length := by rw [timesL_len, timesL_len]
      have hnot := fun x hx => (show s.T x + stepV k s.rho draw x ≤ 1152921504606846976 from Int.not_lt.1 fun hlt => by have := overB_end (k := k) (draw := draw) hok hx hlt; rw [hov] at this; cases this)
      have hrl : s.real + k ≤ 1152921504606846976 := Int.not_lt.1 fun hlt => by have := overB_real (s := s) (draw := draw) hlt; rw [hov] at this; cases this
      refine ⟨gn, by rw [hll]; exact hblk3, ?_, ⟨hng.1, by omega⟩, hok.1, hok.2.1, hok.2.2.1, ⟨by simp only; omega, hrl⟩, fun y hy => ⟨?_, hnot y hy⟩⟩
      · rw [← hml]
        exact (hn2.setCell_other (p := ⟨g, 4, none⟩) hgg _).setCell_other (p := ⟨g, 3, none⟩) hgg _
      · have h1 := (hok.2.2.2.2 y hy).1
        have h2 := (step_bd hgood draw y).1
        simp only
        omega
    · rw [show w'.heap[g]? = _ from hblk2] at ho
      injection ho with ho
      subst ho
      exact .inl rfl
    · rw [show (w'.setCell ⟨g, 4, none⟩ (.int .i64 (s.real + k))).heap[g]? = _ from hblk2.setCell 4 _] at ho
      injection ho with ho
      subst ho
      exact .inl rfl
  have HOS := Lib.hid (overAt_succ s k draw)
  have HO0 : Hid (overAt s k draw 0 = decide (1152921504606846976 < s.real + k)) := Lib.hid (by simp [overAt])
  have HMS := Lib.hid (mixL_succ s k draw)
  have HM0 := Lib.hid (mixL_zero s k draw)
  have HML := Lib.hid (mixL_len s k draw)
  have HPOS : Hid (∀ j, j < 32 → posE (endAt s.nodes j) = if (j : Int) < s.nodes then 4 * j else (4 * ((j : Int) - s.nodes + 8) % 64).toNat) := Lib.hid fun j hj => pos_end hnodes.1 hnodes.2 hj
  have HST : Hid (∀ x, stepV k s.rho draw x = leastV k s.rho + (mostV k s.rho - leastV k s.rho) * (shareV x draw : Int) / 15) := Lib.hid fun x => rfl
  have HBLK := Lib.hid hblk
  have c3 := hblk.cell 3 rfl
  have c4 := hblk.cell 4 rfl
  have hglt := hblk.lt
  have hN : (timesL s).length ≤ 32 := by rw [timesL_len]; have := hok.2.1; omega
  obtain ⟨i0, hi0, hz0, hz1, hz2⟩ := info_parts i64_info
  clear hblk hnr hok H hk
  generalize s.rho = rho at *
  generalize s.real = real at *
  generalize s.nodes = nd at *
  generalize hNN : (timesL s).length = N at *
  clear hNN
  generalize leastV k rho = lo at *
  generalize mostV k rho = hi_ at *
  go_enter Try.func56, Try.ntmps56
  go_wp2_with (at_make; refine wpList_make_full _ rfl (.tmp 23) (.tmp 23) 86 rfl w.heap.size 2 i0 (.int .i64 0) 1 Try.underlying86 hi0 hz0 hz1 .i64 .i64 _ _ N rfl rfl rfl rfl (by rw [hz2]; omega) (by unfold maxLen; omega) (Nat.le_refl _) ?_; intro w1 ho1 hg1; have hb1 : Below w.heap.size w w1 := ⟨hg1.os, hg1.tape, hg1.output, hg1.size, fun j hj => hg1.block j hj (by simp)⟩; have c4n := (HBLK.out.kept hb1).cell 4 rfl)
  have hnr : NR w1 w.heap.size (mixL s k draw 0) := NR.of_own (by rw [made_zero] at ho1; rw [HM0.out]; exact ho1) (by rw [HML.out])
  obtain ⟨gn, hgn⟩ : ∃ gn, gn = w.heap.size := ⟨_, rfl⟩
  rw [← hgn] at hnr ⊢
  have HGN := Lib.hid hgn
  rw [← HO0.out]
  clear ho1 hg1 hgn c3 c4 c4n HO0 HM0
  go_loopw [8, 9] (fun v8 v9 wr => ∃ (j : Nat), j ≤ N ∧ v9 = .int .i64 (j : Int) ∧ v8 = .bool (overAt s k draw j) ∧ NR wr gn (mixL s k draw j) ∧ Below w.heap.size w wr) (fun _ v9 _ => N - (intOf v9).toNat)
  case atStart => exact ⟨0, Nat.zero_le _, rfl, rfl, hnr, hb1⟩
  case round =>
    obtain ⟨j, hj, rfl, rfl, hnr, hB⟩ := hrel
    have hbr := HBLK.out.kept hB
    have c3 := hbr.cell 3 rfl
    have c0 := hbr.cell 0 rfl
    have c2 := hbr.cell 2 rfl
    have c4 := hbr.cell 4 rfl
    clear hb1
    by_cases hlt : j < N
    · skip
      have hxv := HIN.out j hlt
      obtain ⟨hj32, t1, t2⟩ := hxv
      have hct := HTG.out wr j hlt hB
      have HTG2 := Lib.hid (fun w' hb => HTG.out w' j hlt hb)
      have hp := HPOS.out j hj32
      obtain ⟨p, hpp⟩ : ∃ p, p = posE (endAt nd j) := ⟨_, rfl⟩
      have hsd : shareV (endAt nd j) draw = draw / 2 ^ p % 16 := by unfold shareV; rw [← hpp]
      have hsh := share_le (endAt nd j) draw
      have hst := HST.out (endAt nd j)
      have HOS1 := Lib.hid (HOS.out j)
      have HMS1 := Lib.hid (HMS.out j)
      rw [← hpp] at hp
      clear hpp
      generalize stepV k rho draw (endAt nd j) = st at *
      generalize s.T (endAt nd j) = t at *
      obtain ⟨sh, hshv⟩ : ∃ sh, sh = shareV (endAt nd j) draw := ⟨_, rfl⟩
      rw [← hshv] at hsd hsh hst
      have hdv : ((draw : Int) / 2 ^ p).tmod 16 = (sh : Int) := by
        have h9 : (draw : Int) / 2 ^ p = ((draw / 2 ^ p : Nat) : Int) := by simp
        rw [h9, hsd]
        generalize draw / 2 ^ p = q
        rw [Int.tmod_eq_emod_of_nonneg (by omega)]
        omega
      have hpb := part_bd (d := hi_ - lo) (s := (sh : Int)) (by omega) (by omega) (by omega)
      obtain ⟨hp1, hp2, hp3, hp4⟩ := hpb
      have HSTE := Lib.hid hst
      have htd : Int.tdiv ((hi_ - lo) * (sh : Int)) 15 = (hi_ - lo) * (sh : Int) / 15 := Int.tdiv_eq_ediv_of_nonneg hp1
      have hw1 : IntKind.i64.wrap (t + lo) = t + lo := IntWalk.i64_in _ (by omega)
      have hw2 : IntKind.i64.wrap (hi_ - lo) = hi_ - lo := IntWalk.i64_in _ (by omega)
      have hw3 : IntKind.i64.wrap ((hi_ - lo) * (sh : Int)) = (hi_ - lo) * (sh : Int) := IntWalk.i64_in _ (by omega)
      have hw4 : IntKind.i64.wrap ((hi_ - lo) * (sh : Int) / 15) = (hi_ - lo) * (sh : Int) / 15 := IntWalk.i64_in _ (by omega)
      have hw5 : IntKind.i64.wrap (t + lo + (hi_ - lo) * (sh : Int) / 15) = t + lo + (hi_ - lo) * (sh : Int) / 15 := IntWalk.i64_in _ (by omega)
      have HQ : Hid (t + lo + (hi_ - lo) * (sh : Int) / 15 = t + st) := Lib.hid (by rw [hst]; omega)
      have HWR := Lib.hid (And.intro hw1 (And.intro hw2 (And.intro hw3 (And.intro hw4 (And.intro hw5 htd)))))
      clear hst hsd hshv HSTE hw1 hw2 hw3 hw4 hw5 htd
      by_cases hjn : (j : Int) < nd
      · rw [if_pos hjn] at hp
        have hpi : 4 * (j : Int) = (p : Int) := by omega
        have hp64 : p < 64 := by omega
        clear hp
        go_wp2_with fail
        refine (HLW.out _).mono ?_
        rintro e w' ⟨rfl, n1, rfl⟩
        obtain ⟨wa, hwa⟩ : ∃ wa, wa = wr.drewN n1 := ⟨_, rfl⟩
        rw [← hwa]
        have hBa : Below wr.heap.size wr wa := by rw [hwa]; exact belowDrewN' (Below.refl _ _) _
        have hna := hnr.below hBa
        have hBwa := hB.trans (hBa.mono hB.size)
        clear hwa c3 c0 c2 c4 hct hnr hbr
        go_wp2_with fail
        obtain ⟨hw1, hw2, hw3, hw4, hw5, htd⟩ := HWR.out
        refine wp_region_planE_gen (by kernel_rfl) [(0, none), (1, none), (2, none), (3, none), (4, none), (5, none), (6, none), (7, none), (8, none), (9, none), (10, none), (11, none), (12, none), (13, none), (14, none), (15, none), (17, none), (19, none), (16, some [11, 15]), (18, none), (20, none), (21, none), (22, none), (23, none), (24, some [0, 1, 2, 3, 4, 5, 6, 7, 8, 9, 10, 11, 12, 13, 14, 15, 17, 18, 19, 20, 21, 22, 23])] (by kernel_rfl) (by kernel_rfl) (by decide) ?_
        intro wq hwq
        have hBq : Below wa.heap.size wa wq := by rw [hwq]; exact (Below.refl _ _).drew
        have hBwq := hBwa.trans (hBq.mono hBwa.size)
        have hnq := hna.below hBq
        have hbq := HBLK.out.kept hBwq
        have q3 := hbq.cell 3 rfl
        have q2 := hbq.cell 2 rfl
        have qt := HTG2.out _ hBwq
        clear hwq
        iterate 5 (refine planE_pure (v := ?_) rfl (by rfl) (fun w' => ?_) ?_; rotate_left; (focus (simp only [List.getElem_toArray, List.getElem_cons_succ, List.getElem_cons_zero]; go_simp; first | with_reducible rfl | (simp (disch := omega) only [if_pos, if_neg, Result.andThen_ok]; try with_reducible rfl) | skip)); try simp only [List.getElem_toArray, List.getElem_cons_succ, List.getElem_cons_zero, Act.put, List.setIfInBounds_toArray, List.set_cons_zero, List.set_cons_succ])
        refine planE_cells (v := ?_) [(⟨g, 3, none⟩, .slice (some ⟨gt, 0, none⟩) N N)] (by simp; and_intros <;> assumption) rfl (by rfl) (fun w' hw' => ?_) ?_; rotate_left; (focus (simp only [List.forall_mem_cons, List.not_mem_nil, false_imp_iff, implies_true, and_true] at hw'; simp only [List.getElem_toArray, List.getElem_cons_succ, List.getElem_cons_zero]; go_simp; first | with_reducible rfl | (simp (disch := omega) only [if_pos, if_neg, Result.andThen_ok]; try with_reducible rfl) | skip)); try simp only [List.getElem_toArray, List.getElem_cons_succ, List.getElem_cons_zero, Act.put, List.setIfInBounds_toArray, List.set_cons_zero, List.set_cons_succ]
        iterate 2 (refine planE_pure (v := ?_) rfl (by rfl) (fun w' => ?_) ?_; rotate_left; (focus (simp only [List.getElem_toArray, List.getElem_cons_succ, List.getElem_cons_zero]; go_simp; first | with_reducible rfl | (simp (disch := omega) only [if_pos, if_neg, Result.andThen_ok]; try with_reducible rfl) | skip)); try simp only [List.getElem_toArray, List.getElem_cons_succ, List.getElem_cons_zero, Act.put, List.setIfInBounds_toArray, List.set_cons_zero, List.set_cons_succ])
        refine planE_cells (v := ?_) [(⟨gt, j, none⟩, .int .i64 t)] (by simp; and_intros <;> assumption) rfl (by rfl) (fun w' hw' => ?_) ?_; rotate_left; (focus (simp only [List.forall_mem_cons, List.not_mem_nil, false_imp_iff, implies_true, and_true] at hw'; simp only [List.getElem_toArray, List.getElem_cons_succ, List.getElem_cons_zero]; go_simp; first | with_reducible rfl | (simp (disch := omega) only [if_pos, if_neg, Result.andThen_ok]; try with_reducible rfl) | skip)); try simp only [List.getElem_toArray, List.getElem_cons_succ, List.getElem_cons_zero, Act.put, List.setIfInBounds_toArray, List.set_cons_zero, List.set_cons_succ]
        iterate 6 (refine planE_pure (v := ?_) rfl (by rfl) (fun w' => ?_) ?_; rotate_left; (focus (simp only [List.getElem_toArray, List.getElem_cons_succ, List.getElem_cons_zero]; go_simp; first | with_reducible rfl | (simp (disch := omega) only [if_pos, if_neg, Result.andThen_ok]; try with_reducible rfl) | skip)); try simp only [List.getElem_toArray, List.getElem_cons_succ, List.getElem_cons_zero, Act.put, List.setIfInBounds_toArray, List.set_cons_zero, List.set_cons_succ])
        refine planE_cells (v := ?_) [(⟨g, 2, none⟩, .int .i64 rho)] (by simp; and_intros <;> assumption) rfl (by rfl) (fun w' hw' => ?_) ?_; rotate_left; (focus (simp only [List.forall_mem_cons, List.not_mem_nil, false_imp_iff, implies_true, and_true] at hw'; simp only [List.getElem_toArray, List.getElem_cons_succ, List.getElem_cons_zero]; go_simp; first | with_reducible rfl | (simp (disch := omega) only [if_pos, if_neg, Result.andThen_ok]; try with_reducible rfl) | skip)); try simp only [List.getElem_toArray, List.getElem_cons_succ, List.getElem_cons_zero, Act.put, List.setIfInBounds_toArray, List.set_cons_zero, List.set_cons_succ]
        iterate 2 (refine planE_pure (v := ?_) rfl (by rfl) (fun w' => ?_) ?_; rotate_left; (focus (simp only [List.getElem_toArray, List.getElem_cons_succ, List.getElem_cons_zero]; go_simp; first | with_reducible rfl | (simp (disch := omega) only [if_pos, if_neg, Result.andThen_ok]; try with_reducible rfl) | skip)); try simp only [List.getElem_toArray, List.getElem_cons_succ, List.getElem_cons_zero, Act.put, List.setIfInBounds_toArray, List.set_cons_zero, List.set_cons_succ])
        refine planE_eff rfl (by rfl) (fun K hK => ?_)
        go_simp
        refine (HMW.out _).mono ?_
        rintro e w' ⟨rfl, n2, rfl⟩
        obtain ⟨wb, hwb⟩ : ∃ wb, wb = wq.drewN n2 := ⟨_, rfl⟩
        rw [← hwb]
        have hBb : Below wq.heap.size wq wb := by rw [hwb]; exact belowDrewN' (Below.refl _ _) _
        have hBwb := hBwq.trans (hBb.mono hBwq.size)
        have hnb := hnq.below hBb
        have hbb := HBLK.out.kept hBwb
        clear hwb q3 q2 qt
        have q3 := hbb.cell 3 rfl
        have q2 := hbb.cell 2 rfl
        have qt := HTG2.out _ hBwb
        have qn := hnb.cell (j := j) (by rw [HML.out]; exact hlt)
        have fn := hnb.free j
        refine hK _ _ (by simp [owed, left] <;> (and_intros <;> first | trivial | assumption)) ?_
        clear hK K
        try simp only [List.getElem_toArray, List.getElem_cons_succ, List.getElem_cons_zero, Act.put, List.setIfInBounds_toArray, List.set_cons_zero, List.set_cons_succ]
        iterate 5 (refine planE_pure (v := ?_) rfl (by rfl) (fun w' => ?_) ?_; rotate_left; (focus (simp only [List.getElem_toArray, List.getElem_cons_succ, List.getElem_cons_zero]; go_simp; first | with_reducible rfl | (simp (disch := omega) only [if_pos, if_neg, Result.andThen_ok]; try with_reducible rfl) | skip)); try simp only [List.getElem_toArray, List.getElem_cons_succ, List.getElem_cons_zero, Act.put, List.setIfInBounds_toArray, List.set_cons_zero, List.set_cons_succ])
        refine planE_eff rfl (by rfl) (fun K hK => ?_)
        go_simp
        skip
        refine hK _ _ (by simp [owed, left] <;> (and_intros <;> first | trivial | assumption)) ?_
        clear hK K
        try simp only [List.getElem_toArray, List.getElem_cons_succ, List.getElem_cons_zero, Act.put, List.setIfInBounds_toArray, List.set_cons_zero, List.set_cons_succ]
        refine planE_end ?_
        obtain ⟨w2, hw2⟩ : ∃ w2, w2 = wb.setCell ⟨gn, j, none⟩ (.int .i64 (t + lo + (hi_ - lo) * (sh : Int) / 15)) := ⟨_, rfl⟩
        rw [← hw2]
        have hn2 := hnb.set j (t + lo + (hi_ - lo) * (sh : Int) / 15)
        have hB2 : Below w.heap.size w w2 := by rw [hw2]; exact below_setCell (p := ⟨gn, j, none⟩) hBwb (by rw [HGN.out]; exact Nat.le_refl _) _
        rw [← hw2, HQ.out, ← HMS1.out] at hn2
        have qc : w2.cell? ⟨gn, j, none⟩ = some (.int .i64 (t + st)) := by
          have := hn2.cell (j := j) (by rw [HML.out]; exact hlt)
          rw [this]
          congr 2
          simp only [HMS1.out, List.getElem_set_self]
        clear hw2 hw1 q3 q2 qt qn fn hnb hbb hBwb hBb hBq hBwq hnq hbq hna hBa hBwa hdv hw4 hw5 htd
        cases hov : overAt s k draw j
        · have HOV := Lib.hid hov
          clear hov
          by_cases hbig : 1152921504606846976 < t + st
          · have HBIG := Lib.hid hbig
            go_wp2_with fail
            go_roundw
            case rel => exact ⟨j + 1, by omega, by go_num, by rw [HOS1.out, HOV.out]; simp [HBIG.out], hn2, hB2⟩
            case measure => simp [intOf]; omega
          · have HBIG := Lib.hid hbig
            go_wp2_with fail
            go_roundw
            case rel => exact ⟨j + 1, by omega, by go_num, by rw [HOS1.out, HOV.out]; simp [HBIG.out], hn2, hB2⟩
            case measure => simp [intOf]; omega
        · have HOV := Lib.hid hov
          clear hov
          go_wp2_with fail
          go_roundw
          case rel => exact ⟨j + 1, by omega, by go_num, by rw [HOS1.out, HOV.out]; simp, hn2, hB2⟩
          case measure => simp [intOf]; omega
      · rw [if_neg hjn] at hp
        have hpi : 4 * ((j : Int) - nd + 8) % 64 = (p : Int) := by omega
        have hp64 : p < 64 := by omega
        clear hp
        go_wp2_with fail
        refine (HLW.out _).mono ?_
        rintro e w' ⟨rfl, n1, rfl⟩
        obtain ⟨wa, hwa⟩ : ∃ wa, wa = wr.drewN n1 := ⟨_, rfl⟩
        rw [← hwa]
        have hBa : Below wr.heap.size wr wa := by rw [hwa]; exact belowDrewN' (Below.refl _ _) _
        have hna := hnr.below hBa
        have hBwa := hB.trans (hBa.mono hB.size)
        clear hwa c3 c0 c2 c4 hct hnr hbr
        go_wp2_with fail
        obtain ⟨hw1, hw2, hw3, hw4, hw5, htd⟩ := HWR.out
        refine wp_region_planE_gen (by kernel_rfl) [(0, none), (1, none), (2, none), (3, none), (4, none), (5, none), (6, none), (7, none), (8, none), (9, none), (10, none), (11, none), (12, none), (13, none), (14, none), (15, none), (17, none), (19, none), (16, some [11, 15]), (18, none), (20, none), (21, none), (22, none), (23, none), (24, some [0, 1, 2, 3, 4, 5, 6, 7, 8, 9, 10, 11, 12, 13, 14, 15, 17, 18, 19, 20, 21, 22, 23])] (by kernel_rfl) (by kernel_rfl) (by decide) ?_
        intro wq hwq
        have hBq : Below wa.heap.size wa wq := by rw [hwq]; exact (Below.refl _ _).drew
        have hBwq := hBwa.trans (hBq.mono hBwa.size)
        have hnq := hna.below hBq
        have hbq := HBLK.out.kept hBwq
        have q3 := hbq.cell 3 rfl
        have q2 := hbq.cell 2 rfl
        have qt := HTG2.out _ hBwq
        clear hwq
        iterate 5 (refine planE_pure (v := ?_) rfl (by rfl) (fun w' => ?_) ?_; rotate_left; (focus (simp only [List.getElem_toArray, List.getElem_cons_succ, List.getElem_cons_zero]; go_simp; first | with_reducible rfl | (simp (disch := omega) only [if_pos, if_neg, Result.andThen_ok]; try with_reducible rfl) | skip)); try simp only [List.getElem_toArray, List.getElem_cons_succ, List.getElem_cons_zero, Act.put, List.setIfInBounds_toArray, List.set_cons_zero, List.set_cons_succ])
        refine planE_cells (v := ?_) [(⟨g, 3, none⟩, .slice (some ⟨gt, 0, none⟩) N N)] (by simp; and_intros <;> assumption) rfl (by rfl) (fun w' hw' => ?_) ?_; rotate_left; (focus (simp only [List.forall_mem_cons, List.not_mem_nil, false_imp_iff, implies_true, and_true] at hw'; simp only [List.getElem_toArray, List.getElem_cons_succ, List.getElem_cons_zero]; go_simp; first | with_reducible rfl | (simp (disch := omega) only [if_pos, if_neg, Result.andThen_ok]; try with_reducible rfl) | skip)); try simp only [List.getElem_toArray, List.getElem_cons_succ, List.getElem_cons_zero, Act.put, List.setIfInBounds_toArray, List.set_cons_zero, List.set_cons_succ]
        iterate 2 (refine planE_pure (v := ?_) rfl (by rfl) (fun w' => ?_) ?_; rotate_left; (focus (simp only [List.getElem_toArray, List.getElem_cons_succ, List.getElem_cons_zero]; go_simp; first | with_reducible rfl | (simp (disch := omega) only [if_pos, if_neg, Result.andThen_ok]; try with_reducible rfl) | skip)); try simp only [List.getElem_toArray, List.getElem_cons_succ, List.getElem_cons_zero, Act.put, List.setIfInBounds_toArray, List.set_cons_zero, List.set_cons_succ])
        refine planE_cells (v := ?_) [(⟨gt, j, none⟩, .int .i64 t)] (by simp; and_intros <;> assumption) rfl (by rfl) (fun w' hw' => ?_) ?_; rotate_left; (focus (simp only [List.forall_mem_cons, List.not_mem_nil, false_imp_iff, implies_true, and_true] at hw'; simp only [List.getElem_toArray, List.getElem_cons_succ, List.getElem_cons_zero]; go_simp; first | with_reducible rfl | (simp (disch := omega) only [if_pos, if_neg, Result.andThen_ok]; try with_reducible rfl) | skip)); try simp only [List.getElem_toArray, List.getElem_cons_succ, List.getElem_cons_zero, Act.put, List.setIfInBounds_toArray, List.set_cons_zero, List.set_cons_succ]
        iterate 6 (refine planE_pure (v := ?_) rfl (by rfl) (fun w' => ?_) ?_; rotate_left; (focus (simp only [List.getElem_toArray, List.getElem_cons_succ, List.getElem_cons_zero]; go_simp; first | with_reducible rfl | (simp (disch := omega) only [if_pos, if_neg, Result.andThen_ok]; try with_reducible rfl) | skip)); try simp only [List.getElem_toArray, List.getElem_cons_succ, List.getElem_cons_zero, Act.put, List.setIfInBounds_toArray, List.set_cons_zero, List.set_cons_succ])
        refine planE_cells (v := ?_) [(⟨g, 2, none⟩, .int .i64 rho)] (by simp; and_intros <;> assumption) rfl (by rfl) (fun w' hw' => ?_) ?_; rotate_left; (focus (simp only [List.forall_mem_cons, List.not_mem_nil, false_imp_iff, implies_true, and_true] at hw'; simp only [List.getElem_toArray, List.getElem_cons_succ, List.getElem_cons_zero]; go_simp; first | with_reducible rfl | (simp (disch := omega) only [if_pos, if_neg, Result.andThen_ok]; try with_reducible rfl) | skip)); try simp only [List.getElem_toArray, List.getElem_cons_succ, List.getElem_cons_zero, Act.put, List.setIfInBounds_toArray, List.set_cons_zero, List.set_cons_succ]
        iterate 2 (refine planE_pure (v := ?_) rfl (by rfl) (fun w' => ?_) ?_; rotate_left; (focus (simp only [List.getElem_toArray, List.getElem_cons_succ, List.getElem_cons_zero]; go_simp; first | with_reducible rfl | (simp (disch := omega) only [if_pos, if_neg, Result.andThen_ok]; try with_reducible rfl) | skip)); try simp only [List.getElem_toArray, List.getElem_cons_succ, List.getElem_cons_zero, Act.put, List.setIfInBounds_toArray, List.set_cons_zero, List.set_cons_succ])
        refine planE_eff rfl (by rfl) (fun K hK => ?_)
        go_simp
        refine (HMW.out _).mono ?_
        rintro e w' ⟨rfl, n2, rfl⟩
        obtain ⟨wb, hwb⟩ : ∃ wb, wb = wq.drewN n2 := ⟨_, rfl⟩
        rw [← hwb]
        have hBb : Below wq.heap.size wq wb := by rw [hwb]; exact belowDrewN' (Below.refl _ _) _
        have hBwb := hBwq.trans (hBb.mono hBwq.size)
        have hnb := hnq.below hBb
        have hbb := HBLK.out.kept hBwb
        clear hwb q3 q2 qt
        have q3 := hbb.cell 3 rfl
        have q2 := hbb.cell 2 rfl
        have qt := HTG2.out _ hBwb
        have qn := hnb.cell (j := j) (by rw [HML.out]; exact hlt)
        have fn := hnb.free j
        refine hK _ _ (by simp [owed, left] <;> (and_intros <;> first | trivial | assumption)) ?_
        clear hK K
        try simp only [List.getElem_toArray, List.getElem_cons_succ, List.getElem_cons_zero, Act.put, List.setIfInBounds_toArray, List.set_cons_zero, List.set_cons_succ]
        iterate 5 (refine planE_pure (v := ?_) rfl (by rfl) (fun w' => ?_) ?_; rotate_left; (focus (simp only [List.getElem_toArray, List.getElem_cons_succ, List.getElem_cons_zero]; go_simp; first | with_reducible rfl | (simp (disch := omega) only [if_pos, if_neg, Result.andThen_ok]; try with_reducible rfl) | skip)); try simp only [List.getElem_toArray, List.getElem_cons_succ, List.getElem_cons_zero, Act.put, List.setIfInBounds_toArray, List.set_cons_zero, List.set_cons_succ])
        refine planE_eff rfl (by rfl) (fun K hK => ?_)
        go_simp
        skip
        refine hK _ _ (by simp [owed, left] <;> (and_intros <;> first | trivial | assumption)) ?_
        clear hK K
        try simp only [List.getElem_toArray, List.getElem_cons_succ, List.getElem_cons_zero, Act.put, List.setIfInBounds_toArray, List.set_cons_zero, List.set_cons_succ]
        refine planE_end ?_
        obtain ⟨w2, hw2⟩ : ∃ w2, w2 = wb.setCell ⟨gn, j, none⟩ (.int .i64 (t + lo + (hi_ - lo) * (sh : Int) / 15)) := ⟨_, rfl⟩
        rw [← hw2]
        have hn2 := hnb.set j (t + lo + (hi_ - lo) * (sh : Int) / 15)
        have hB2 : Below w.heap.size w w2 := by rw [hw2]; exact below_setCell (p := ⟨gn, j, none⟩) hBwb (by rw [HGN.out]; exact Nat.le_refl _) _
        rw [← hw2, HQ.out, ← HMS1.out] at hn2
        have qc : w2.cell? ⟨gn, j, none⟩ = some (.int .i64 (t + st)) := by
          have := hn2.cell (j := j) (by rw [HML.out]; exact hlt)
          rw [this]
          congr 2
          simp only [HMS1.out, List.getElem_set_self]
        clear hw2 hw1 q3 q2 qt qn fn hnb hbb hBwb hBb hBq hBwq hnq hbq hna hBa hBwa hdv hw4 hw5 htd
        cases hov : overAt s k draw j
        · have HOV := Lib.hid hov
          clear hov
          by_cases hbig : 1152921504606846976 < t + st
          · have HBIG := Lib.hid hbig
            go_wp2_with fail
            go_roundw
            case rel => exact ⟨j + 1, by omega, by go_num, by rw [HOS1.out, HOV.out]; simp [HBIG.out], hn2, hB2⟩
            case measure => simp [intOf]; omega
          · have HBIG := Lib.hid hbig
            go_wp2_with fail
            go_roundw
            case rel => exact ⟨j + 1, by omega, by go_num, by rw [HOS1.out, HOV.out]; simp [HBIG.out], hn2, hB2⟩
            case measure => simp [intOf]; omega
        · have HOV := Lib.hid hov
          clear hov
          go_wp2_with fail
          go_roundw
          case rel => exact ⟨j + 1, by omega, by go_num, by rw [HOS1.out, HOV.out]; simp, hn2, hB2⟩
          case measure => simp [intOf]; omega
    · obtain rfl : j = N := by omega
      cases hov : overAt s k draw j
      · have HF := Lib.hid (HFIN.out wr gn hB (by rw [HGN.out]; exact Nat.le_refl _) hnr hov)
        have f4 := hbr.free 4
        have f3 := hbr.free 3
        clear hnr hB hbr hov
        go_wp2_with fail
        go_ret
        exact HF.out
      · have HF := Lib.hid (HPE.out wr hov hB)
        clear hnr hB hbr hov
        go_wp2_with fail
        go_ret
        exact HF.out
end
end Go.Proofs.Ytekkcbonkjdgeaa
