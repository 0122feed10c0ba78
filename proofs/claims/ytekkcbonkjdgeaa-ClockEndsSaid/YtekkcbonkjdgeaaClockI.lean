/- The laws' own helpers of layer 9: answers, alike, act. -/
import Derived.Test.YtekkcbonkjdgeaaClockH
namespace Go.Proofs.Ytekkcbonkjdgeaa
open Go.RowKit

set_option maxRecDepth 20000 in
set_option maxHeartbeats 2000000 in
theorem clockAnswers (w : World) : Calls Try.prog 25 #[] w fun e w' => e = .returned (.bool true) ∧ Below w.heap.size w w' := by
  have N := Lib.hid (clockNew 1 0 0 w (by decide))
  have HP := Lib.hid (show passE (clk0 1 0 0) 5 0 = 0 by decide +kernel)
  have HV := Lib.hid (show nowV (passS (clk0 1 0 0) 5 0) 1 = 5 by decide +kernel)
  have HE := Lib.hid (show nowE (passS (clk0 1 0 0) 5 0) 1 = 0 by decide +kernel)
  have HR := Lib.hid (show (passS (clk0 1 0 0) 5 0).real = 5 by decide +kernel)
  have HS := Lib.hid (show (!(passS (clk0 1 0 0) 5 0).skew) = true by decide +kernel)
  go_enter Try.func25, Try.ntmps25
  go_wp2_with fail
  refine N.out.mono ?_
  rintro e w1 ⟨g, rfl, h1, hb1⟩
  have P := Lib.hid (clockPass 5 0 h1 hb1.size (by omega))
  clear h1
  go_wp2_with fail
  refine P.out.mono ?_
  rintro e w2 ⟨rfl, h2, hk2⟩
  rw [HP.out]
  have hB := hb1.trans hk2.below
  clear P hk2 hb1
  have NW := Lib.hid (clockNow 1 h2)
  rw [HV.out, HE.out] at NW
  have TR := Lib.hid (clockTrue h2)
  rw [HR.out] at TR
  have ST := Lib.hid (clockSteady h2)
  rw [HS.out] at ST
  clear h2
  go_wp2_with fail
  refine NW.out.mono ?_
  rintro e w' ⟨rfl, rfl⟩
  go_wp2_with fail
  refine TR.out.mono ?_
  rintro e w' ⟨rfl, rfl⟩
  go_wp2_with fail
  refine ST.out.mono ?_
  rintro e w' ⟨rfl, rfl⟩
  go_wp2_with fail
  go_ret
  exact ⟨rfl, hB⟩

section
variable {n : Nat} {w w' : World} {g g2 : Nat} {s : Clk}
set_option maxRecDepth 20000 in
set_option maxHeartbeats 4000000 in
theorem clockAlike (h : CI n w g s) (r : WI n w g2 s) : Calls Try.prog 36 #[.pointer (some ⟨g, 0, none⟩), .pointer (some ⟨g2, 0, none⟩)] w fun e w' => e = .returned (.bool true) ∧ Below w.heap.size w w' := by
  have NW := Lib.hid (fun x => clockNow x h)
  have AT := Lib.hid (fun x hx => refAt x r hx)
  have TR := Lib.hid (fun w' (hb : Below w.heap.size w w') => clockTrue (h.below hb))
  have ST := Lib.hid (fun w' (hb : Below w.heap.size w w') => clockSteady (h.below hb))
  have hok := r.ok
  obtain ⟨gt, hblk, hnr, _, _⟩ := r
  have HIN : Hid (∀ x, inE s.nodes s.edges x = true → ∃ i : Nat, atV s x = (i : Int) ∧ i < (timesL s).length ∧ w.cell? ⟨gt, i, none⟩ = some (.int .i64 (s.T x))) := Lib.hid fun x hx => by
    obtain ⟨p1, p2, p3⟩ := atV_in hok hx
    refine ⟨(atV s x).toNat, by omega, p2, ?_⟩
    rw [hnr.cell p2, timesL_get, p3]
  have HOUT : Hid (∀ x, ¬ inE s.nodes s.edges x = true → atV s x = -1) := Lib.hid fun x hx => atV_out hx hok
  have HBLK := Lib.hid hblk
  have c3 := hblk.cell 3 rfl
  clear h hok hblk hnr
  generalize (timesL s).length = N at *
  go_enter Try.func36, Try.ntmps36
  go_wp2_with fail
  go_loop [5] (fun v => ∃ x : Int, -17 ≤ x ∧ x ≤ 18 ∧ v = .int .i64 x) (fun v => (18 - intOf v).toNat)
  case atStart => exact ⟨-17, by omega, by omega, rfl⟩
  case round =>
    obtain ⟨x, hx1, hx2, rfl⟩ := hrel
    by_cases hle : x ≤ 17
    · have hA := AT.out x (by omega)
      have hN := NW.out x
      unfold nowV nowE at hN
      by_cases hx : inE s.nodes s.edges x = true
      · obtain ⟨i, hi, hil, hci⟩ := HIN.out x hx
        rw [if_pos hx, if_pos hx] at hN
        rw [hi] at hA
        have HA := Lib.hid hA
        have HN := Lib.hid hN
        clear hA hN hi hx
        go_wp2_with fail
        refine HN.out.mono ?_
        rintro e w' ⟨rfl, rfl⟩
        go_wp2_with fail
        refine HA.out.mono ?_
        rintro e w' ⟨rfl, rfl⟩
        go_wp2_with fail
        go_round
        case rel => exact ⟨x + 1, by omega, by omega, by go_num⟩
        case measure => simp [intOf]; omega
      · rw [if_neg hx, if_neg hx] at hN
        rw [HOUT.out x hx] at hA
        have HA := Lib.hid hA
        have HN := Lib.hid hN
        clear hA hN hx
        go_wp2_with fail
        refine HN.out.mono ?_
        rintro e w' ⟨rfl, rfl⟩
        go_wp2_with fail
        refine HA.out.mono ?_
        rintro e w' ⟨rfl, rfl⟩
        go_wp2_with fail
        go_round
        case rel => exact ⟨x + 1, by omega, by omega, by go_num⟩
        case measure => simp [intOf]; omega
    · clear c3
      go_wp2_with fail
      refine wp_region_planE_gen (by kernel_rfl) [(0, none), (2, none), (3, none), (4, none), (5, none), (1, some [0]), (6, none), (7, none), (8, none), (10, none), (11, none), (12, none), (13, none), (14, none), (9, some [7, 8]), (15, none), (16, none), (17, none)] (by kernel_rfl) (by kernel_rfl) (by decide) ?_
      intro wq hwq
      have hBq : Below w.heap.size w wq := by rw [hwq]; exact (Below.refl _ _).drew
      have hbq := HBLK.out.kept hBq
      have q4 := hbq.cell 4 rfl
      have q5 := hbq.cell 5 rfl
      clear hwq
      iterate 4 (refine planE_pure (v := ?_) rfl (by rfl) (fun w' => ?_) ?_; rotate_left; (focus (simp only [List.getElem_toArray, List.getElem_cons_succ, List.getElem_cons_zero]; go_simp; first | with_reducible rfl | (simp (disch := omega) only [if_pos, if_neg, Result.andThen_ok]; try with_reducible rfl) | skip)); try simp only [List.getElem_toArray, List.getElem_cons_succ, List.getElem_cons_zero, Act.put, List.setIfInBounds_toArray, List.set_cons_zero, List.set_cons_succ])
      refine planE_cells (v := ?_) [(⟨g2, 4, none⟩, .int .i64 s.real)] (by simp; and_intros <;> assumption) rfl (by rfl) (fun w' hw' => ?_) ?_; rotate_left; (focus (simp only [List.forall_mem_cons, List.not_mem_nil, false_imp_iff, implies_true, and_true] at hw'; simp only [List.getElem_toArray, List.getElem_cons_succ, List.getElem_cons_zero]; go_simp; first | with_reducible rfl | (simp (disch := omega) only [if_pos, if_neg, Result.andThen_ok]; try with_reducible rfl) | skip)); try simp only [List.getElem_toArray, List.getElem_cons_succ, List.getElem_cons_zero, Act.put, List.setIfInBounds_toArray, List.set_cons_zero, List.set_cons_succ]
      refine planE_eff rfl (by rfl) (fun K hK => ?_)
      go_simp
      refine (TR.out _ hBq).mono ?_
      rintro e w' ⟨rfl, rfl⟩
      refine hK _ _ (by simp [owed, left] <;> (and_intros <;> first | trivial | assumption)) ?_
      clear hK K
      try simp only [List.getElem_toArray, List.getElem_cons_succ, List.getElem_cons_zero, Act.put, List.setIfInBounds_toArray, List.set_cons_zero, List.set_cons_succ]
      iterate 6 (refine planE_pure (v := ?_) rfl (by rfl) (fun w' => ?_) ?_; rotate_left; (focus (simp only [List.getElem_toArray, List.getElem_cons_succ, List.getElem_cons_zero]; go_simp; first | with_reducible rfl | (simp (disch := omega) only [if_pos, if_neg, Result.andThen_ok]; try with_reducible rfl) | skip)); try simp only [List.getElem_toArray, List.getElem_cons_succ, List.getElem_cons_zero, Act.put, List.setIfInBounds_toArray, List.set_cons_zero, List.set_cons_succ])
      refine planE_cells (v := ?_) [(⟨g2, 5, none⟩, .bool s.skew)] (by simp; and_intros <;> assumption) rfl (by rfl) (fun w' hw' => ?_) ?_; rotate_left; (focus (simp only [List.forall_mem_cons, List.not_mem_nil, false_imp_iff, implies_true, and_true] at hw'; simp only [List.getElem_toArray, List.getElem_cons_succ, List.getElem_cons_zero]; go_simp; first | with_reducible rfl | (simp (disch := omega) only [if_pos, if_neg, Result.andThen_ok]; try with_reducible rfl) | skip)); try simp only [List.getElem_toArray, List.getElem_cons_succ, List.getElem_cons_zero, Act.put, List.setIfInBounds_toArray, List.set_cons_zero, List.set_cons_succ]
      iterate 1 (refine planE_pure (v := ?_) rfl (by rfl) (fun w' => ?_) ?_; rotate_left; (focus (simp only [List.getElem_toArray, List.getElem_cons_succ, List.getElem_cons_zero]; go_simp; first | with_reducible rfl | (simp (disch := omega) only [if_pos, if_neg, Result.andThen_ok]; try with_reducible rfl) | skip)); try simp only [List.getElem_toArray, List.getElem_cons_succ, List.getElem_cons_zero, Act.put, List.setIfInBounds_toArray, List.set_cons_zero, List.set_cons_succ])
      refine planE_eff rfl (by rfl) (fun K hK => ?_)
      go_simp
      refine (ST.out _ hBq).mono ?_
      rintro e w' ⟨rfl, rfl⟩
      refine hK _ _ (by simp [owed, left] <;> (and_intros <;> first | trivial | assumption)) ?_
      clear hK K
      try simp only [List.getElem_toArray, List.getElem_cons_succ, List.getElem_cons_zero, Act.put, List.setIfInBounds_toArray, List.set_cons_zero, List.set_cons_succ]
      iterate 3 (refine planE_pure (v := ?_) rfl (by rfl) (fun w' => ?_) ?_; rotate_left; (focus (simp only [List.getElem_toArray, List.getElem_cons_succ, List.getElem_cons_zero]; go_simp; first | with_reducible rfl | (simp (disch := omega) only [if_pos, if_neg, Result.andThen_ok]; try with_reducible rfl) | skip)); try simp only [List.getElem_toArray, List.getElem_cons_succ, List.getElem_cons_zero, Act.put, List.setIfInBounds_toArray, List.set_cons_zero, List.set_cons_succ])
      refine planE_end ?_
      go_wp2_with fail
      go_ret
      exact ⟨rfl, hBq⟩

/-- What an act makes of the clocks. -/
def actS (s : Clk) (kind x k : Int) (draw : Nat) : Clk := if kind = 1 then passS s k draw else if kind = 2 then tickS s x k else s
def BothC (n g g2 : Nat) (s : Clk) (w : World) (e : Ending) (w' : World) : Prop := e = .returned (.bool true) ∧ CI n w' g s ∧ WI n w' g2 s ∧ Below n w w'

set_option maxRecDepth 20000 in
set_option maxHeartbeats 4000000 in
theorem clockAct (kind x k : Int) (draw : Nat) (h : CI n w g s) (r : WI n w g2 s) (hn : n ≤ w.heap.size) (hx : -9223372036854775808 ≤ x ∧ x ≤ 9223372036854775807) (hd : draw < 18446744073709551616) :
    Calls Try.prog 35 #[.pointer (some ⟨g, 0, none⟩), .pointer (some ⟨g2, 0, none⟩), .agg #[.int .i64 kind, .int .i64 x, .int .i64 k, .int .u64 (draw : Int)]] w (BothC n g g2 (actS s kind x k draw) w) := by
  have hal : Below w.heap.size w (w.alloc (.cells #[.int .i64 kind, .int .i64 x, .int .i64 k, .int .u64 (draw : Int)] 50)) := (Below.refl _ _).alloc (Nat.le_refl _) _
  have hX := Blk.new w #[.int .i64 kind, .int .i64 x, .int .i64 k, .int .u64 (draw : Int)] 50
  have h1 := h.below hal
  have r1 := r.below hal
  have hB1 := hal.mono hn
  have hn1 := Nat.le_trans hn hal.size
  obtain ⟨xb, hxb⟩ : ∃ xb, xb = w.heap.size := ⟨_, rfl⟩
  rw [← hxb] at hX
  have HXB := Lib.hid hxb
  clear h r hal hxb
  have x0 := hX.cell 0 rfl
  by_cases k1 : kind = 1
  · subst k1
    rw [actS, if_pos rfl]
    go_enter Try.func35, Try.ntmps35
    go_wp2_with fail
    rw [← HXB.out]
    generalize w.alloc (.cells #[.int .i64 1, .int .i64 x, .int .i64 k, .int .u64 (draw : Int)] 50) = w1 at *
    go_wp2_with fail
    refine wp_region_planE_gen (by kernel_rfl) [(0, none), (1, none), (2, none), (3, none), (4, none), (6, none), (7, none), (8, none), (9, none), (10, none), (5, some [0, 2, 4]), (11, some [6, 8, 10]), (12, none), (13, none)] (by kernel_rfl) (by kernel_rfl) (by decide) ?_
    intro wq hwq
    have hBq : Below w1.heap.size w1 wq := by rw [hwq]; exact (Below.refl _ _).drew
    have hq := h1.below hBq
    have rq := r1.below hBq
    have Xq := hX.kept hBq
    have hB2 := hB1.trans (hBq.mono hn1)
    have hn2 := Nat.le_trans hn1 hBq.size
    have y2 := Xq.cell 2 rfl
    have y3 := Xq.cell 3 rfl
    clear hwq x0 h1 r1 hX hBq
    iterate 2 (refine planE_pure (v := ?_) rfl (by rfl) (fun w' => ?_) ?_; rotate_left; (focus (simp only [List.getElem_toArray, List.getElem_cons_succ, List.getElem_cons_zero]; go_simp; first | with_reducible rfl | (simp (disch := omega) only [if_pos, if_neg, Result.andThen_ok]; try with_reducible rfl) | skip)); try simp only [List.getElem_toArray, List.getElem_cons_succ, List.getElem_cons_zero, Act.put, List.setIfInBounds_toArray, List.set_cons_zero, List.set_cons_succ])
    refine planE_cells (v := ?_) [(⟨xb, 2, none⟩, .int .i64 k)] (by simp; and_intros <;> assumption) rfl (by rfl) (fun w' hw' => ?_) ?_; rotate_left; (focus (simp only [List.forall_mem_cons, List.not_mem_nil, false_imp_iff, implies_true, and_true] at hw'; simp only [List.getElem_toArray, List.getElem_cons_succ, List.getElem_cons_zero]; go_simp; first | with_reducible rfl | (simp (disch := omega) only [if_pos, if_neg, Result.andThen_ok]; try with_reducible rfl) | skip)); try simp only [List.getElem_toArray, List.getElem_cons_succ, List.getElem_cons_zero, Act.put, List.setIfInBounds_toArray, List.set_cons_zero, List.set_cons_succ]
    iterate 1 (refine planE_pure (v := ?_) rfl (by rfl) (fun w' => ?_) ?_; rotate_left; (focus (simp only [List.getElem_toArray, List.getElem_cons_succ, List.getElem_cons_zero]; go_simp; first | with_reducible rfl | (simp (disch := omega) only [if_pos, if_neg, Result.andThen_ok]; try with_reducible rfl) | skip)); try simp only [List.getElem_toArray, List.getElem_cons_succ, List.getElem_cons_zero, Act.put, List.setIfInBounds_toArray, List.set_cons_zero, List.set_cons_succ])
    refine planE_cells (v := ?_) [(⟨xb, 3, none⟩, .int .u64 (draw : Int))] (by simp; and_intros <;> assumption) rfl (by rfl) (fun w' hw' => ?_) ?_; rotate_left; (focus (simp only [List.forall_mem_cons, List.not_mem_nil, false_imp_iff, implies_true, and_true] at hw'; simp only [List.getElem_toArray, List.getElem_cons_succ, List.getElem_cons_zero]; go_simp; first | with_reducible rfl | (simp (disch := omega) only [if_pos, if_neg, Result.andThen_ok]; try with_reducible rfl) | skip)); try simp only [List.getElem_toArray, List.getElem_cons_succ, List.getElem_cons_zero, Act.put, List.setIfInBounds_toArray, List.set_cons_zero, List.set_cons_succ]
    iterate 2 (refine planE_pure (v := ?_) rfl (by rfl) (fun w' => ?_) ?_; rotate_left; (focus (simp only [List.getElem_toArray, List.getElem_cons_succ, List.getElem_cons_zero]; go_simp; first | with_reducible rfl | (simp (disch := omega) only [if_pos, if_neg, Result.andThen_ok]; try with_reducible rfl) | skip)); try simp only [List.getElem_toArray, List.getElem_cons_succ, List.getElem_cons_zero, Act.put, List.setIfInBounds_toArray, List.set_cons_zero, List.set_cons_succ])
    refine planE_cells (v := ?_) [(⟨xb, 2, none⟩, .int .i64 k)] (by simp; and_intros <;> assumption) rfl (by rfl) (fun w' hw' => ?_) ?_; rotate_left; (focus (simp only [List.forall_mem_cons, List.not_mem_nil, false_imp_iff, implies_true, and_true] at hw'; simp only [List.getElem_toArray, List.getElem_cons_succ, List.getElem_cons_zero]; go_simp; first | with_reducible rfl | (simp (disch := omega) only [if_pos, if_neg, Result.andThen_ok]; try with_reducible rfl) | skip)); try simp only [List.getElem_toArray, List.getElem_cons_succ, List.getElem_cons_zero, Act.put, List.setIfInBounds_toArray, List.set_cons_zero, List.set_cons_succ]
    iterate 1 (refine planE_pure (v := ?_) rfl (by rfl) (fun w' => ?_) ?_; rotate_left; (focus (simp only [List.getElem_toArray, List.getElem_cons_succ, List.getElem_cons_zero]; go_simp; first | with_reducible rfl | (simp (disch := omega) only [if_pos, if_neg, Result.andThen_ok]; try with_reducible rfl) | skip)); try simp only [List.getElem_toArray, List.getElem_cons_succ, List.getElem_cons_zero, Act.put, List.setIfInBounds_toArray, List.set_cons_zero, List.set_cons_succ])
    refine planE_cells (v := ?_) [(⟨xb, 3, none⟩, .int .u64 (draw : Int))] (by simp; and_intros <;> assumption) rfl (by rfl) (fun w' hw' => ?_) ?_; rotate_left; (focus (simp only [List.forall_mem_cons, List.not_mem_nil, false_imp_iff, implies_true, and_true] at hw'; simp only [List.getElem_toArray, List.getElem_cons_succ, List.getElem_cons_zero]; go_simp; first | with_reducible rfl | (simp (disch := omega) only [if_pos, if_neg, Result.andThen_ok]; try with_reducible rfl) | skip)); try simp only [List.getElem_toArray, List.getElem_cons_succ, List.getElem_cons_zero, Act.put, List.setIfInBounds_toArray, List.set_cons_zero, List.set_cons_succ]
    refine planE_eff rfl (by rfl) (fun K hK => ?_)
    go_simp
    refine (clockPass k draw hq hn2 hd).mono ?_
    rintro e w3 ⟨rfl, h3, hk3⟩
    have r3 := rq.tm hk3.tm
    have X3 := Xq.tm hk3.tm (by simp [badC])
    have hB3 := hB2.trans hk3.below
    have hn3 := Nat.le_trans hn2 hk3.below.size
    clear y2 y3 hq rq Xq hk3 hB2
    have y2 := X3.cell 2 rfl
    have y3 := X3.cell 3 rfl
    refine hK _ _ (by simp [owed, left] <;> (and_intros <;> first | trivial | assumption)) ?_
    clear hK K
    try simp only [List.getElem_toArray, List.getElem_cons_succ, List.getElem_cons_zero, Act.put, List.setIfInBounds_toArray, List.set_cons_zero, List.set_cons_succ]
    refine planE_eff rfl (by rfl) (fun K hK => ?_)
    go_simp
    refine (refPass k draw r3 hn3 hd).mono ?_
    rintro e w4 ⟨rfl, r4, hk4⟩
    have h4 := h3.tm hk4.tm
    have X4 := X3.tm hk4.tm (by simp [badW])
    have hB4 := hB3.trans hk4.below
    clear y2 y3 h3 r3 X3 hk4 hB3
    have y2 := X4.cell 2 rfl
    have y3 := X4.cell 3 rfl
    refine hK _ _ (by simp [owed, left] <;> (and_intros <;> first | trivial | assumption)) ?_
    clear hK K
    try simp only [List.getElem_toArray, List.getElem_cons_succ, List.getElem_cons_zero, Act.put, List.setIfInBounds_toArray, List.set_cons_zero, List.set_cons_succ]
    iterate 2 (refine planE_pure (v := ?_) rfl (by rfl) (fun w' => ?_) ?_; rotate_left; (focus (simp only [List.getElem_toArray, List.getElem_cons_succ, List.getElem_cons_zero]; go_simp; first | with_reducible rfl | (simp (disch := omega) only [if_pos, if_neg, Result.andThen_ok]; try with_reducible rfl) | skip)); try simp only [List.getElem_toArray, List.getElem_cons_succ, List.getElem_cons_zero, Act.put, List.setIfInBounds_toArray, List.set_cons_zero, List.set_cons_succ])
    refine planE_end ?_
    have HF : Hid (BothC n g g2 (passS s k draw) w (.returned (.bool true)) w4) := Lib.hid ⟨rfl, h4, r4, hB4⟩
    clear y2 y3 h4 r4 X4 hB4
    go_wp2_with fail
    go_ret
    exact HF.out
  · have k1' : (kind == 1) = false := by simpa using k1
    rw [actS, if_neg k1]
    by_cases k2 : kind = 2
    · subst k2
      rw [if_pos rfl]
      clear k1
      go_enter Try.func35, Try.ntmps35
      go_wp2_with fail
      rw [← HXB.out]
      generalize w.alloc (.cells #[.int .i64 2, .int .i64 x, .int .i64 k, .int .u64 (draw : Int)] 50) = w1 at *
      go_wp2_with fail
      refine wp_region_planE_gen (by kernel_rfl) [(0, none), (1, none), (2, none), (3, none), (4, none), (6, none), (7, none), (8, none), (9, none), (10, none), (5, some [0, 2, 4]), (11, some [6, 8, 10]), (12, none), (13, none)] (by kernel_rfl) (by kernel_rfl) (by decide) ?_
      intro wq hwq
      have hBq : Below w1.heap.size w1 wq := by rw [hwq]; exact (Below.refl _ _).drew
      have hq := h1.below hBq
      have rq := r1.below hBq
      have Xq := hX.kept hBq
      have hB2 := hB1.trans (hBq.mono hn1)
      have hn2 := Nat.le_trans hn1 hBq.size
      have y1 := Xq.cell 1 rfl
      have y2 := Xq.cell 2 rfl
      clear hwq x0 h1 r1 hX hBq
      iterate 2 (refine planE_pure (v := ?_) rfl (by rfl) (fun w' => ?_) ?_; rotate_left; (focus (simp only [List.getElem_toArray, List.getElem_cons_succ, List.getElem_cons_zero]; go_simp; first | with_reducible rfl | (simp (disch := omega) only [if_pos, if_neg, Result.andThen_ok]; try with_reducible rfl) | skip)); try simp only [List.getElem_toArray, List.getElem_cons_succ, List.getElem_cons_zero, Act.put, List.setIfInBounds_toArray, List.set_cons_zero, List.set_cons_succ])
      refine planE_cells (v := ?_) [(⟨xb, 1, none⟩, .int .i64 x)] (by simp; and_intros <;> assumption) rfl (by rfl) (fun w' hw' => ?_) ?_; rotate_left; (focus (simp only [List.forall_mem_cons, List.not_mem_nil, false_imp_iff, implies_true, and_true] at hw'; simp only [List.getElem_toArray, List.getElem_cons_succ, List.getElem_cons_zero]; go_simp; first | with_reducible rfl | (simp (disch := omega) only [if_pos, if_neg, Result.andThen_ok]; try with_reducible rfl) | skip)); try simp only [List.getElem_toArray, List.getElem_cons_succ, List.getElem_cons_zero, Act.put, List.setIfInBounds_toArray, List.set_cons_zero, List.set_cons_succ]
      iterate 1 (refine planE_pure (v := ?_) rfl (by rfl) (fun w' => ?_) ?_; rotate_left; (focus (simp only [List.getElem_toArray, List.getElem_cons_succ, List.getElem_cons_zero]; go_simp; first | with_reducible rfl | (simp (disch := omega) only [if_pos, if_neg, Result.andThen_ok]; try with_reducible rfl) | skip)); try simp only [List.getElem_toArray, List.getElem_cons_succ, List.getElem_cons_zero, Act.put, List.setIfInBounds_toArray, List.set_cons_zero, List.set_cons_succ])
      refine planE_cells (v := ?_) [(⟨xb, 2, none⟩, .int .i64 k)] (by simp; and_intros <;> assumption) rfl (by rfl) (fun w' hw' => ?_) ?_; rotate_left; (focus (simp only [List.forall_mem_cons, List.not_mem_nil, false_imp_iff, implies_true, and_true] at hw'; simp only [List.getElem_toArray, List.getElem_cons_succ, List.getElem_cons_zero]; go_simp; first | with_reducible rfl | (simp (disch := omega) only [if_pos, if_neg, Result.andThen_ok]; try with_reducible rfl) | skip)); try simp only [List.getElem_toArray, List.getElem_cons_succ, List.getElem_cons_zero, Act.put, List.setIfInBounds_toArray, List.set_cons_zero, List.set_cons_succ]
      iterate 2 (refine planE_pure (v := ?_) rfl (by rfl) (fun w' => ?_) ?_; rotate_left; (focus (simp only [List.getElem_toArray, List.getElem_cons_succ, List.getElem_cons_zero]; go_simp; first | with_reducible rfl | (simp (disch := omega) only [if_pos, if_neg, Result.andThen_ok]; try with_reducible rfl) | skip)); try simp only [List.getElem_toArray, List.getElem_cons_succ, List.getElem_cons_zero, Act.put, List.setIfInBounds_toArray, List.set_cons_zero, List.set_cons_succ])
      refine planE_cells (v := ?_) [(⟨xb, 1, none⟩, .int .i64 x)] (by simp; and_intros <;> assumption) rfl (by rfl) (fun w' hw' => ?_) ?_; rotate_left; (focus (simp only [List.forall_mem_cons, List.not_mem_nil, false_imp_iff, implies_true, and_true] at hw'; simp only [List.getElem_toArray, List.getElem_cons_succ, List.getElem_cons_zero]; go_simp; first | with_reducible rfl | (simp (disch := omega) only [if_pos, if_neg, Result.andThen_ok]; try with_reducible rfl) | skip)); try simp only [List.getElem_toArray, List.getElem_cons_succ, List.getElem_cons_zero, Act.put, List.setIfInBounds_toArray, List.set_cons_zero, List.set_cons_succ]
      iterate 1 (refine planE_pure (v := ?_) rfl (by rfl) (fun w' => ?_) ?_; rotate_left; (focus (simp only [List.getElem_toArray, List.getElem_cons_succ, List.getElem_cons_zero]; go_simp; first | with_reducible rfl | (simp (disch := omega) only [if_pos, if_neg, Result.andThen_ok]; try with_reducible rfl) | skip)); try simp only [List.getElem_toArray, List.getElem_cons_succ, List.getElem_cons_zero, Act.put, List.setIfInBounds_toArray, List.set_cons_zero, List.set_cons_succ])
      refine planE_cells (v := ?_) [(⟨xb, 2, none⟩, .int .i64 k)] (by simp; and_intros <;> assumption) rfl (by rfl) (fun w' hw' => ?_) ?_; rotate_left; (focus (simp only [List.forall_mem_cons, List.not_mem_nil, false_imp_iff, implies_true, and_true] at hw'; simp only [List.getElem_toArray, List.getElem_cons_succ, List.getElem_cons_zero]; go_simp; first | with_reducible rfl | (simp (disch := omega) only [if_pos, if_neg, Result.andThen_ok]; try with_reducible rfl) | skip)); try simp only [List.getElem_toArray, List.getElem_cons_succ, List.getElem_cons_zero, Act.put, List.setIfInBounds_toArray, List.set_cons_zero, List.set_cons_succ]
      refine planE_eff rfl (by rfl) (fun K hK => ?_)
      go_simp
      refine (clockTick x k hq hn2).mono ?_
      rintro e w3 ⟨rfl, h3, hk3⟩
      have r3 := rq.tm hk3.tm
      have X3 := Xq.tm hk3.tm (by simp [badC])
      have hB3 := hB2.trans hk3.below
      have hn3 := Nat.le_trans hn2 hk3.below.size
      clear y1 y2 hq rq Xq hk3 hB2
      have y1 := X3.cell 1 rfl
      have y2 := X3.cell 2 rfl
      refine hK _ _ (by simp [owed, left] <;> (and_intros <;> first | trivial | assumption)) ?_
      clear hK K
      try simp only [List.getElem_toArray, List.getElem_cons_succ, List.getElem_cons_zero, Act.put, List.setIfInBounds_toArray, List.set_cons_zero, List.set_cons_succ]
      refine planE_eff rfl (by rfl) (fun K hK => ?_)
      go_simp
      refine (refTick x k r3 hn3 hx).mono ?_
      rintro e w4 ⟨rfl, r4, hk4⟩
      have h4 := h3.tm hk4.tm
      have X4 := X3.tm hk4.tm (by simp [badW])
      have hB4 := hB3.trans hk4.below
      clear y1 y2 h3 r3 X3 hk4 hB3
      have y1 := X4.cell 1 rfl
      have y2 := X4.cell 2 rfl
      refine hK _ _ (by simp [owed, left] <;> (and_intros <;> first | trivial | assumption)) ?_
      clear hK K
      try simp only [List.getElem_toArray, List.getElem_cons_succ, List.getElem_cons_zero, Act.put, List.setIfInBounds_toArray, List.set_cons_zero, List.set_cons_succ]
      iterate 2 (refine planE_pure (v := ?_) rfl (by rfl) (fun w' => ?_) ?_; rotate_left; (focus (simp only [List.getElem_toArray, List.getElem_cons_succ, List.getElem_cons_zero]; go_simp; first | with_reducible rfl | (simp (disch := omega) only [if_pos, if_neg, Result.andThen_ok]; try with_reducible rfl) | skip)); try simp only [List.getElem_toArray, List.getElem_cons_succ, List.getElem_cons_zero, Act.put, List.setIfInBounds_toArray, List.set_cons_zero, List.set_cons_succ])
      refine planE_end ?_
      have HF : Hid (BothC n g g2 (tickS s x k) w (.returned (.bool true)) w4) := Lib.hid ⟨rfl, h4, r4, hB4⟩
      clear y1 y2 h4 r4 X4 hB4
      go_wp2_with fail
      go_ret
      exact HF.out
    · have k2' : (kind == 2) = false := by simpa using k2
      rw [if_neg k2]
      have HF : Hid (BothC n g g2 s w (.returned (.bool true)) (w.alloc (.cells #[.int .i64 kind, .int .i64 x, .int .i64 k, .int .u64 (draw : Int)] 50))) := Lib.hid ⟨rfl, h1, r1, hB1⟩
      clear k1 k2 h1 r1 hB1
      rw [HXB.out] at x0
      go_enter Try.func35, Try.ntmps35
      go_wp2_with fail
      go_ret
      exact HF.out
end
end Go.Proofs.Ytekkcbonkjdgeaa
