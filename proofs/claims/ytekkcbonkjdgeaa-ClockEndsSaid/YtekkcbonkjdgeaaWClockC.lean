/- The walk of ClockEnds. -/
import Derived.Test.YtekkcbonkjdgeaaWClockA
namespace Go.Proofs.Ytekkcbonkjdgeaa
open Go.RowKit

/-- What the two acts answer, and what is left. -/
def Ends (n x : Int) (d : Nat) (E1 E2 : Int) (sk : Bool) : Prop :=
  passE (clk0 2 1 500000) n d = E1 ∧ tickE (passS (clk0 2 1 500000) n d) x n = E2 ∧ (tickS (passS (clk0 2 1 500000) n d) x n).skew = sk ∧ (tickS (passS (clk0 2 1 500000) n d) x n).real = (passS (clk0 2 1 500000) n d).real
theorem ends_out {n x : Int} {d : Nat} (h : n < 0 ∨ 1099511627776 < n) : Ends n x d 1 1 false := by
  have h1 : passE (clk0 2 1 500000) n d = 1 := by rw [passE, if_pos h]
  have h2 : passS (clk0 2 1 500000) n d = clk0 2 1 500000 := by rw [passS, h1]; rfl
  have h3 : tickE (clk0 2 1 500000) x n = 1 := by rw [tickE, if_pos h]
  have h4 : tickS (clk0 2 1 500000) x n = clk0 2 1 500000 := by rw [tickS, h3]; rfl
  rw [Ends, h2]
  exact ⟨h1, h3, by rw [h4]; rfl, by rw [h4]⟩
theorem ends_pass {n : Int} {d : Nat} (h0 : 0 ≤ n) (h1 : n ≤ 1099511627776) : passE (clk0 2 1 500000) n d = 0 := by
  have hg : Good n 500000 := ⟨h0, h1, by omega, by omega⟩
  have hlm := least_le_most hg
  rw [passE, if_neg (by omega), overB_not]
  · rfl
  · intro x _
    have := step_bd hg d x
    simp only [clk0]
    omega
  · simp only [clk0]; omega
theorem ends_in (x : Int) : inE 2 1 x = decide (x = 1 ∨ x = 2 ∨ x = -1) := by
  unfold inE
  rw [Bool.eq_iff_iff]
  simp
  omega
theorem ends_named {n x : Int} {d : Nat} (h0 : 0 ≤ n) (h1 : n ≤ 1099511627776) (hx : x = 1 ∨ x = 2 ∨ x = -1) : Ends n x d 0 0 (decide (0 < n)) := by
  have hp := ends_pass (d := d) h0 h1
  have hg : Good n 500000 := ⟨h0, h1, by omega, by omega⟩
  have hlm := least_le_most hg
  have hst := step_bd hg d x
  have hT : (passS (clk0 2 1 500000) n d).T x = stepV n 500000 d x := by rw [passS, if_pos hp]; simp [clk0]
  have hI : inE (passS (clk0 2 1 500000) n d).nodes (passS (clk0 2 1 500000) n d).edges x = true := by
    rw [passS, if_pos hp]
    show inE 2 1 x = true
    rw [ends_in]; simpa using hx
  have ht : tickE (passS (clk0 2 1 500000) n d) x n = 0 := by
    rw [tickE, if_neg (by omega), if_pos hI, if_neg (by rw [hT]; omega)]
  refine ⟨hp, ht, ?_, ?_⟩
  · rw [tickS, if_pos ht, passS, if_pos hp]; simp [clk0]
  · rw [tickS, if_pos ht]
theorem ends_not {n x : Int} {d : Nat} (h0 : 0 ≤ n) (h1 : n ≤ 1099511627776) (hx : ¬ (x = 1 ∨ x = 2 ∨ x = -1)) : Ends n x d 0 1 false := by
  have hp := ends_pass (d := d) h0 h1
  have ht : tickE (passS (clk0 2 1 500000) n d) x n = 1 := by
    rw [passS, if_pos hp, tickE, if_neg (by omega)]
    simp only [clk0, ends_in]
    rw [if_neg (by simpa using hx)]
  refine ⟨hp, ht, ?_, ?_⟩
  · rw [tickS, ht, if_neg (by decide), passS, if_pos hp]; rfl
  · rw [tickS, ht, if_neg (by decide)]

set_option maxHeartbeats 1000000 in
theorem clockPass_nil (k d : Int) (w : World) : Calls Try.prog 28 #[.pointer none, .int .i64 k, .int .u64 d] w fun e w' => e = .returned (.int .i64 1) ∧ w = w' := by
  go_enter Try.func28, Try.ntmps28
  go_wp2_with fail
  go_ret
  exact ⟨rfl, rfl⟩
set_option maxHeartbeats 1000000 in
theorem clockTick_nil (x k : Int) (w : World) : Calls Try.prog 37 #[.pointer none, .int .i64 x, .int .i64 k] w fun e w' => e = .returned (.int .i64 1) ∧ w = w' := by
  go_enter Try.func37, Try.ntmps37
  go_wp2_with fail
  go_ret
  exact ⟨rfl, rfl⟩
theorem pass_back (s : Clk) (d : Nat) : passE s (-1) d = 1 ∧ passS s (-1) d = s := by
  have h1 : passE s (-1) d = 1 := by rw [passE, if_pos (by omega)]
  exact ⟨h1, by rw [passS, h1]; rfl⟩

set_option maxRecDepth 20000 in
set_option maxHeartbeats 16000000 in
theorem walkClockEnds (n : Int) (d : Nat) (x : Int) (w : World) (_h1 : I64 n) (hd : d < 18446744073709551616) (_h3 : I64 x) :
    Calls Try.prog 11 #[.int .i64 n, .int .u64 (d : Int), .int .i64 x] w (Yes w) := by
  have S := Lib.hid clockAnswers
  have N := Lib.hid (clockNew 2 1 500000 w (by decide))
  have P : Hid (∀ w' g, CI w.heap.size w' g (clk0 2 1 500000) → w.heap.size ≤ w'.heap.size → Calls Try.prog 28 #[.pointer (some ⟨g, 0, none⟩), .int .i64 n, .int .u64 (d : Int)] w' fun e w'' => e = .returned (.int .i64 (passE (clk0 2 1 500000) n d)) ∧ CI w.heap.size w'' g (passS (clk0 2 1 500000) n d) ∧ Keep badC w.heap.size w' w'') := Lib.hid fun w' g h hn => clockPass n d h hn hd
  have T : Hid (∀ w' g s, CI w.heap.size w' g s → w.heap.size ≤ w'.heap.size → Calls Try.prog 37 #[.pointer (some ⟨g, 0, none⟩), .int .i64 x, .int .i64 n] w' fun e w'' => e = .returned (.int .i64 (tickE s x n)) ∧ CI w.heap.size w'' g (tickS s x n) ∧ Keep badC w.heap.size w' w'') := Lib.hid fun w' g s h hn => clockTick x n h hn
  have Q : Hid (∀ w' g s, CI w.heap.size w' g s → w.heap.size ≤ w'.heap.size → Calls Try.prog 28 #[.pointer (some ⟨g, 0, none⟩), .int .i64 (-1), .int .u64 (d : Int)] w' fun e w'' => e = .returned (.int .i64 1) ∧ CI w.heap.size w'' g s ∧ Keep badC w.heap.size w' w'') := Lib.hid fun w' g s h hn => by
    have := clockPass (-1) d h hn hd
    rw [(pass_back s d).1, (pass_back s d).2] at this
    exact this
  have TN := Lib.hid (fun w' => clockTrue_nil (w := w'))
  have SN := Lib.hid (fun w' => clockSteady_nil (w := w'))
  have NN := Lib.hid (fun w' => clockNow_nil (w := w') 1)
  have CN := Lib.hid (fun w' => clockCopy_nil (w := w'))
  have PN := Lib.hid (fun w' => clockPass_nil 1 0 w')
  have KN := Lib.hid (fun w' => clockTick_nil 1 1 w')
  clear hd
  have hcase : ((n < 0 ∨ 1099511627776 < n) ∧ Ends n x d 1 1 false) ∨ (0 ≤ n ∧ n ≤ 1099511627776 ∧ (x = 1 ∨ x = 2 ∨ x = -1) ∧ Ends n x d 0 0 (decide (0 < n))) ∨ (0 ≤ n ∧ n ≤ 1099511627776 ∧ ¬ (x = 1 ∨ x = 2 ∨ x = -1) ∧ Ends n x d 0 1 false) := by
    by_cases h : n < 0 ∨ 1099511627776 < n
    · exact .inl ⟨h, ends_out h⟩
    · by_cases hx : x = 1 ∨ x = 2 ∨ x = -1
      · exact .inr (.inl ⟨by omega, by omega, hx, ends_named (by omega) (by omega) hx⟩)
      · exact .inr (.inr ⟨by omega, by omega, hx, ends_not (by omega) (by omega) hx⟩)
  rcases hcase with ⟨hn, K⟩ | ⟨n0, n1, hx, K⟩ | ⟨n0, n1, hx, K⟩
  · have hx : x = 1 ∨ x = 2 ∨ x = -1 ∨ ((x == 1) = false ∧ (x == 2) = false ∧ (x == -1) = false) := by simp; omega
    obtain ⟨k1, k2, k3, k4⟩ := K
    generalize hs1 : passS (clk0 2 1 500000) n d = s1 at *
    generalize hs2 : tickS s1 x n = s2 at *
    rw [k1] at P
    have T := Lib.hid (fun w' g h hn => T.out w' g s1 h hn)
    rw [k2, hs2] at T
    have K3 := Lib.hid k3
    have K4 := Lib.hid k4
    clear k1 k2 k3 k4 hs1 hs2
    rcases hn with hn | hn
    all_goals
      rcases hx with rfl | rfl | rfl | ⟨x1, x2, x3⟩
      all_goals
        go_enter Try.func11, Try.ntmps11
        go_wp2_with fail
        refine N.out.mono ?_
        rintro e w1 ⟨g, rfl, hP1, hb1⟩
        go_wp2_with fail
        refine (S.out _).mono ?_
        rintro e w2 ⟨rfl, hb2⟩
        have hP2 := hP1.below hb2
        have hB2 := hb1.trans (hb2.mono hb1.size)
        clear hP1 hb1 hb2 N
        go_wp2_with fail
        refine (P.out _ _ hP2 hB2.size).mono ?_
        rintro e w3 ⟨rfl, hP3, hk3⟩
        have hB3 := hB2.trans hk3.below
        have TR := Lib.hid (clockTrue hP3)
        clear hP2 hB2 hk3 P
        go_wp2_with fail
        refine TR.out.mono ?_
        rintro e w' ⟨rfl, rfl⟩
        clear TR
        go_wp2_with fail
        refine (T.out _ _ hP3 hB3.size).mono ?_
        rintro e w4 ⟨rfl, hP4, hk4⟩
        have hB4 := hB3.trans hk4.below
        clear hP3 hB3 hk4 T
        go_wp2_with fail
        refine (Q.out _ _ _ hP4 hB4.size).mono ?_
        rintro e w5 ⟨rfl, hP5, hk5⟩
        have hB5 := hB4.trans hk5.below
        have TR := Lib.hid (clockTrue hP5)
        have ST := Lib.hid (clockSteady hP5)
        rw [K4.out] at TR
        rw [K3.out] at ST
        clear hP4 hB4 hk5 Q hP5
        go_wp2_with fail
        refine (NN.out _).mono ?_
        rintro e w' ⟨rfl, rfl⟩
        go_wp2_with fail
        refine TR.out.mono ?_
        rintro e w' ⟨rfl, rfl⟩
        go_wp2_with fail
        refine ST.out.mono ?_
        rintro e w' ⟨rfl, rfl⟩
        go_wp2_with fail
        refine (PN.out _).mono ?_
        rintro e w' ⟨rfl, rfl⟩
        go_wp2_with fail
        refine (KN.out _).mono ?_
        rintro e w' ⟨rfl, rfl⟩
        go_wp2_with fail
        refine (TN.out _).mono ?_
        rintro e w' ⟨rfl, rfl⟩
        go_wp2_with fail
        refine (SN.out _).mono ?_
        rintro e w' ⟨rfl, rfl⟩
        go_wp2_with fail
        refine (CN.out _).mono ?_
        rintro e w' ⟨rfl, rfl⟩
        go_wp2_with fail
        go_ret
        exact ⟨rfl, hB5⟩
  · obtain ⟨k1, k2, k3, k4⟩ := K
    generalize hs1 : passS (clk0 2 1 500000) n d = s1 at *
    generalize hs2 : tickS s1 x n = s2 at *
    rw [k1] at P
    have T := Lib.hid (fun w' g h hn => T.out w' g s1 h hn)
    rw [k2, hs2] at T
    have K4 := Lib.hid k4
    by_cases hz : 0 < n
    · rw [decide_eq_true hz] at k3
      have K3 := Lib.hid k3
      clear k1 k2 k3 k4 hs1 hs2
      rcases hx with rfl | rfl | rfl
      all_goals
        go_enter Try.func11, Try.ntmps11
        go_wp2_with fail
        refine N.out.mono ?_
        rintro e w1 ⟨g, rfl, hP1, hb1⟩
        go_wp2_with fail
        refine (S.out _).mono ?_
        rintro e w2 ⟨rfl, hb2⟩
        have hP2 := hP1.below hb2
        have hB2 := hb1.trans (hb2.mono hb1.size)
        clear hP1 hb1 hb2 N
        go_wp2_with fail
        refine (P.out _ _ hP2 hB2.size).mono ?_
        rintro e w3 ⟨rfl, hP3, hk3⟩
        have hB3 := hB2.trans hk3.below
        have TR := Lib.hid (clockTrue hP3)
        clear hP2 hB2 hk3 P
        go_wp2_with fail
        refine TR.out.mono ?_
        rintro e w' ⟨rfl, rfl⟩
        clear TR
        go_wp2_with fail
        refine (T.out _ _ hP3 hB3.size).mono ?_
        rintro e w4 ⟨rfl, hP4, hk4⟩
        have hB4 := hB3.trans hk4.below
        clear hP3 hB3 hk4 T
        go_wp2_with fail
        refine (Q.out _ _ _ hP4 hB4.size).mono ?_
        rintro e w5 ⟨rfl, hP5, hk5⟩
        have hB5 := hB4.trans hk5.below
        have TR := Lib.hid (clockTrue hP5)
        have ST := Lib.hid (clockSteady hP5)
        rw [K4.out] at TR
        rw [K3.out] at ST
        clear hP4 hB4 hk5 Q hP5
        go_wp2_with fail
        refine (NN.out _).mono ?_
        rintro e w' ⟨rfl, rfl⟩
        go_wp2_with fail
        refine TR.out.mono ?_
        rintro e w' ⟨rfl, rfl⟩
        go_wp2_with fail
        refine ST.out.mono ?_
        rintro e w' ⟨rfl, rfl⟩
        go_wp2_with fail
        refine (PN.out _).mono ?_
        rintro e w' ⟨rfl, rfl⟩
        go_wp2_with fail
        refine (KN.out _).mono ?_
        rintro e w' ⟨rfl, rfl⟩
        go_wp2_with fail
        refine (TN.out _).mono ?_
        rintro e w' ⟨rfl, rfl⟩
        go_wp2_with fail
        refine (SN.out _).mono ?_
        rintro e w' ⟨rfl, rfl⟩
        go_wp2_with fail
        refine (CN.out _).mono ?_
        rintro e w' ⟨rfl, rfl⟩
        go_wp2_with fail
        go_ret
        exact ⟨rfl, hB5⟩
    · rw [decide_eq_false hz] at k3
      have K3 := Lib.hid k3
      clear k1 k2 k3 k4 hs1 hs2
      obtain rfl : n = 0 := by omega
      rcases hx with rfl | rfl | rfl
      all_goals
        go_enter Try.func11, Try.ntmps11
        go_wp2_with fail
        refine N.out.mono ?_
        rintro e w1 ⟨g, rfl, hP1, hb1⟩
        go_wp2_with fail
        refine (S.out _).mono ?_
        rintro e w2 ⟨rfl, hb2⟩
        have hP2 := hP1.below hb2
        have hB2 := hb1.trans (hb2.mono hb1.size)
        clear hP1 hb1 hb2 N
        go_wp2_with fail
        refine (P.out _ _ hP2 hB2.size).mono ?_
        rintro e w3 ⟨rfl, hP3, hk3⟩
        have hB3 := hB2.trans hk3.below
        have TR := Lib.hid (clockTrue hP3)
        clear hP2 hB2 hk3 P
        go_wp2_with fail
        refine TR.out.mono ?_
        rintro e w' ⟨rfl, rfl⟩
        clear TR
        go_wp2_with fail
        refine (T.out _ _ hP3 hB3.size).mono ?_
        rintro e w4 ⟨rfl, hP4, hk4⟩
        have hB4 := hB3.trans hk4.below
        clear hP3 hB3 hk4 T
        go_wp2_with fail
        refine (Q.out _ _ _ hP4 hB4.size).mono ?_
        rintro e w5 ⟨rfl, hP5, hk5⟩
        have hB5 := hB4.trans hk5.below
        have TR := Lib.hid (clockTrue hP5)
        have ST := Lib.hid (clockSteady hP5)
        rw [K4.out] at TR
        rw [K3.out] at ST
        clear hP4 hB4 hk5 Q hP5
        go_wp2_with fail
        refine (NN.out _).mono ?_
        rintro e w' ⟨rfl, rfl⟩
        go_wp2_with fail
        refine TR.out.mono ?_
        rintro e w' ⟨rfl, rfl⟩
        go_wp2_with fail
        refine ST.out.mono ?_
        rintro e w' ⟨rfl, rfl⟩
        go_wp2_with fail
        refine (PN.out _).mono ?_
        rintro e w' ⟨rfl, rfl⟩
        go_wp2_with fail
        refine (KN.out _).mono ?_
        rintro e w' ⟨rfl, rfl⟩
        go_wp2_with fail
        refine (TN.out _).mono ?_
        rintro e w' ⟨rfl, rfl⟩
        go_wp2_with fail
        refine (SN.out _).mono ?_
        rintro e w' ⟨rfl, rfl⟩
        go_wp2_with fail
        refine (CN.out _).mono ?_
        rintro e w' ⟨rfl, rfl⟩
        go_wp2_with fail
        go_ret
        exact ⟨rfl, hB5⟩
  · have hx : (x == 1) = false ∧ (x == 2) = false ∧ (x == -1) = false := by simp; omega
    obtain ⟨x1, x2, x3⟩ := hx
    obtain ⟨k1, k2, k3, k4⟩ := K
    generalize hs1 : passS (clk0 2 1 500000) n d = s1 at *
    generalize hs2 : tickS s1 x n = s2 at *
    rw [k1] at P
    have T := Lib.hid (fun w' g h hn => T.out w' g s1 h hn)
    rw [k2, hs2] at T
    have K3 := Lib.hid k3
    have K4 := Lib.hid k4
    clear k1 k2 k3 k4 hs1 hs2
    go_enter Try.func11, Try.ntmps11
    go_wp2_with fail
    refine N.out.mono ?_
    rintro e w1 ⟨g, rfl, hP1, hb1⟩
    go_wp2_with fail
    refine (S.out _).mono ?_
    rintro e w2 ⟨rfl, hb2⟩
    have hP2 := hP1.below hb2
    have hB2 := hb1.trans (hb2.mono hb1.size)
    clear hP1 hb1 hb2 N
    go_wp2_with fail
    refine (P.out _ _ hP2 hB2.size).mono ?_
    rintro e w3 ⟨rfl, hP3, hk3⟩
    have hB3 := hB2.trans hk3.below
    have TR := Lib.hid (clockTrue hP3)
    clear hP2 hB2 hk3 P
    go_wp2_with fail
    refine TR.out.mono ?_
    rintro e w' ⟨rfl, rfl⟩
    clear TR
    go_wp2_with fail
    refine (T.out _ _ hP3 hB3.size).mono ?_
    rintro e w4 ⟨rfl, hP4, hk4⟩
    have hB4 := hB3.trans hk4.below
    clear hP3 hB3 hk4 T
    go_wp2_with fail
    refine (Q.out _ _ _ hP4 hB4.size).mono ?_
    rintro e w5 ⟨rfl, hP5, hk5⟩
    have hB5 := hB4.trans hk5.below
    have TR := Lib.hid (clockTrue hP5)
    have ST := Lib.hid (clockSteady hP5)
    rw [K4.out] at TR
    rw [K3.out] at ST
    clear hP4 hB4 hk5 Q hP5
    go_wp2_with fail
    refine (NN.out _).mono ?_
    rintro e w' ⟨rfl, rfl⟩
    go_wp2_with fail
    refine TR.out.mono ?_
    rintro e w' ⟨rfl, rfl⟩
    go_wp2_with fail
    refine ST.out.mono ?_
    rintro e w' ⟨rfl, rfl⟩
    go_wp2_with fail
    refine (PN.out _).mono ?_
    rintro e w' ⟨rfl, rfl⟩
    go_wp2_with fail
    refine (KN.out _).mono ?_
    rintro e w' ⟨rfl, rfl⟩
    go_wp2_with fail
    refine (TN.out _).mono ?_
    rintro e w' ⟨rfl, rfl⟩
    go_wp2_with fail
    refine (SN.out _).mono ?_
    rintro e w' ⟨rfl, rfl⟩
    go_wp2_with fail
    refine (CN.out _).mono ?_
    rintro e w' ⟨rfl, rfl⟩
    go_wp2_with fail
    go_ret
    exact ⟨rfl, hB5⟩
theorem walkClockEnds' (n u x : Int) (w : World) (h1 : I64 n) (h2 : 0 ≤ u ∧ u ≤ 18446744073709551615) (h3 : I64 x) :
    Calls Try.prog 11 #[.int .i64 n, .int .u64 u, .int .i64 x] w (Yes w) := by
  obtain ⟨d, rfl⟩ := Int.eq_ofNat_of_zero_le h2.1
  exact walkClockEnds n d x w h1 (by omega) h3
end Go.Proofs.Ytekkcbonkjdgeaa
