/- Plain: what clocks that drift do behind many times that pass: no program. -/
import Derived.Test.YtekkcbonkjdgeaaClockNum
import Derived.Test.YtekkcbonkjdgeaaDriftLaws
namespace Go.Proofs.Ytekkcbonkjdgeaa

theorem step_drift {n rho : Int} (h : Good n rho) (draw : Nat) (x : Int) : stepV n rho draw x * 1000000 ≤ n * (1000000 + rho) ∧ n * 1000000 ≤ stepV n rho draw x * (1000000 + rho) := by
  obtain ⟨h1, h2⟩ := step_bd h draw x
  obtain ⟨g1, g2, g3, g4⟩ := h
  have m1 : mostV n rho * 1000000 ≤ n * (1000000 + rho) := (div_spec (n * (1000000 + rho)) 1000000 (by omega)).1
  have m2 : n * 1000000 ≤ leastV n rho * (1000000 + rho) := by
    have := (div_spec (n * 1000000 + 1000000 + rho - 1) (1000000 + rho) (by omega)).2
    unfold leastV
    rw [Int.add_mul, Int.one_mul] at this
    omega
  refine ⟨Int.le_trans (Int.mul_le_mul_of_nonneg_right h2 (by omega)) m1, Int.le_trans m2 (Int.mul_le_mul_of_nonneg_right h1 (by omega))⟩
theorem step_small {n rho : Int} (h : Good n rho) (hn : n ≤ 1000000) (draw : Nat) (x : Int) : 0 ≤ stepV n rho draw x ∧ stepV n rho draw x ≤ 1500000 := by
  obtain ⟨h1, h2⟩ := step_bd h draw x
  have h3 := least_le_most h
  have h4 : mostV n rho ≤ 1500000 := by
    have m1 : mostV n rho * 1000000 ≤ n * (1000000 + rho) := (div_spec (n * (1000000 + rho)) 1000000 (by omega)).1
    obtain ⟨g1, g2, g3, g4⟩ := h
    have m2 : n * (1000000 + rho) ≤ 1000000 * (1000000 + rho) := Int.mul_le_mul_of_nonneg_right hn (by omega)
    omega
  omega
/-- Whoever has counted t no longer than this is behind what another one needs. -/
theorem trust_end {rho t a b r : Int} (h0 : 0 ≤ rho) (ha : r * 1000000 ≤ a * (1000000 + rho)) (hb : b * 1000000 ≤ r * (1000000 + rho)) (ht : t ≤ b) : guardV t rho ≤ a := by
  have g1 : guardV t rho * (1000000 + rho) ≤ shrinkV t rho * 1000000 := shrink_mul h0
  have g2 : shrinkV t rho * (1000000 + rho) ≤ t * 1000000 := shrink_mul h0
  have hm : (0 : Int) < 1000000 + rho := by omega
  generalize guardV t rho = gv at *
  generalize shrinkV t rho = sv at *
  generalize 1000000 + rho = m at *
  -- gv * m * m <= sv * 1000000 * m <= t * 10^12 <= r * m * 10^6 <= a * m * m
  have e1 : gv * m * m ≤ sv * 1000000 * m := Int.mul_le_mul_of_nonneg_right g1 (by omega)
  have e2 : sv * m * 1000000 ≤ t * 1000000 * 1000000 := Int.mul_le_mul_of_nonneg_right g2 (by omega)
  have e3 : r * 1000000 * m ≤ a * m * m := Int.mul_le_mul_of_nonneg_right ha (by omega)
  have e4 : sv * 1000000 * m = sv * m * 1000000 := by rw [Int.mul_assoc, Int.mul_comm 1000000 m, ← Int.mul_assoc]
  have e5 : r * 1000000 * m = r * m * 1000000 := by rw [Int.mul_assoc, Int.mul_comm 1000000 m, ← Int.mul_assoc]
  have e6 : gv * m * m ≤ a * m * m := by omega
  have e7 : gv * m ≤ a * m := Int.le_of_mul_le_mul_right e6 hm
  exact Int.le_of_mul_le_mul_right e7 hm
end Go.Proofs.Ytekkcbonkjdgeaa
