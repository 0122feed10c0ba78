/- Plain arithmetic of drift: how far clocks go, without any program. -/
import Derived.IntWalk
import Derived.RowKit
namespace Go.Proofs.Ytekkcbonkjdgeaa
open Go.RowKit

/-- May a time and a drift not be? -/
def badB (t r : Int) : Bool := decide (t < 0 ∨ 1099511627776 < t ∨ r < 0 ∨ 500000 < r)
def Good (t r : Int) : Prop := 0 ≤ t ∧ t ≤ 1099511627776 ∧ 0 ≤ r ∧ r ≤ 500000
theorem bad_iff {t r : Int} : badB t r = true ↔ ¬ Good t r := by simp [badB, Good]; omega
theorem good_iff {t r : Int} : badB t r = false ↔ Good t r := by simp [badB, Good]

def mostV (t r : Int) : Int := t * (1000000 + r) / 1000000
def shrinkV (t r : Int) : Int := t * 1000000 / (1000000 + r)
def leastV (t r : Int) : Int := (t * 1000000 + 1000000 + r - 1) / (1000000 + r)
def guardV (t r : Int) : Int := shrinkV (shrinkV t r) r

theorem prod_bd {t r : Int} (h : Good t r) : 0 ≤ t * (1000000 + r) ∧ t * (1000000 + r) ≤ 1649267441664000000 := by
  obtain ⟨h1, h2, h3, h4⟩ := h
  have a := Int.mul_le_mul h2 (show 1000000 + r ≤ 1500000 by omega) (by omega) (by omega)
  have b := Int.mul_nonneg h1 (show 0 ≤ 1000000 + r by omega)
  omega
theorem shrink_bd {t r : Int} (h : Good t r) : 0 ≤ shrinkV t r ∧ shrinkV t r ≤ t := by
  obtain ⟨h1, h2, h3, h4⟩ := h
  unfold shrinkV
  constructor
  · exact Int.ediv_nonneg (by omega) (by omega)
  · have : t * 1000000 < (t + 1) * (1000000 + r) := by
      have e : (t + 1) * (1000000 + r) = t * 1000000 + t * r + (1000000 + r) := by rw [Int.add_mul, Int.mul_add]; omega
      have := Int.mul_nonneg h1 h3
      omega
    have := Int.ediv_lt_of_lt_mul (by omega : (0 : Int) < 1000000 + r) this
    omega
theorem shrink_good {t r : Int} (h : Good t r) : Good (shrinkV t r) r := by
  have := shrink_bd h
  unfold Good at *; omega
/-- t a / b of whole parts and rests. -/
theorem ratio_eq (t a b : Int) (hb : 0 < b) : t / b * a + t % b * a / b = t * a / b := by
  have e : t * a = t % b * a + t / b * a * b := by
    conv => lhs; rw [← Int.mul_ediv_add_emod t b]
    rw [Int.add_mul, Int.add_comm]
    congr 1
    rw [Int.mul_comm b, Int.mul_assoc, Int.mul_assoc, Int.mul_comm b a]
  rw [e, Int.add_mul_ediv_right _ _ (by omega), Int.add_comm]
/-- Floor and ceiling. -/
theorem div_spec (a b : Int) (hb : 0 < b) : a / b * b ≤ a ∧ a < (a / b + 1) * b := by
  have h := Int.mul_ediv_add_emod a b
  have h1 := Int.emod_nonneg a (show b ≠ 0 by omega)
  have h2 := Int.emod_lt_of_pos a hb
  rw [Int.add_mul, Int.one_mul, Int.mul_comm (a / b) b]
  omega
theorem div_uniq {a b q : Int} (hb : 0 < b) (h1 : q * b ≤ a) (h2 : a < (q + 1) * b) : a / b = q := by
  have l : q ≤ a / b := (Int.le_ediv_iff_mul_le hb).2 h1
  have g : a / b < q + 1 := Int.ediv_lt_of_lt_mul hb h2
  omega
theorem least_eq (t r : Int) (h : Good t r) : leastV t r = if shrinkV t r * (1000000 + r) < t * 1000000 then shrinkV t r + 1 else shrinkV t r := by
  obtain ⟨h1, h2, h3, h4⟩ := h
  have hb : 0 < 1000000 + r := by omega
  obtain ⟨d1, d2⟩ := div_spec (t * 1000000) (1000000 + r) hb
  unfold leastV shrinkV
  generalize t * 1000000 / (1000000 + r) = q at *
  rw [Int.add_mul, Int.one_mul] at d2
  split
  · refine div_uniq hb ?_ ?_
    · rw [Int.add_mul, Int.one_mul]; omega
    · rw [Int.add_mul, Int.add_mul, Int.one_mul]; omega
  · refine div_uniq hb ?_ ?_
    · omega
    · rw [Int.add_mul, Int.one_mul]; omega
theorem least_bd {t r : Int} (h : Good t r) : shrinkV t r ≤ leastV t r ∧ leastV t r ≤ shrinkV t r + 1 ∧ leastV t r ≤ t := by
  rw [least_eq t r h]
  have hb := shrink_bd h
  obtain ⟨h1, h2, h3, h4⟩ := h
  split
  · rename_i hlt
    refine ⟨by omega, by omega, ?_⟩
    by_cases e : shrinkV t r = t
    · rw [e, Int.mul_add] at hlt
      have := Int.mul_nonneg h1 h3
      omega
    · omega
  · exact ⟨by omega, by omega, by omega⟩
theorem most_bd {t r : Int} (h : Good t r) : t ≤ mostV t r ∧ mostV t r ≤ 1649267441664 := by
  have hp := prod_bd h
  obtain ⟨h1, h2, h3, h4⟩ := h
  unfold mostV
  constructor
  · refine (Int.le_ediv_iff_mul_le (by omega)).2 ?_
    rw [Int.mul_add]
    have := Int.mul_nonneg h1 h3
    omega
  · have : t * (1000000 + r) < 1649267441665 * 1000000 := by omega
    have := Int.ediv_lt_of_lt_mul (by omega : (0 : Int) < 1000000) this
    omega
end Go.Proofs.Ytekkcbonkjdgeaa
