/- Plain laws of drift: order, parts, trust; no program. -/
import Derived.Test.YtekkcbonkjdgeaaDriftNum
namespace Go.Proofs.Ytekkcbonkjdgeaa

theorem div_mono {a b c : Int} (hc : 0 < c) (h : a ≤ b) : a / c ≤ b / c := Int.ediv_le_ediv hc h
theorem most_mono {t u r : Int} (hr : 0 ≤ r) (h : t ≤ u) : mostV t r ≤ mostV u r :=
  div_mono (by omega) (Int.mul_le_mul_of_nonneg_right h (by omega))
theorem most_more {t r s : Int} (ht : 0 ≤ t) (h : r ≤ s) : mostV t r ≤ mostV t s :=
  div_mono (by omega) (Int.mul_le_mul_of_nonneg_left (by omega) ht)
theorem shrink_mono {t u r : Int} (hr : 0 ≤ r) (h : t ≤ u) : shrinkV t r ≤ shrinkV u r :=
  div_mono (by omega) (by omega)
theorem shrink_more {t r s : Int} (ht : 0 ≤ t) (hr : 0 ≤ r) (h : r ≤ s) : shrinkV t s ≤ shrinkV t r := by
  unfold shrinkV
  refine (Int.le_ediv_iff_mul_le (by omega)).2 ?_
  have h1 := (div_spec (t * 1000000) (1000000 + s) (by omega)).1
  have h0 : 0 ≤ t * 1000000 / (1000000 + s) := Int.ediv_nonneg (by omega) (by omega)
  have h2 := Int.mul_le_mul_of_nonneg_left (show 1000000 + r ≤ 1000000 + s by omega) h0
  omega
theorem guard_mono {t u r : Int} (hr : 0 ≤ r) (h : t ≤ u) : guardV t r ≤ guardV u r := shrink_mono hr (shrink_mono hr h)
theorem guard_more {t r s : Int} (ht : 0 ≤ t) (ht2 : t ≤ 1099511627776) (hr : 0 ≤ r) (h : r ≤ s) (hs : s ≤ 500000) : guardV t s ≤ guardV t r := by
  have h1 := shrink_more ht hr h
  have h2 := shrink_bd (show Good t s from ⟨ht, ht2, by omega, hs⟩)
  have a : shrinkV (shrinkV t s) s ≤ shrinkV (shrinkV t s) r := shrink_more h2.1 hr h
  have b : shrinkV (shrinkV t s) r ≤ shrinkV (shrinkV t r) r := shrink_mono hr h1
  unfold guardV; omega
theorem shrink_zero {t : Int} : shrinkV t 0 = t := by unfold shrinkV; omega
theorem guard_zero {t : Int} : guardV t 0 = t := by unfold guardV; rw [shrink_zero, shrink_zero]
theorem most_shrink {t r : Int} (hr : 0 ≤ r) : mostV (shrinkV t r) r ≤ t := by
  have h1 := (div_spec (t * 1000000) (1000000 + r) (by omega)).1
  unfold mostV shrinkV
  generalize t * 1000000 / (1000000 + r) = q at *
  have := div_mono (show (0 : Int) < 1000000 by omega) h1
  have e : t * 1000000 / 1000000 = t := by omega
  omega
theorem shrink_mul {t r : Int} (hr : 0 ≤ r) : shrinkV t r * (1000000 + r) ≤ t * 1000000 := (div_spec (t * 1000000) (1000000 + r) (by omega)).1
theorem parts {a b c : Int} (hc : 0 < c) : 0 ≤ (a + b) / c - a / c - b / c ∧ (a + b) / c - a / c - b / c ≤ 1 := by
  obtain ⟨a1, a2⟩ := div_spec a c hc
  obtain ⟨b1, b2⟩ := div_spec b c hc
  obtain ⟨s1, s2⟩ := div_spec (a + b) c hc
  generalize a / c = x at *
  generalize b / c = y at *
  generalize (a + b) / c = z at *
  have l : x + y < z + 1 := by
    refine Int.lt_of_mul_lt_mul_right (a := c) ?_ (by omega)
    rw [Int.add_mul]; omega
  have g : z < x + y + 2 := by
    refine Int.lt_of_mul_lt_mul_right (a := c) ?_ (by omega)
    rw [Int.add_mul, Int.add_mul]; rw [Int.add_mul] at a2 b2; omega
  omega
theorem most_parts {t u r : Int} : 0 ≤ mostV (t + u) r - mostV t r - mostV u r ∧ mostV (t + u) r - mostV t r - mostV u r ≤ 1 := by
  unfold mostV; rw [Int.add_mul]; exact parts (by omega)
theorem shrink_parts {t u r : Int} (hr : 0 ≤ r) : 0 ≤ shrinkV (t + u) r - shrinkV t r - shrinkV u r ∧ shrinkV (t + u) r - shrinkV t r - shrinkV u r ≤ 1 := by
  unfold shrinkV; rw [Int.add_mul]; exact parts (by omega)
/-- A quotient cut up is one cut down, turned round. -/
theorem ceil_eq (a c : Int) (hc : 0 < c) : (a + c - 1) / c = -(-a / c) := by
  obtain ⟨s1, s2⟩ := div_spec (-a) c hc
  refine div_uniq hc ?_ ?_
  · rw [Int.neg_mul]; rw [Int.add_mul] at s2; omega
  · rw [Int.add_mul, Int.neg_mul]; omega
theorem least_parts {t u r : Int} (hr : 0 ≤ r) : 0 ≤ leastV t r + leastV u r - leastV (t + u) r ∧ leastV t r + leastV u r - leastV (t + u) r ≤ 1 := by
  have e : ∀ x, leastV x r = -(-(x * 1000000) / (1000000 + r)) := by
    intro x; unfold leastV; rw [← ceil_eq _ _ (by omega)]; congr 1; omega
  rw [e, e, e]
  have := parts (a := -(t * 1000000)) (b := -(u * 1000000)) (show 0 < 1000000 + r by omega)
  have e2 : -((t + u) * 1000000) = -(t * 1000000) + -(u * 1000000) := by omega
  rw [e2]
  omega
end Go.Proofs.Ytekkcbonkjdgeaa
