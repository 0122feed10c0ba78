/- Plain arithmetic of the layer sum: the value and the error of a sum, a difference or a product; nothing of a program is named here. -/
import Derived.IntWalk
import Derived.RowKit
namespace Go.Proofs.Ytekkcbonkjdgeaa
open Go.RowKit

def fits (n : Int) : Bool := decide (-9223372036854775808 ≤ n ∧ n ≤ 9223372036854775807)
def cutV (n : Int) : Int := if fits n then n else 0
def cutE (n : Int) : Int := if fits n then 0 else 3
/-- Is a whole number an int64? -/
def I64 (n : Int) : Prop := -9223372036854775808 ≤ n ∧ n ≤ 9223372036854775807

theorem fits_yes {n : Int} (h1 : -9223372036854775808 ≤ n) (h2 : n ≤ 9223372036854775807) : fits n = true := by simp [fits, h1, h2]
theorem fits_iff {n : Int} : fits n = true ↔ I64 n := by simp [fits, I64]
theorem fits_not {n : Int} : fits n = false ↔ ¬ I64 n := by simp [fits, I64]
theorem cutV_yes {n : Int} (h1 : -9223372036854775808 ≤ n) (h2 : n ≤ 9223372036854775807) : cutV n = n := by simp [cutV, fits, h1, h2]
theorem cutE_yes {n : Int} (h1 : -9223372036854775808 ≤ n) (h2 : n ≤ 9223372036854775807) : cutE n = 0 := by simp [cutE, fits, h1, h2]
theorem fits_no {n : Int} (h : n < -9223372036854775808 ∨ 9223372036854775807 < n) : fits n = false := by simp [fits]; omega
theorem cutV_no {n : Int} (h : n < -9223372036854775808 ∨ 9223372036854775807 < n) : cutV n = 0 := by simp [cutV, fits_no h]
theorem cutE_no {n : Int} (h : n < -9223372036854775808 ∨ 9223372036854775807 < n) : cutE n = 3 := by simp [cutE, fits_no h]
theorem cutV_I64 (n : Int) : I64 (cutV n) := by
  by_cases h : fits n = true
  · simp only [cutV, h, if_true]; exact fits_iff.1 h
  · simp only [cutV, h, if_false, Bool.false_eq_true]; unfold I64; omega
theorem cutE_zero {n : Int} : cutE n = 0 ↔ I64 n := by unfold cutE; by_cases h : fits n = true <;> simp_all [fits_iff]

/-- A product that fits is told by the division. -/
theorem mul_fits {a b : Int} (ha : I64 a) (hb : b ≠ 0) (h : I64 (a * b)) : wrap64 ((wrap64 (a * b)).tdiv b) = a := by
  rw [IntWalk.wrap64_in _ h, Int.mul_tdiv_cancel _ hb, IntWalk.wrap64_in _ ha]

/-- One that does not is, but at two places. -/
theorem mul_not {a b : Int} (ha : I64 a) (hb : I64 b) (hb0 : b ≠ 0) (h : ¬ I64 (a * b)) (h1 : b ≠ -1) : wrap64 ((wrap64 (a * b)).tdiv b) ≠ a := by
  intro he
  obtain ⟨n, hn⟩ : ∃ n, n = wrap64 (a * b) := ⟨_, rfl⟩
  have hn1 : I64 n := by subst hn; unfold wrap64 I64; omega
  obtain ⟨k, hk⟩ : ∃ k : Int, n = a * b + k * 18446744073709551616 := by
    refine ⟨-((a * b + 9223372036854775808) / 18446744073709551616), ?_⟩
    subst hn; unfold wrap64; omega
  rw [← hn] at he
  have hdm := Int.mul_tdiv_add_tmod n b
  obtain ⟨q, hq⟩ : ∃ q, q = n.tdiv b := ⟨_, rfl⟩
  obtain ⟨r, hr⟩ : ∃ r, r = n.tmod b := ⟨_, rfl⟩
  rw [← hq, ← hr] at hdm
  rw [← hq] at he
  have habs : q.natAbs ≤ n.natAbs := by subst hq; exact Int.natAbs_tdiv_le_natAbs n b
  have hq1 : I64 q := by
    by_cases hm : n = -9223372036854775808
    · by_cases hqq : q = 9223372036854775808
      · exfalso
        have h3 : n.natAbs = 9223372036854775808 := by omega
        have hrr : r.natAbs < b.natAbs := by subst hr; rw [Int.natAbs_tmod]; exact Nat.mod_lt _ (by omega)
        have : b * q = b * 9223372036854775808 := by rw [hqq]
        unfold I64 at hb
        omega
      · unfold I64 at *; omega
    · unfold I64 at *; omega
  rw [IntWalk.wrap64_in _ hq1] at he
  subst he
  have hrr : r.natAbs < b.natAbs := by subst hr; rw [Int.natAbs_tmod]; exact Nat.mod_lt _ (by omega)
  have hc : b * q = q * b := Int.mul_comm _ _
  rw [hc] at hdm
  generalize q * b = p at *
  unfold I64 at *
  have : k = 0 := by omega
  subst this
  exact h (by constructor <;> omega)

/-- The reference's size. -/
def sz (a : Int) : Int := if a < 0 then -a else a
theorem sz_bd {a : Int} (h : I64 a) : 0 ≤ sz a ∧ sz a ≤ 9223372036854775808 := by unfold sz I64 at *; split <;> omega
theorem sz_neg {a : Int} (h : a < 0) : sz a = -a := by simp [sz, h]
theorem sz_pos {a : Int} (h : ¬ a < 0) : sz a = a := by simp [sz, h]
/-- 'y > most / x' tells that the product of the sizes is more than most. -/
theorem over_iff {x y m : Int} (hx : 0 < x) : m / x < y ↔ m < y * x := by
  constructor
  · intro h; have := (Int.ediv_lt_iff_lt_mul hx).1 h; exact this
  · intro h; exact (Int.ediv_lt_iff_lt_mul hx).2 h
theorem u64_wrap (n : Int) : IntKind.u64.wrap n = n % 18446744073709551616 := by
  simp [IntKind.wrap, IntKind.signed, IntKind.bits]
theorem u64_neg (p : Int) (h0 : 0 ≤ p) (h1 : p ≤ 9223372036854775808) : wrap64 (IntKind.u64.wrap (-(IntKind.u64.wrap p))) = -p := by
  rw [u64_wrap, u64_wrap]; unfold wrap64; omega
theorem u64_pos (p : Int) (h0 : 0 ≤ p) (h1 : p ≤ 9223372036854775807) : wrap64 (IntKind.u64.wrap p) = p := by
  rw [u64_wrap]; unfold wrap64; omega
theorem u64_size (a : Int) (h : I64 a) (h0 : a < 0) : IntKind.u64.wrap (-(IntKind.u64.wrap a)) = sz a := by
  rw [u64_wrap, u64_wrap, sz_neg h0]; unfold I64 at h; omega
end Go.Proofs.Ytekkcbonkjdgeaa
