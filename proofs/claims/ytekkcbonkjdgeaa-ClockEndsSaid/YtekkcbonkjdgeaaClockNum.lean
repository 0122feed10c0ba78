/- Plain arithmetic of the clocks: no program. -/
import Derived.Test.YtekkcbonkjdgeaaDriftNum
namespace Go.Proofs.Ytekkcbonkjdgeaa

/-- Is it an end? -/
def inE (nodes edges x : Int) : Bool := decide (-edges ≤ x ∧ x ≤ nodes ∧ x ≠ 0)
/-- Where an end's four bits begin. -/
def posE (x : Int) : Nat := if x < 0 then (4 * (7 - x) % 64).toNat else (4 * (x - 1)).toNat
def shareV (x : Int) (draw : Nat) : Nat := draw / 2 ^ posE x % 16
/-- A clock behind a time that passes. -/
def stepV (n rho : Int) (draw : Nat) (x : Int) : Int := leastV n rho + (mostV n rho - leastV n rho) * (shareV x draw : Int) / 15
theorem share_le (x : Int) (draw : Nat) : shareV x draw ≤ 15 := by unfold shareV; omega
theorem least_le_most {t r : Int} (h : Good t r) : 0 ≤ leastV t r ∧ leastV t r ≤ t ∧ t ≤ mostV t r ∧ mostV t r ≤ 1649267441664 := by
  have h1 := least_bd h
  have h2 := most_bd h
  have h3 := shrink_bd h
  omega
theorem part_bd {d s : Int} (hd : 0 ≤ d) (h0 : 0 ≤ s) (h1 : s ≤ 15) : 0 ≤ d * s ∧ d * s ≤ d * 15 ∧ 0 ≤ d * s / 15 ∧ d * s / 15 ≤ d := by
  have h2 : 0 ≤ d * s := Int.mul_nonneg hd h0
  have h3 : d * s ≤ d * 15 := Int.mul_le_mul_of_nonneg_left h1 hd
  refine ⟨h2, h3, by omega, by omega⟩
theorem step_bd {n rho : Int} (h : Good n rho) (draw : Nat) (x : Int) : leastV n rho ≤ stepV n rho draw x ∧ stepV n rho draw x ≤ mostV n rho := by
  have h1 := least_le_most h
  have h2 := share_le x draw
  have h3 := part_bd (d := mostV n rho - leastV n rho) (s := (shareV x draw : Int)) (by omega) (by omega) (by omega)
  unfold stepV
  omega
end Go.Proofs.Ytekkcbonkjdgeaa
