/- Plain arithmetic of numbers as bytes: no program. -/
import Derived.Lib.ItoaNum
namespace Go.Proofs.YtpfamdcdbjaflaaGreatDoor

/-- The bytes of a number, the lowest first, none for 0. -/
def lowF : Nat → Nat → List UInt8
  | 0, _ => []
  | f + 1, n => if n = 0 then [] else UInt8.ofNat (n % 256) :: lowF f (n / 256)
def low (n : Nat) : List UInt8 := lowF 8 n
/-- A number's bytes as they are written. -/
def putNum (n : Nat) : List UInt8 := UInt8.ofNat (low n).length :: (low n).reverse

theorem lowF_zero (f : Nat) : lowF f 0 = [] := by cases f <;> simp [lowF]
theorem lowF_len (f n : Nat) : (lowF f n).length ≤ f := by
  induction f generalizing n with
  | zero => simp [lowF]
  | succ f ih => simp only [lowF]; split
                 · simp
                 · simp; exact ih _
theorem low_len (n : Nat) : (low n).length ≤ 8 := lowF_len 8 n
theorem lowF_bounds (f n : Nat) (h : n < 256 ^ f) (h0 : n ≠ 0) : 1 ≤ (lowF f n).length ∧ 256 ^ ((lowF f n).length - 1) ≤ n ∧ n < 256 ^ (lowF f n).length := by
  induction f generalizing n with
  | zero => simp at h; omega
  | succ f ih =>
    simp only [lowF, if_neg h0]
    by_cases h1 : n / 256 = 0
    · rw [h1, lowF_zero]; simp; omega
    · obtain ⟨a, b, c⟩ := ih (n / 256) (by rw [Nat.pow_succ] at h; omega) h1
      refine ⟨by simp, ?_, ?_⟩
      · simp only [List.length_cons, Nat.add_sub_cancel]
        generalize hk : (lowF f (n / 256)).length = k at *
        obtain ⟨k, rfl⟩ : ∃ j, k = j + 1 := ⟨k - 1, by omega⟩
        rw [Nat.add_sub_cancel] at b
        rw [Nat.pow_succ]; omega
      · simp only [List.length_cons]
        rw [Nat.pow_succ]; omega
theorem lowF_get (f n i : Nat) (h : i < (lowF f n).length) : (lowF f n)[i] = UInt8.ofNat (n / 256 ^ i % 256) := by
  induction f generalizing n i with
  | zero => simp [lowF] at h
  | succ f ih =>
    by_cases h0 : n = 0
    · subst h0; simp [lowF] at h
    · have e : lowF (f + 1) n = UInt8.ofNat (n % 256) :: lowF f (n / 256) := by simp [lowF, h0]
      simp only [e] at h ⊢
      match i with
      | 0 => simp
      | i + 1 =>
        simp only [List.getElem_cons_succ]
        rw [ih (n / 256) i (by simpa using h), Nat.pow_succ, Nat.mul_comm, Nat.div_div_eq_div_mul]
theorem low_get (n i : Nat) (h : i < (low n).length) : (low n)[i] = UInt8.ofNat (n / 256 ^ i % 256) := lowF_get 8 n i h

/-- How many bytes: by the bits. -/
theorem bitLen_low (n : Nat) (h : n < 18446744073709551616) : (Lib.bitLen n + 7) / 8 = (low n).length := by
  by_cases h0 : n = 0
  · subst h0; decide
  · obtain ⟨a, b, c⟩ := Lib.bitLenAux_bounds 64 n (by omega) h0
    obtain ⟨a', b', c'⟩ := lowF_bounds 8 n (by omega) h0
    unfold Lib.bitLen low
    generalize Lib.bitLenAux 64 n = x at *
    generalize (lowF 8 n).length = y at *
    have e1 : (256 : Nat) ^ y = 2 ^ (8 * y) := by rw [show (256 : Nat) = 2 ^ 8 from rfl, ← Nat.pow_mul]
    have e2 : (256 : Nat) ^ (y - 1) = 2 ^ (8 * (y - 1)) := by rw [show (256 : Nat) = 2 ^ 8 from rfl, ← Nat.pow_mul]
    rw [e1] at c'; rw [e2] at b'
    have l1 : x - 1 < 8 * y := (Nat.pow_lt_pow_iff_right (a := 2) (by omega)).1 (Nat.lt_of_le_of_lt b c')
    have l2 : 8 * (y - 1) < x := (Nat.pow_lt_pow_iff_right (a := 2) (by omega)).1 (Nat.lt_of_le_of_lt b' c)
    omega

theorem u8_of {n : Nat} (h : n < 256) : ((UInt8.ofNat n).toNat : Int) = (n : Int) := by
  rw [UInt8.toNat_ofNat']; omega
theorem shr_byte (n : Int) (i : Nat) (h : 0 ≤ n) : n / 2 ^ (8 * i) % 256 = ((UInt8.ofNat (n.toNat / 256 ^ i % 256)).toNat : Int) := by
  obtain ⟨m, rfl⟩ := Int.eq_ofNat_of_zero_le h
  rw [u8_of (Nat.mod_lt _ (by omega)), Int.toNat_natCast, show (256 : Nat) ^ i = 2 ^ (8 * i) by rw [show (256 : Nat) = 2 ^ 8 from rfl, ← Nat.pow_mul]]
  simp
theorem drop_rev {l : List UInt8} {i : Nat} (h : i < l.length) : (l.drop i).reverse = (l.drop (i + 1)).reverse ++ [l[i]] := by
  rw [List.drop_eq_getElem_cons h]; simp
end Go.Proofs.YtpfamdcdbjaflaaGreatDoor
