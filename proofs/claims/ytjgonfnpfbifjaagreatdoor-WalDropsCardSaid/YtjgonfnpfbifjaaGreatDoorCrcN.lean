/- CrcN: put together by merge.py of: CodecNum, CrcNum. -/
import Derived.Lib.ItoaNum
import Derived.Laws.BitsAllLaws
/- Plain arithmetic of numbers as bytes: no program. -/
namespace Go.Proofs.YtjgonfnpfbifjaaGreatDoor

/-- The bytes of a number, the lowest first, none for 0. -/
def lowF : Nat → Nat → List UInt8
  | 0, _ => []
  | f + 1, n => if n = 0 then [] else UInt8.ofNat (n % 256) :: lowF f (n / 256)
def low (n : Nat) : List UInt8 := lowF 8 n
/-- A number's bytes as they are written. -/
def putNum (n : Nat) : List UInt8 := UInt8.ofNat (low n).length :: (low n).reverse

theorem lowF_zero (f : Nat) : lowF f 0 = [] := by cases f <;> simp [lowF]
theorem lowF_len (f n : Nat) : (lowF f n).length ≤ f := by
  induction f generalizing n with
  | zero => simp [lowF]
  | succ f ih => simp only [lowF]; split
                 · simp
                 · simp; exact ih _
theorem low_len (n : Nat) : (low n).length ≤ 8 := lowF_len 8 n
theorem lowF_bounds (f n : Nat) (h : n < 256 ^ f) (h0 : n ≠ 0) : 1 ≤ (lowF f n).length ∧ 256 ^ ((lowF f n).length - 1) ≤ n ∧ n < 256 ^ (lowF f n).length := by
  induction f generalizing n with
  | zero => simp at h; omega
  | succ f ih =>
    simp only [lowF, if_neg h0]
    by_cases h1 : n / 256 = 0
    · rw [h1, lowF_zero]; simp; omega
    · obtain ⟨a, b, c⟩ := ih (n / 256) (by rw [Nat.pow_succ] at h; omega) h1
      refine ⟨by simp, ?_, ?_⟩
      · simp only [List.length_cons, Nat.add_sub_cancel]
        generalize hk : (lowF f (n / 256)).length = k at *
        obtain ⟨k, rfl⟩ : ∃ j, k = j + 1 := ⟨k - 1, by omega⟩
        rw [Nat.add_sub_cancel] at b
        rw [Nat.pow_succ]; omega
      · simp only [List.length_cons]
        rw [Nat.pow_succ]; omega
theorem lowF_get (f n i : Nat) (h : i < (lowF f n).length) : (lowF f n)[i] = UInt8.ofNat (n / 256 ^ i % 256) := by
  induction f generalizing n i with
  | zero => simp [lowF] at h
  | succ f ih =>
    by_cases h0 : n = 0
    · subst h0; simp [lowF] at h
    · have e : lowF (f + 1) n = UInt8.ofNat (n % 256) :: lowF f (n / 256) := by simp [lowF, h0]
      simp only [e] at h ⊢
      match i with
      | 0 => simp
      | i + 1 =>
        simp only [List.getElem_cons_succ]
        rw [ih (n / 256) i (by simpa using h), Nat.pow_succ, Nat.mul_comm, Nat.div_div_eq_div_mul]
theorem low_get (n i : Nat) (h : i < (low n).length) : (low n)[i] = UInt8.ofNat (n / 256 ^ i % 256) := lowF_get 8 n i h

/-- How many bytes: by the bits. -/
theorem bitLen_low (n : Nat) (h : n < 18446744073709551616) : (Lib.bitLen n + 7) / 8 = (low n).length := by
  by_cases h0 : n = 0
  · subst h0; decide
  · obtain ⟨a, b, c⟩ := Lib.bitLenAux_bounds 64 n (by omega) h0
    obtain ⟨a', b', c'⟩ := lowF_bounds 8 n (by omega) h0
    unfold Lib.bitLen low
    generalize Lib.bitLenAux 64 n = x at *
    generalize (lowF 8 n).length = y at *
    have e1 : (256 : Nat) ^ y = 2 ^ (8 * y) := by rw [show (256 : Nat) = 2 ^ 8 from rfl, ← Nat.pow_mul]
    have e2 : (256 : Nat) ^ (y - 1) = 2 ^ (8 * (y - 1)) := by rw [show (256 : Nat) = 2 ^ 8 from rfl, ← Nat.pow_mul]
    rw [e1] at c'; rw [e2] at b'
    have l1 : x - 1 < 8 * y := (Nat.pow_lt_pow_iff_right (a := 2) (by omega)).1 (Nat.lt_of_le_of_lt b c')
    have l2 : 8 * (y - 1) < x := (Nat.pow_lt_pow_iff_right (a := 2) (by omega)).1 (Nat.lt_of_le_of_lt b' c)
    omega

theorem u8_of {n : Nat} (h : n < 256) : ((UInt8.ofNat n).toNat : Int) = (n : Int) := by
  rw [UInt8.toNat_ofNat']; omega
theorem shr_byte (n : Int) (i : Nat) (h : 0 ≤ n) : n / 2 ^ (8 * i) % 256 = ((UInt8.ofNat (n.toNat / 256 ^ i % 256)).toNat : Int) := by
  obtain ⟨m, rfl⟩ := Int.eq_ofNat_of_zero_le h
  rw [u8_of (Nat.mod_lt _ (by omega)), Int.toNat_natCast, show (256 : Nat) ^ i = 2 ^ (8 * i) by rw [show (256 : Nat) = 2 ^ 8 from rfl, ← Nat.pow_mul]]
  simp
theorem drop_rev {l : List UInt8} {i : Nat} (h : i < l.length) : (l.drop i).reverse = (l.drop (i + 1)).reverse ++ [l[i]] := by
  rw [List.drop_eq_getElem_cons h]; simp
end Go.Proofs.YtjgonfnpfbifjaaGreatDoor
/- Plain arithmetic of CRC-32: no program. -/
namespace Go.Proofs.YtjgonfnpfbifjaaGreatDoor

def poly : Nat := 3988292384
def crcBit (r : Nat) : Nat := (r / 2) ^^^ (if r % 2 = 1 then poly else 0)
def crcBits : Nat → Nat → Nat
  | 0, r => r
  | k + 1, r => crcBits k (crcBit r)
def crcByte (r x : Nat) : Nat := crcBits 8 (r ^^^ x)
def crcL (r : Nat) (l : List UInt8) : Nat := l.foldl (fun r x => crcByte r x.toNat) r

/-- The reference's step: the bit that comes, and the state's last. -/
def refBit (r y : Nat) : Nat := (r / 2) ^^^ (if y % 2 ≠ r % 2 then poly else 0)
def refBits : Nat → Nat → Nat → Nat
  | 0, r, _ => r
  | k + 1, r, y => refBits k (refBit r y) (y / 2)

theorem xor_lt {a b : Nat} (ha : a < 4294967296) (hb : b < 4294967296) : a ^^^ b < 4294967296 := Nat.xor_lt_two_pow (n := 32) ha hb
theorem poly_lt : poly < 4294967296 := by decide
theorem crcBit_lt {r : Nat} (h : r < 4294967296) : crcBit r < 4294967296 := by
  unfold crcBit; refine xor_lt (by omega) ?_; split <;> decide
theorem crcBits_lt (k : Nat) : ∀ {r : Nat}, r < 4294967296 → crcBits k r < 4294967296 := by
  induction k with
  | zero => intro r h; exact h
  | succ k ih => intro r h; exact ih (crcBit_lt h)
theorem crcByte_lt {r x : Nat} (h : r < 4294967296) (hx : x < 4294967296) : crcByte r x < 4294967296 := crcBits_lt 8 (xor_lt h hx)
theorem crcL_lt {r : Nat} (h : r < 4294967296) (l : List UInt8) : crcL r l < 4294967296 := by
  induction l generalizing r with
  | nil => exact h
  | cons x l ih => exact ih (crcByte_lt h (by have := x.toNat_lt; omega))
theorem crcL_snoc (r : Nat) (l : List UInt8) (x : UInt8) : crcL r (l ++ [x]) = crcByte (crcL r l) x.toNat := by simp [crcL]
theorem crcL_append (r : Nat) (l m : List UInt8) : crcL r (l ++ m) = crcL (crcL r l) m := by simp [crcL]
theorem crcBits_succ (k r : Nat) : crcBits (k + 1) r = crcBit (crcBits k r) := by
  induction k generalizing r with
  | zero => rfl
  | succ k ih => rw [crcBits, ih]; rfl

theorem xor_half (a b : Nat) : (a ^^^ b) / 2 = a / 2 ^^^ b / 2 := by
  have := Nat.xor_div_two (a := a) (b := b)
  exact this
theorem xor_odd (a b : Nat) : (a ^^^ b) % 2 = 1 ↔ b % 2 ≠ a % 2 := by
  have : (a ^^^ b) % 2 = a % 2 ^^^ b % 2 := by
    have := Nat.xor_mod_two_pow (a := a) (b := b) (n := 1)
    simpa using this
  rw [this]
  rcases Nat.mod_two_eq_zero_or_one a with h | h <;> rcases Nat.mod_two_eq_zero_or_one b with g | g <;> simp [h, g]
theorem bit_eq (r y : Nat) : crcBit (r ^^^ y) = refBit r y ^^^ (y / 2) := by
  unfold crcBit refBit
  rw [xor_half]
  by_cases h : y % 2 ≠ r % 2
  · rw [if_pos h, if_pos ((xor_odd r y).2 h), Nat.xor_assoc, Nat.xor_assoc, Nat.xor_comm (y / 2)]
  · rw [if_neg h, if_neg (fun g => h ((xor_odd r y).1 g))]; simp
theorem bits_eq (k : Nat) : ∀ (r y : Nat), crcBits k (r ^^^ y) = refBits k r y ^^^ (y / 2 ^ k) := by
  induction k with
  | zero => intro r y; simp [crcBits, refBits]
  | succ k ih =>
    intro r y
    rw [crcBits, refBits, bit_eq, ih, Nat.div_div_eq_div_mul, Nat.pow_succ, Nat.mul_comm]
theorem byte_eq (r x : Nat) (hx : x < 256) : crcByte r x = refBits 8 r x := by
  unfold crcByte
  rw [bits_eq]
  have : x / 2 ^ 8 = 0 := by omega
  rw [this, Nat.xor_zero]
theorem refBits_succ (k r y : Nat) : refBits (k + 1) r y = refBit (refBits k r y) (y / 2 ^ k) := by
  induction k generalizing r y with
  | zero => simp [refBits]
  | succ k ih => rw [refBits, ih, refBits, Nat.div_div_eq_div_mul, Nat.pow_succ, Nat.mul_comm (2 ^ k)]
theorem refBit_lt {r y : Nat} (h : r < 4294967296) : refBit r y < 4294967296 := by
  unfold refBit; refine xor_lt (by omega) ?_; split <;> decide
theorem refBits_lt (k : Nat) : ∀ {r y : Nat}, r < 4294967296 → refBits k r y < 4294967296 := by
  induction k with
  | zero => intro r y h; exact h
  | succ k ih => intro r y h; exact ih (refBit_lt h)

theorem ones_xor (s : Nat) (h : s < 4294967296) : 4294967295 ^^^ s = 4294967295 - s := by
  have h1 : (BitVec.allOnes 32 ^^^ BitVec.ofNat 32 s).toNat = (~~~ (BitVec.ofNat 32 s)).toNat := by rw [BitVec.allOnes_xor]
  rw [BitVec.toNat_xor, BitVec.toNat_not, BitVec.toNat_allOnes, BitVec.toNat_ofNat, Nat.mod_eq_of_lt (by omega)] at h1
  simpa using h1

/-- The sum of bytes. -/
def crc (l : List UInt8) : Nat := 4294967295 - crcL 4294967295 l
end Go.Proofs.YtjgonfnpfbifjaaGreatDoor
