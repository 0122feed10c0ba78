/- Plain: numbers, lists and frames read out of bytes: no program. -/
import Derived.Test.YtjgonfnpfbifjaaGreatDoorCrcN
namespace Go.Proofs.YtjgonfnpfbifjaaGreatDoor

/-- Bytes as a number, the highest first. -/
def unB (l : List UInt8) : Nat := l.foldl (fun n x => n * 256 + x.toNat) 0
theorem unB_snoc (l : List UInt8) (x : UInt8) : unB (l ++ [x]) = unB l * 256 + x.toNat := by simp [unB]
theorem unB_acc (l : List UInt8) : ∀ n, l.foldl (fun n x => n * 256 + x.toNat) n = n * 256 ^ l.length + unB l ∧ unB l < 256 ^ l.length := by
  induction l with
  | nil => intro n; simp [unB]
  | cons x l ih =>
    have hx := x.toNat_lt
    have h0 := ih x.toNat
    have e0 : unB (x :: l) = x.toNat * 256 ^ l.length + unB l := by
      show l.foldl _ (0 * 256 + x.toNat) = _
      rw [Nat.zero_mul, Nat.zero_add]
      exact h0.1
    have hlt : unB (x :: l) < 256 ^ (x :: l).length := by
      rw [e0, List.length_cons, Nat.pow_succ]
      have : x.toNat * 256 ^ l.length ≤ 255 * 256 ^ l.length := Nat.mul_le_mul_right _ (by omega)
      omega
    intro n
    refine ⟨?_, hlt⟩
    rw [List.foldl_cons, (ih _).1, e0, List.length_cons, Nat.pow_succ, Nat.add_mul]
    rw [Nat.mul_comm (256 ^ l.length) 256, Nat.mul_assoc]
    omega
theorem unB_lt (l : List UInt8) : unB l < 256 ^ l.length := (unB_acc l 0).2
theorem unB_cons (x : UInt8) (l : List UInt8) : unB (x :: l) = x.toNat * 256 ^ l.length + unB l := by
  show l.foldl _ (0 * 256 + x.toNat) = _
  rw [Nat.zero_mul, Nat.zero_add]
  exact (unB_acc l _).1
theorem unB_append (l m : List UInt8) : unB (l ++ m) = unB l * 256 ^ m.length + unB m := by
  show (l ++ m).foldl _ 0 = _
  rw [List.foldl_append]
  exact (unB_acc m _).1
theorem pow_step {k : Nat} (h : k ≤ 7) : (256 : Nat) ^ k ≤ 72057594037927936 := Nat.le_trans (Nat.pow_le_pow_right (by omega) h) (by decide)
theorem pow_full {k : Nat} (h : k ≤ 8) : (256 : Nat) ^ k ≤ 18446744073709551616 := Nat.le_trans (Nat.pow_le_pow_right (by omega) h) (by decide)
theorem unB_7 (l : List UInt8) (h : l.length ≤ 7) : unB l < 72057594037927936 := Nat.lt_of_lt_of_le (unB_lt l) (pow_step h)
theorem unB_8 (l : List UInt8) (h : l.length ≤ 8) : unB l < 18446744073709551616 := Nat.lt_of_lt_of_le (unB_lt l) (pow_full h)

/-- What stands at the head: the number, how many bytes, the error. -/
def numH (l : List UInt8) : Nat × Nat × Nat :=
  if 0 < l.length then
    (if 8 < (l.getD 0 0).toNat ∨ (1 < l.length ∧ 0 < (l.getD 0 0).toNat ∧ (l.getD 1 0).toNat = 0) then (0, 0, 4)
     else if l.length ≤ (l.getD 0 0).toNat then (0, 0, 5) else (unB ((l.drop 1).take (l.getD 0 0).toNat), 1 + (l.getD 0 0).toNat, 0))
  else (0, 0, 5)
/-- The number at a place, the place behind it, the error. -/
def numAt (b : List UInt8) (i : Int) : Int × Int × Int :=
  if 0 ≤ i ∧ i ≤ (b.length : Int) then
    (if (numH (b.drop i.toNat)).2.2 = 0 then (((numH (b.drop i.toNat)).1 : Int), i + ((numH (b.drop i.toNat)).2.1 : Int), 0) else (0, 0, ((numH (b.drop i.toNat)).2.2 : Int)))
  else (0, 0, 1)

theorem numAt_out {b : List UInt8} {i : Int} (h : i < 0 ∨ (b.length : Int) < i) : numAt b i = (0, 0, 1) := by
  rw [numAt, if_neg (by omega)]
theorem numAt_end {b : List UInt8} : numAt b (b.length : Int) = (0, 0, 5) := by
  rw [numAt, if_pos (by omega)]; simp [numH]
theorem drop_getD (b : List UInt8) (a j : Nat) : (b.drop a).getD j 0 = b.getD (a + j) 0 := by simp [List.getD_eq_getElem?_getD, List.getElem?_drop]
theorem getD_get {b : List UInt8} {j : Nat} (h : j < b.length) : b.getD j 0 = b[j] := by simp [List.getD_eq_getElem?_getD, h]
theorem numAt_text {b : List UInt8} {a : Nat} (h : a < b.length) (hx : 8 < b[a].toNat ∨ (0 < b[a].toNat ∧ ∃ h2 : a + 1 < b.length, b[a + 1].toNat = 0)) : numAt b (a : Int) = (0, 0, 4) := by
  have e : numH (b.drop a) = (0, 0, 4) := by
    rw [numH, if_pos (by rw [List.length_drop]; omega), if_pos]
    rw [drop_getD, drop_getD, Nat.add_zero, getD_get h, List.length_drop]
    rcases hx with hx | ⟨h0, h2, h3⟩
    · exact .inl hx
    · exact .inr ⟨by omega, h0, by rw [getD_get h2]; exact h3⟩
  rw [numAt, if_pos (by omega), Int.toNat_natCast, e, if_neg (by decide)]
  rfl
theorem numAt_short {b : List UInt8} {a : Nat} (h : a < b.length) (hx : b[a].toNat ≤ 8) (hz : ∀ h2 : a + 1 < b.length, b[a].toNat = 0 ∨ b[a + 1].toNat ≠ 0) (hs : b.length ≤ a + b[a].toNat) : numAt b (a : Int) = (0, 0, 5) := by
  have e : numH (b.drop a) = (0, 0, 5) := by
    rw [numH, if_pos (by rw [List.length_drop]; omega), drop_getD, drop_getD, Nat.add_zero, getD_get h, List.length_drop, if_neg, if_pos (by omega)]
    rintro (h1 | ⟨h1, h2, h3⟩)
    · omega
    · rw [getD_get (show a + 1 < b.length by omega)] at h3
      rcases hz (by omega) with h4 | h4 <;> omega
  rw [numAt, if_pos (by omega), Int.toNat_natCast, e, if_neg (by decide)]
  rfl
theorem numAt_yes {b : List UInt8} {a : Nat} (h : a < b.length) (hx : b[a].toNat ≤ 8) (hz : ∀ h2 : a + 1 < b.length, b[a].toNat = 0 ∨ b[a + 1].toNat ≠ 0) (hs : a + b[a].toNat < b.length) :
    numAt b (a : Int) = ((unB ((b.drop (a + 1)).take b[a].toNat) : Int), (a : Int) + 1 + (b[a].toNat : Int), 0) := by
  have e : numH (b.drop a) = (unB ((b.drop (a + 1)).take b[a].toNat), 1 + b[a].toNat, 0) := by
    rw [numH, if_pos (by rw [List.length_drop]; omega), drop_getD, drop_getD, Nat.add_zero, getD_get h, List.length_drop, if_neg, if_neg (by omega), List.drop_drop]
    rintro (h1 | ⟨h1, h2, h3⟩)
    · omega
    · rw [getD_get (show a + 1 < b.length by omega)] at h3
      rcases hz (by omega) with h4 | h4 <;> omega
  rw [numAt, if_pos (by omega), Int.toNat_natCast, e, if_pos rfl]
  simp only [Prod.mk.injEq, true_and, and_true]
  omega
theorem take_getD (b : List UInt8) (a j : Nat) (h : a + j < b.length) : ((b.drop a).take (j + 1)) = (b.drop a).take j ++ [b[a + j]] := by
  rw [List.take_succ_eq_append_getElem (by rw [List.length_drop]; omega), List.getElem_drop]
/-- What the three answers may be. -/
theorem numAt_range (b : List UInt8) (i : Int) : 0 ≤ (numAt b i).1 ∧ (numAt b i).1 ≤ 18446744073709551615 ∧ 0 ≤ (numAt b i).2.1 ∧ (numAt b i).2.1 ≤ (b.length : Int) ∧ 0 ≤ (numAt b i).2.2 ∧ (numAt b i).2.2 ≤ 5 := by
  by_cases hi : 0 ≤ i ∧ i ≤ (b.length : Int)
  · obtain ⟨a, rfl⟩ := Int.eq_ofNat_of_zero_le hi.1
    by_cases ha : a < b.length
    · by_cases hx : 8 < b[a].toNat ∨ (0 < b[a].toNat ∧ ∃ h2 : a + 1 < b.length, b[a + 1].toNat = 0)
      · rw [numAt_text ha hx]; simp only; omega
      · have hx8 : b[a].toNat ≤ 8 := by omega
        have hz : ∀ h2 : a + 1 < b.length, b[a].toNat = 0 ∨ b[a + 1].toNat ≠ 0 := fun h2 => by
          by_cases h0 : b[a].toNat = 0
          · exact .inl h0
          · exact .inr fun h3 => hx (.inr ⟨by omega, h2, h3⟩)
        by_cases hs : b.length ≤ a + b[a].toNat
        · rw [numAt_short ha hx8 hz hs]; simp only; omega
        · rw [numAt_yes ha hx8 hz (by omega)]
          have := unB_8 ((b.drop (a + 1)).take b[a].toNat) (by simp; omega)
          simp only; omega
    · have : a = b.length := by omega
      subst this
      rw [numAt_end]; simp only; omega
  · rw [numAt_out (by omega)]; simp only; omega
/-- A number that stands there. -/
theorem numAt_ok {b : List UInt8} {i : Int} (h : (numAt b i).2.2 = 0) : 0 ≤ i ∧ i + 1 ≤ (numAt b i).2.1 ∧ (numAt b i).2.1 ≤ (b.length : Int) := by
  by_cases hi : 0 ≤ i ∧ i ≤ (b.length : Int)
  · have hr := (numAt_range b i).2.2.2.1
    refine ⟨hi.1, ?_, hr⟩
    obtain ⟨a, rfl⟩ := Int.eq_ofNat_of_zero_le hi.1
    by_cases ha : a < b.length
    · by_cases hx : 8 < b[a].toNat ∨ (0 < b[a].toNat ∧ ∃ h2 : a + 1 < b.length, b[a + 1].toNat = 0)
      · rw [numAt_text ha hx] at h; simp at h
      · have hx8 : b[a].toNat ≤ 8 := by omega
        have hz : ∀ h2 : a + 1 < b.length, b[a].toNat = 0 ∨ b[a + 1].toNat ≠ 0 := fun h2 => by
          by_cases h0 : b[a].toNat = 0
          · exact .inl h0
          · exact .inr fun h3 => hx (.inr ⟨by omega, h2, h3⟩)
        by_cases hs : b.length ≤ a + b[a].toNat
        · rw [numAt_short ha hx8 hz hs] at h; simp at h
        · rw [numAt_yes ha hx8 hz (by omega)]
          simp only; omega
    · have : a = b.length := by omega
      subst this
      rw [numAt_end] at h; simp at h
  · rw [numAt_out (by omega)] at h; simp at h

/-- The list at a place. -/
def bytesAt (b : List UInt8) (i : Int) : List UInt8 × Int × Int :=
  if (numAt b i).2.2 = 0 then
    (if (numAt b i).2.1 + (numAt b i).1 ≤ (b.length : Int) then ((b.drop (numAt b i).2.1.toNat).take (numAt b i).1.toNat, (numAt b i).2.1 + (numAt b i).1, 0) else ([], 0, 5))
  else ([], 0, (numAt b i).2.2)

/-- Four bytes and a number below 2^32. -/
def four4 (n : Nat) : List UInt8 := [UInt8.ofNat (n / 16777216), UInt8.ofNat (n / 65536 % 256), UInt8.ofNat (n / 256 % 256), UInt8.ofNat (n % 256)]
theorem four_un {l : List UInt8} (h : l.length = 4) : four4 (unB l) = l := by
  match l, h with
  | [a, b, c, d], _ =>
    have h1 := a.toNat_lt
    have h2 := b.toNat_lt
    have h3 := c.toNat_lt
    have h4 := d.toNat_lt
    have e : unB [a, b, c, d] = ((a.toNat * 256 + b.toNat) * 256 + c.toNat) * 256 + d.toNat := by simp [unB]
    rw [e, four4]
    refine List.cons_eq_cons.2 ⟨?_, List.cons_eq_cons.2 ⟨?_, List.cons_eq_cons.2 ⟨?_, List.cons_eq_cons.2 ⟨?_, rfl⟩⟩⟩⟩ <;> (apply UInt8.toNat_inj.1; rw [UInt8.toNat_ofNat']; omega)
theorem un_four {n : Nat} (h : n < 4294967296) : unB (four4 n) = n := by
  have e : unB (four4 n) = (((UInt8.ofNat (n / 16777216)).toNat * 256 + (UInt8.ofNat (n / 65536 % 256)).toNat) * 256 + (UInt8.ofNat (n / 256 % 256)).toNat) * 256 + (UInt8.ofNat (n % 256)).toNat := by simp [unB, four4]
  rw [e]
  simp only [UInt8.toNat_ofNat']
  omega

/-- The data of a frame at a place. -/
def unfrAt (b : List UInt8) (i : Int) : List UInt8 × Int × Int :=
  if 0 ≤ i ∧ i ≤ (b.length : Int) then
    (if (b.length : Int) - i < 8 then ([], 0, 5)
     else if 65536 < unB ((b.drop i.toNat).take 4) then ([], 0, 7)
     else if (b.length : Int) - i - 8 < (unB ((b.drop i.toNat).take 4) : Int) then ([], 0, 5)
     else if crc ((b.drop i.toNat).take 4 ++ (b.drop (i.toNat + 8)).take (unB ((b.drop i.toNat).take 4))) = unB ((b.drop (i.toNat + 4)).take 4) then ((b.drop (i.toNat + 8)).take (unB ((b.drop i.toNat).take 4)), i + 8 + (unB ((b.drop i.toNat).take 4) : Int), 0)
     else ([], 0, 6))
  else ([], 0, 1)
end Go.Proofs.YtjgonfnpfbifjaaGreatDoor
