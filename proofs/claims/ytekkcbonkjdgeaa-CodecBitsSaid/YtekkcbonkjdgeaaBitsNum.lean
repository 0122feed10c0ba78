/- Plain: a frame in which one byte is another one: no program. -/
import Derived.Test.YtekkcbonkjdgeaaReadNum
namespace Go.Proofs.Ytekkcbonkjdgeaa

theorem xor_cancel {a b p : Nat} (h : a ^^^ p = b ^^^ p) : a = b := by
  have := congrArg (· ^^^ p) h
  simpa [Nat.xor_assoc] using this
theorem xor_cancel_l {a b p : Nat} (h : p ^^^ a = p ^^^ b) : a = b := by
  rw [Nat.xor_comm p a, Nat.xor_comm p b] at h
  exact xor_cancel h
theorem crcBit_odd {r : Nat} (h : r < 4294967296) : r % 2 = 1 ↔ 2147483648 ≤ crcBit r := by
  unfold crcBit
  constructor
  · intro ho
    rw [if_pos ho]
    refine Nat.le_of_not_lt fun hlt => ?_
    have h1 := Nat.testBit_lt_two_pow (i := 31) (show r / 2 ^^^ poly < 2 ^ 31 from hlt)
    rw [Nat.testBit_xor, Nat.testBit_lt_two_pow (i := 31) (show r / 2 < 2 ^ 31 by omega)] at h1
    revert h1
    decide
  · intro hge
    by_cases ho : r % 2 = 1
    · exact ho
    · rw [if_neg ho, Nat.xor_zero] at hge
      omega
theorem crcBit_inj {r s : Nat} (hr : r < 4294967296) (hs : s < 4294967296) (h : crcBit r = crcBit s) : r = s := by
  have hp : r % 2 = 1 ↔ s % 2 = 1 := by rw [crcBit_odd hr, crcBit_odd hs, h]
  unfold crcBit at h
  by_cases ho : r % 2 = 1
  · rw [if_pos ho, if_pos (hp.1 ho)] at h
    have := xor_cancel h
    have := hp.1 ho
    omega
  · have hso : ¬ s % 2 = 1 := fun e => ho (hp.2 e)
    rw [if_neg ho, if_neg hso] at h
    have := xor_cancel h
    omega
theorem crcBits_inj (k : Nat) : ∀ {r s : Nat}, r < 4294967296 → s < 4294967296 → crcBits k r = crcBits k s → r = s := by
  induction k with
  | zero => intro r s _ _ h; exact h
  | succ k ih => intro r s hr hs h; exact crcBit_inj hr hs (ih (crcBit_lt hr) (crcBit_lt hs) h)
theorem crcByte_inj_r {r s x : Nat} (hr : r < 4294967296) (hs : s < 4294967296) (hx : x < 4294967296) (h : crcByte r x = crcByte s x) : r = s :=
  xor_cancel (crcBits_inj 8 (xor_lt hr hx) (xor_lt hs hx) h)
theorem crcByte_inj_x {r x y : Nat} (hr : r < 4294967296) (hx : x < 4294967296) (hy : y < 4294967296) (h : crcByte r x = crcByte r y) : x = y :=
  xor_cancel_l (crcBits_inj 8 (xor_lt hr hx) (xor_lt hr hy) h)
theorem crcL_inj (l : List UInt8) : ∀ {r s : Nat}, r < 4294967296 → s < 4294967296 → crcL r l = crcL s l → r = s := by
  induction l with
  | nil => intro r s _ _ h; exact h
  | cons x l ih =>
    intro r s hr hs h
    have hx := x.toNat_lt
    exact crcByte_inj_r hr hs (by omega) (ih (crcByte_lt hr (by omega)) (crcByte_lt hs (by omega)) h)
theorem crcL_set (l : List UInt8) : ∀ (r j : Nat) (y : UInt8) (hj : j < l.length), r < 4294967296 → y ≠ l[j] → crcL r (l.set j y) ≠ crcL r l := by
  induction l with
  | nil => intro r j y hj; simp at hj
  | cons x l ih =>
    intro r j y hj hr hne h
    have hx := x.toNat_lt
    have hy := y.toNat_lt
    cases j with
    | zero =>
      have h1 : crcL (crcByte r y.toNat) l = crcL (crcByte r x.toNat) l := h
      have h2 := crcL_inj l (crcByte_lt hr (by omega)) (crcByte_lt hr (by omega)) h1
      have h3 := crcByte_inj_x hr (by omega) (by omega) h2
      exact hne (UInt8.toNat_inj.1 h3)
    | succ j =>
      have h1 : crcL (crcByte r x.toNat) (l.set j y) = crcL (crcByte r x.toNat) l := h
      exact ih _ j y (by simpa using hj) (crcByte_lt hr (by omega)) (by simpa using hne) h1
theorem crc_set (l : List UInt8) (j : Nat) (y : UInt8) (hj : j < l.length) (hne : y ≠ l[j]) : crc (l.set j y) ≠ crc l := by
  have h := crcL_set l 4294967295 j y hj (by omega) hne
  have h1 := crcL_lt (r := 4294967295) (by omega) (l.set j y)
  have h2 := crcL_lt (r := 4294967295) (by omega) l
  unfold crc
  omega
theorem set_ne {l : List UInt8} {j : Nat} {y : UInt8} (hj : j < l.length) (hne : y ≠ l[j]) : l.set j y ≠ l := fun h => hne (by
  have := congrArg (fun q => q[j]?) h
  simp only [List.getElem?_set_self hj] at this
  rw [List.getElem?_eq_getElem hj] at this
  injection this)
theorem unB_inj4 {l m : List UInt8} (hl : l.length = 4) (hm : m.length = 4) (h : unB l = unB m) : l = m := by rw [← four_un hl, ← four_un hm, h]

/-- A frame whose byte p behind the length's is another one: its sum does not fit. -/
theorem unfr_bad (d : List UInt8) (hd : d.length ≤ 65536) (p : Nat) (hp : 4 + p < 8 + d.length) (y : UInt8) (f : List UInt8) (hf : f = four4 d.length ++ four4 (crc (four4 d.length ++ d)) ++ d) (hfl : f.length = 8 + d.length) (hy : ∀ h : 4 + p < f.length, y ≠ f[4 + p]) :
    unfrAt (f.set (4 + p) y) 0 = ([], 0, 6) := by
  have hcl : crc (four4 d.length ++ d) < 4294967296 := by unfold crc; omega
  have e4 : (f.set (4 + p) y).take 4 = four4 d.length := by
    rw [List.take_set_of_le (by omega), hf, List.append_assoc, List.take_append_of_le_length (by simp [four4])]
    rfl
  have hne := hy (by omega)
  have hn : unB (four4 d.length) = d.length := un_four (by omega)
  rw [unfrAt, if_pos (by omega), List.length_set]
  simp only [Int.toNat_zero, List.drop_zero, Nat.zero_add, e4, hn]
  rw [if_neg (by omega), if_neg (by omega), if_neg (by omega), if_neg]
  by_cases h4 : p < 4
  · have e1 : ((f.set (4 + p) y).drop 8).take d.length = d := by
      rw [List.drop_set_of_lt (by omega), hf, List.drop_append_of_le_length (by simp [four4]), List.drop_of_length_le (by simp [four4])]
      simp
    have e2 : ((f.set (4 + p) y).drop 4).take 4 = (four4 (crc (four4 d.length ++ d))).set p y := by
      rw [List.drop_set, if_neg (by omega), List.take_set, hf, List.append_assoc, List.drop_append_of_le_length (by simp [four4]), List.drop_of_length_le (by simp [four4]), List.nil_append, List.take_append_of_le_length (by simp [four4]), List.take_of_length_le (by simp [four4])]
      congr 1
      omega
    rw [e1, e2]
    intro h
    have hc4 : (four4 (crc (four4 d.length ++ d))).length = 4 := rfl
    have h2 : unB (four4 (crc (four4 d.length ++ d))) = unB ((four4 (crc (four4 d.length ++ d))).set p y) := by rw [un_four hcl]; exact h
    have h3 := unB_inj4 hc4 (by rw [List.length_set]; rfl) h2
    refine set_ne (l := four4 (crc (four4 d.length ++ d))) (j := p) (y := y) (by rw [hc4]; omega) ?_ h3.symm
    intro hyy
    apply hne
    rw [hyy]
    have : f[4 + p]? = some ((four4 (crc (four4 d.length ++ d)))[p]'(by rw [hc4]; omega)) := by
      rw [hf, List.append_assoc, List.getElem?_append_right (by simp [four4]), List.getElem?_append_left (by simp [four4]; omega)]
      rw [show 4 + p - (four4 d.length).length = p by simp [four4]]
      exact List.getElem?_eq_getElem _
    rw [List.getElem?_eq_getElem (by omega)] at this
    injection this with this
    exact this.symm
  · obtain ⟨q, rfl⟩ : ∃ q, p = q + 4 := ⟨p - 4, by omega⟩
    have hq : q < d.length := by omega
    have e1 : ((f.set (4 + (q + 4)) y).drop 8).take d.length = d.set q y := by
      rw [List.drop_set, if_neg (by omega), show 4 + (q + 4) - 8 = q by omega, hf, List.drop_append_of_le_length (by simp [four4]), List.drop_of_length_le (by simp [four4]), List.nil_append]
      exact List.take_of_length_le (by simp)
    have e2 : ((f.set (4 + (q + 4)) y).drop 4).take 4 = four4 (crc (four4 d.length ++ d)) := by
      rw [List.drop_set, if_neg (by omega), List.take_set_of_le (by omega), hf, List.append_assoc, List.drop_append_of_le_length (by simp [four4]), List.drop_of_length_le (by simp [four4]), List.nil_append, List.take_append_of_le_length (by simp [four4]), List.take_of_length_le (by simp [four4])]
    rw [e1, e2, un_four hcl]
    have e3 : four4 d.length ++ d.set q y = (four4 d.length ++ d).set (4 + q) y := by
      rw [List.set_append_right _ _ (by simp [four4])]
      congr 2
      simp [four4]
    rw [e3]
    refine crc_set _ _ _ (by simp [four4]; omega) ?_
    intro hyy
    apply hne
    rw [hyy]
    have h1 : (four4 d.length ++ d)[4 + q]? = some d[q] := by
      rw [List.getElem?_append_right (by simp [four4]), show 4 + q - (four4 d.length).length = q by simp [four4], List.getElem?_eq_getElem hq]
    have h2 : f[4 + (q + 4)]? = some d[q] := by
      rw [hf, List.getElem?_append_right (by simp [four4]; omega), show 4 + (q + 4) - (four4 d.length ++ four4 (crc (four4 d.length ++ d))).length = q by simp [four4]; omega, List.getElem?_eq_getElem hq]
    rw [List.getElem?_eq_getElem (by simp [four4]; omega)] at h1
    rw [List.getElem?_eq_getElem (by omega)] at h2
    injection h1 with h1
    injection h2 with h2
    rw [h1, h2]
end Go.Proofs.Ytekkcbonkjdgeaa
