/- Plain: what the reference's readers of numbers and keys count. -/
import Derived.Test.YtcinohmhhglpjaaDoorScrCl
namespace Go.Proofs.YtcinohmhhglpjaaDoor
open Go.Lib

def Digit (c : UInt8) : Prop := 48 ≤ c.toNat ∧ c.toNat ≤ 57
def val (l : List UInt8) : Nat := l.foldl (fun n c => n * 10 + (c.toNat - 48)) 0
theorem val_snoc (l : List UInt8) (c : UInt8) : val (l ++ [c]) = val l * 10 + (c.toNat - 48) := by simp [val]
theorem val_le (l r : List UInt8) : val l ≤ val (l ++ r) := by
  induction r generalizing l with
  | nil => simp
  | cons c r ih =>
    have h := ih (l ++ [c])
    rw [val_snoc] at h
    have e : l ++ c :: r = l ++ [c] ++ r := by simp
    rw [e]
    omega
theorem val_dec (u : Nat) : val (decDigits u) = u := by
  induction u using Nat.strongRecOn with
  | _ u ih =>
    by_cases h10 : u < 10
    · rw [decDigits, dif_pos h10]
      have e : (UInt8.ofNat (48 + u)).toNat = 48 + u := by rw [UInt8.toNat_ofNat']; omega
      simp [val]
      omega
    · rw [dec_step h10, val_snoc, ih (u / 10) (by omega)]
      have e : (UInt8.ofNat (48 + u % 10)).toNat = 48 + u % 10 := by rw [UInt8.toNat_ofNat']; omega
      omega
theorem u8_eq {c : UInt8} {n : Nat} (h : n < 256) (e : c.toNat = n) : c = UInt8.ofNat n := by
  apply UInt8.toNat_inj.1
  rw [UInt8.toNat_ofNat']
  omega
theorem val_pos : ∀ (l : List UInt8) (c : UInt8), Digit c → c ≠ 48 → 0 < val (c :: l) := by
  intro l c h h0
  have := val_le [c] l
  have e : val [c] = c.toNat - 48 := by simp [val]
  rw [e] at this
  have h1 : c.toNat ≠ 48 := fun e => h0 (u8_eq (by decide) e)
  obtain ⟨h2, h3⟩ := h
  have : 0 < c.toNat - 48 := by omega
  exact Nat.lt_of_lt_of_le this (by assumption)
theorem dec_val : ∀ (n : Nat) (l : List UInt8), l.length ≤ n → (∀ c ∈ l, Digit c) → (l = [48] ∨ ∃ c r, l = c :: r ∧ c ≠ 48) → decDigits (val l) = l
  | 0, l, hn, hd, h => by
    have : l = [] := List.eq_nil_of_length_eq_zero (by omega)
    subst this
    rcases h with h | ⟨c, r, h, _⟩ <;> cases h
  | n + 1, l, hn, hd, h => by
    rcases h with rfl | ⟨c, r, rfl, hc⟩
    · rw [show val [48] = 0 from rfl, decDigits, dif_pos (by decide)]; rfl
    · rcases List.eq_nil_or_concat r with rfl | ⟨m, d, rfl⟩
      · have hcd := hd c (by simp)
        have e : val [c] = c.toNat - 48 := by simp [val]
        obtain ⟨h2, h3⟩ := hcd
        rw [e, decDigits, dif_pos (by omega)]
        congr 1
        exact (u8_eq (by omega) (by omega)).symm
      · rw [List.concat_eq_append] at *
        have hcd := hd c (by simp)
        have hdd := hd d (by simp)
        have ih := dec_val n (c :: m) (by simp at hn ⊢; omega) (fun x hx => hd x (by rcases List.mem_cons.1 hx with rfl | hx <;> simp_all)) (.inr ⟨c, m, rfl, hc⟩)
        have hp := val_pos m c hcd hc
        have e : c :: (m ++ [d]) = (c :: m) ++ [d] := by simp
        obtain ⟨h2, h3⟩ := hdd
        rw [e, val_snoc, dec_step (by omega), show (val (c :: m) * 10 + (d.toNat - 48)) / 10 = val (c :: m) by omega, ih]
        congr 2
        exact (u8_eq (by omega) (by omega)).symm
theorem dec_lead {u : Nat} {r : List UInt8} (h : decDigits u = 48 :: r) : r = [] := by
  by_cases h10 : u < 10
  · rw [decDigits, dif_pos h10] at h
    injection h with _ h
    exact h.symm
  · exfalso
    have : ∀ (u : Nat), 1 ≤ u → ∃ c r, decDigits u = c :: r ∧ c ≠ 48 := by
      intro u
      induction u using Nat.strongRecOn with
      | _ u ih =>
        intro hu
        by_cases h10 : u < 10
        · refine ⟨_, [], by rw [decDigits, dif_pos h10], fun e => ?_⟩
          have := congrArg UInt8.toNat e
          rw [UInt8.toNat_ofNat', show (48 : UInt8).toNat = 48 from rfl] at this
          omega
        · obtain ⟨c, r, h1, h2⟩ := ih (u / 10) (by omega) (by omega)
          exact ⟨c, _, by rw [dec_step h10, h1]; rfl, h2⟩
    obtain ⟨c, r', e, hc⟩ := this u (by omega)
    rw [e] at h
    injection h with h
    exact hc h
theorem pnum_digits {s : List UInt8} {n : Int} (h : pnum s = some n) : (∀ c ∈ s, Digit c) ∧ (val s : Int) = n ∧ (s = [48] ∨ ∃ c r, s = c :: r ∧ c ≠ 48) := by
  obtain ⟨h1, h2, h3⟩ := pnum_some h
  obtain ⟨u, rfl⟩ := Int.eq_ofNat_of_zero_le h2
  rw [udec_nat] at h1
  subst h1
  refine ⟨fun c hc => dec_range u c hc, by rw [val_dec], ?_⟩
  obtain ⟨c, r, e, _⟩ := dec_head u
  rw [e]
  by_cases hc : c = 48
  · subst hc
    rw [dec_lead e]
    exact .inl rfl
  · exact .inr ⟨c, r, rfl, hc⟩
theorem pnum_val {s : List UInt8} (hd : ∀ c ∈ s, Digit c) (hv : val s ≤ 18446744073709551615) (h : s = [48] ∨ ∃ c r, s = c :: r ∧ c ≠ 48) : pnum s = some (val s : Int) := by
  have e := pnum_udec (n := (val s : Int)) (by omega) (by omega)
  rw [udec_nat, dec_val _ s (Nat.le_refl _) hd h] at e
  exact e
theorem pnum_bad {s : List UInt8} {k : Nat} (h : k < s.length) (hc : ¬ Digit s[k]) : pnum s = none := by
  cases e : pnum s with
  | none => rfl
  | some n => exact absurd ((pnum_digits e).1 _ (List.getElem_mem h)) hc
theorem pnum_over {s : List UInt8} {k : Nat} (h : k < s.length) (hc : 18446744073709551615 < val (s.take k) * 10 + (s[k].toNat - 48)) : pnum s = none := by
  cases e : pnum s with
  | none => rfl
  | some n =>
    have h1 := (pnum_some e).2.2
    have h2 := (pnum_digits e).2.1
    have h3 := val_le (s.take (k + 1)) (s.drop (k + 1))
    rw [List.take_append_drop, List.take_succ_eq_append_getElem h, val_snoc] at h3
    omega
theorem pnum_lead {s : List UInt8} (h : ¬ (s = [48] ∨ ∃ c r, s = c :: r ∧ c ≠ 48)) : pnum s = none := by
  cases e : pnum s with
  | none => rfl
  | some n => exact absurd (pnum_digits e).2.2 h
theorem val_take {s : List UInt8} {k : Nat} (h : k < s.length) : val (s.take (k + 1)) = val (s.take k) * 10 + (s[k].toNat - 48) := by
  rw [List.take_succ_eq_append_getElem h, val_snoc]

theorem pint_minus {r : List UInt8} (hr : r ≠ []) : pint (45 :: r) = match pnum r with
    | some n => if 0 < n ∧ n ≤ 9223372036854775808 then some (-n) else none
    | none => none := by
  cases e : pnum r with
  | some n =>
    simp only
    obtain ⟨h1, h2, h3⟩ := pnum_some e
    split
    · rename_i h
      have := pint_itoa (n := -n) (by omega) (by omega)
      rw [← this]
      congr 1
      unfold itoa
      rw [if_pos (by omega), ← h1]
      unfold udec
      congr 2
      omega
    · rename_i h
      cases e2 : pint (45 :: r) with
      | none => rfl
      | some z =>
        exfalso
        obtain ⟨g1, g2, g3⟩ := pint_some e2
        unfold itoa at g1
        split at g1
        · rename_i hz
          injection g1 with _ g1
          have g4 := pnum_udec (n := (z.natAbs : Int)) (by omega) (by omega)
          rw [udec_nat, g1, e] at g4
          injection g4 with g4
          omega
        · have := dec_range z.toNat 45 (by rw [g1]; simp)
          revert this
          decide
  | none =>
    simp only
    cases e2 : pint (45 :: r) with
    | none => rfl
    | some z =>
      exfalso
      obtain ⟨g1, g2, g3⟩ := pint_some e2
      unfold itoa at g1
      split at g1
      · rename_i hz
        injection g1 with _ g1
        have g4 := pnum_udec (n := (z.natAbs : Int)) (by omega) (by omega)
        rw [udec_nat, g1, e] at g4
        cases g4
      · have := dec_range z.toNat 45 (by rw [g1]; simp)
        revert this
        decide
theorem pint_plain {s : List UInt8} (hs : ∀ r, s = 45 :: r → r = []) : pint s = match pnum s with
    | some n => if n ≤ 9223372036854775807 then some n else none
    | none => none := by
  have key : ∀ z, pint s = some z → 0 ≤ z ∧ pnum s = some z := by
    intro z e2
    obtain ⟨g1, g2, g3⟩ := pint_some e2
    unfold itoa at g1
    split at g1
    · rename_i hz
      exact absurd (hs _ g1.symm) (dec_ne _)
    · rename_i hz
      have g4 := pnum_udec (n := (z.toNat : Int)) (by omega) (by omega)
      rw [udec_nat, g1] at g4
      exact ⟨by omega, by rw [g4]; congr 1; omega⟩
  cases e : pnum s with
  | some n =>
    simp only
    obtain ⟨h1, h2, h3⟩ := pnum_some e
    split
    · rename_i h
      have := pint_itoa (n := n) (by omega) (by omega)
      rw [← this]
      congr 1
      unfold itoa
      rw [if_neg (by omega), ← h1]
      rfl
    · rename_i h
      cases e2 : pint s with
      | none => rfl
      | some z =>
        exfalso
        have := key z e2
        rw [e] at this
        have h4 := (pint_some e2).2.2
        have := this.2
        injection this with this
        omega
  | none =>
    simp only
    cases e2 : pint s with
    | none => rfl
    | some z =>
      have := (key z e2).2
      rw [e] at this
      cases this

theorem unhex_snoc : ∀ (s t : List UInt8) (a b : UInt8) (x y : Nat), unhex s = some t → unfig a = some x → unfig b = some y → unhex (s ++ [a, b]) = some (t ++ [UInt8.ofNat (16 * x + y)])
  | [], t, a, b, x, y, h, ha, hb => by
    simp only [unhex, Option.some.injEq] at h
    subst h
    simp [unhex, ha, hb]
  | [_], t, a, b, x, y, h, ha, hb => by simp [unhex] at h
  | c :: d :: s, t, a, b, x, y, h, ha, hb => by
    rw [unhex] at h
    split at h
    · rename_i p q u h1 h2 h3
      injection h with h
      subst h
      rw [List.cons_append, List.cons_append, unhex, h1, h2, unhex_snoc s u a b x y h3 ha hb]
      rfl
    · cases h
theorem unhex_all : ∀ {s t : List UInt8}, unhex s = some t → (∀ c ∈ s, (unfig c).isSome = true) ∧ s.length = 2 * t.length
  | [], t, h => by
    simp only [unhex, Option.some.injEq] at h
    subst h
    simp
  | [_], t, h => by simp [unhex] at h
  | c :: d :: s, t, h => by
    rw [unhex] at h
    split at h
    · rename_i p q u h1 h2 h3
      injection h with h
      subst h
      obtain ⟨i1, i2⟩ := unhex_all h3
      refine ⟨fun x hx => ?_, by simp [i2]; omega⟩
      rcases List.mem_cons.1 hx with rfl | hx
      · simp [h1]
      · rcases List.mem_cons.1 hx with rfl | hx
        · simp [h2]
        · exact i1 x hx
    · cases h
theorem pkey_bad {r : List UInt8} {k : Nat} (h : k < r.length) (hc : unfig r[k] = none) : pkey (120 :: r) = none := by
  cases e : pkey (120 :: r) with
  | none => rfl
  | some t =>
    obtain ⟨h1, h2⟩ := pkey_some e
    injection h1 with _ h1
    subst h1
    have := (unhex_all (unhex_hexs t)).1 _ (List.getElem_mem h)
    rw [hc] at this
    cases this
theorem pkey_head {s : List UInt8} (h : ∀ r, s = 120 :: r → r.length % 2 = 1 ∨ 128 < r.length) : pkey s = none := by
  cases e : pkey s with
  | none => rfl
  | some t =>
    exfalso
    obtain ⟨h1, h2⟩ := pkey_some e
    have := h _ h1.symm
    rw [hexs_len] at this
    omega
theorem pkey_ok {r t : List UInt8} (h : unhex r = some t) (hl : r.length ≤ 128) : pkey (120 :: r) = some t := by
  have := (unhex_all h).2
  simp only [pkey, if_true, h]
  rw [if_pos (by omega)]
end Go.Proofs.YtcinohmhhglpjaaDoor
