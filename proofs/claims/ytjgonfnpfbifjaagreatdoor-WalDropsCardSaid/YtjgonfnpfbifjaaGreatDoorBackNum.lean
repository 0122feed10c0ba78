/- Plain: what was written is read: no program. -/
import Derived.Test.YtjgonfnpfbifjaaGreatDoorReadNum
namespace Go.Proofs.YtjgonfnpfbifjaaGreatDoor

theorem lowF_un (f n : Nat) (h : n < 256 ^ f) : unB (lowF f n).reverse = n := by
  induction f generalizing n with
  | zero => simp at h; subst h; rfl
  | succ f ih =>
    by_cases h0 : n = 0
    · subst h0; rw [lowF_zero]; rfl
    · rw [lowF, if_neg h0, List.reverse_cons, unB_snoc, ih (n / 256) (by rw [Nat.pow_succ] at h; omega), UInt8.toNat_ofNat']
      omega
theorem low_un (n : Nat) (h : n < 18446744073709551616) : unB (low n).reverse = n := lowF_un 8 n (by omega)
/-- The highest byte is none that is 0. -/
theorem lowF_top (f n : Nat) (h : n < 256 ^ f) (h0 : 0 < (lowF f n).length) : ∀ (h1 : 0 < (lowF f n).reverse.length), (lowF f n).reverse[0].toNat ≠ 0 := by
  intro h1
  have hn : n ≠ 0 := by rintro rfl; rw [lowF_zero] at h0; simp at h0
  obtain ⟨a, b, c⟩ := lowF_bounds f n h hn
  have hg : (lowF f n).reverse[0] = (lowF f n)[(lowF f n).length - 1]'(by omega) := by rw [List.getElem_reverse]; congr 1
  rw [hg, lowF_get, UInt8.toNat_ofNat', Nat.mod_mod]
  clear hg
  obtain ⟨k, hk⟩ : ∃ k, (lowF f n).length - 1 = k := ⟨_, rfl⟩
  rw [hk] at b ⊢
  have hc : n / 256 ^ k < 256 := by
    rw [Nat.div_lt_iff_lt_mul (Nat.pow_pos (by omega)), Nat.mul_comm, ← Nat.pow_succ]
    rw [show k.succ = (lowF f n).length by omega]
    exact c
  have hp : 1 ≤ n / 256 ^ k := (Nat.le_div_iff_mul_le (Nat.pow_pos (by omega))).2 (by rw [Nat.one_mul]; exact b)
  omega
theorem numAt_put (p r : List UInt8) (n : Nat) (h : n < 18446744073709551616) : numAt (p ++ (putNum n ++ r)) (p.length : Int) = ((n : Int), (p.length : Int) + ((putNum n).length : Int), 0) := by
  have h8 := low_len n
  have hpl : (putNum n).length = 1 + (low n).length := by simp [putNum]; omega
  have hlen : (p ++ (putNum n ++ r)).length = p.length + (1 + (low n).length) + r.length := by simp [hpl]; omega
  have hb : p.length < (p ++ (putNum n ++ r)).length := by omega
  have hx : (p ++ (putNum n ++ r))[p.length].toNat = (low n).length := by
    rw [List.getElem_append_right (Nat.le_refl _)]
    simp only [Nat.sub_self, putNum, List.cons_append, List.getElem_cons_zero]
    rw [UInt8.toNat_ofNat']
    omega
  have hd : (p ++ (putNum n ++ r)).drop (p.length + 1) = (low n).reverse ++ r := by
    rw [List.drop_append, List.drop_of_length_le (by omega), List.nil_append, show p.length + 1 - p.length = 1 by omega]
    rfl
  have hy := numAt_yes hb (by omega) (fun h2 => by
    by_cases h0 : (low n).length = 0
    · exact .inl (by omega)
    · refine .inr ?_
      have e : (p ++ (putNum n ++ r))[p.length + 1] = (low n).reverse[0]'(by simp; omega) := by
        have h3 : (p ++ (putNum n ++ r))[p.length + 1]? = some ((low n).reverse[0]'(by simp; omega)) := by
          have h4 : ((p ++ (putNum n ++ r)).drop (p.length + 1))[0]? = some ((low n).reverse[0]'(by simp; omega)) := by
            rw [hd, List.getElem?_append_left (by simp; omega)]
            exact List.getElem?_eq_getElem _
          rw [List.getElem?_drop, Nat.add_zero] at h4
          exact h4
        rw [List.getElem?_eq_getElem h2] at h3
        injection h3
      rw [e]
      exact lowF_top 8 n (by omega) (Nat.pos_of_ne_zero h0) _) (by omega)
  rw [hy, hx, hd, List.take_append_of_le_length (by simp), List.take_of_length_le (by simp), low_un n h, hpl]
  simp only [Prod.mk.injEq, true_and, and_true]
  omega
theorem bytesAt_put (p r d : List UInt8) (h : d.length < 18446744073709551616) : bytesAt (p ++ ((putNum d.length ++ d) ++ r)) (p.length : Int) = (d, (p.length : Int) + ((putNum d.length).length : Int) + (d.length : Int), 0) := by
  have hn := numAt_put p (d ++ r) d.length h
  rw [← List.append_assoc (putNum d.length)] at hn
  rw [bytesAt, hn]
  simp only [if_true]
  rw [if_pos (by simp; omega)]
  have e : ((p.length : Int) + ((putNum d.length).length : Int)).toNat = p.length + (putNum d.length).length := by omega
  rw [e, Int.toNat_natCast]
  have e2 : (p ++ ((putNum d.length ++ d) ++ r)).drop (p.length + (putNum d.length).length) = d ++ r := by
    rw [← List.append_assoc, ← List.append_assoc, List.append_assoc (p ++ putNum d.length)]
    exact List.drop_left' (by simp)
  rw [e2, List.take_append_of_le_length (Nat.le_refl _), List.take_of_length_le (Nat.le_refl _)]
theorem unfrAt_put (p d f : List UInt8) (hf : f = four4 d.length ++ four4 (crc (four4 d.length ++ d)) ++ d) (hd : d.length ≤ 65536) : unfrAt (p ++ f) (p.length : Int) = (d, (p.length : Int) + 8 + (d.length : Int), 0) := by
  have hfl : f.length = 8 + d.length := by rw [hf]; simp [four4]; omega
  have hcl : crc (four4 d.length ++ d) < 4294967296 := by unfold crc; omega
  have e0 : (p ++ f).drop p.length = f := List.drop_left' rfl
  have e4 : (p ++ f).drop (p.length + 4) = four4 (crc (four4 d.length ++ d)) ++ d := by
    rw [← List.drop_drop, e0, hf, List.append_assoc]
    exact List.drop_left' rfl
  have e8 : (p ++ f).drop (p.length + 8) = d := by
    rw [← List.drop_drop, e0, hf]
    exact List.drop_left' (by simp [four4])
  have t4 : f.take 4 = four4 d.length := by rw [hf, List.append_assoc]; exact List.take_left' rfl
  have hn : unB (four4 d.length) = d.length := un_four (by omega)
  rw [unfrAt, if_pos (by simp; omega), if_neg (by simp; omega), Int.toNat_natCast, e0, e4, e8, t4, hn, if_neg (by omega), if_neg (by simp; omega), if_pos]
  · rw [List.take_of_length_le (Nat.le_refl _)]
  · rw [List.take_of_length_le (Nat.le_refl _), List.take_left' (show (four4 (crc (four4 d.length ++ d))).length = 4 from rfl), un_four hcl]
theorem unfrAt_cut (d f : List UInt8) (hf : f = four4 d.length ++ four4 (crc (four4 d.length ++ d)) ++ d) (hd : d.length ≤ 65536) (m : Nat) (hm : m < f.length) : unfrAt (f.take m) 0 = ([], 0, 5) := by
  have hfl : f.length = 8 + d.length := by rw [hf]; simp [four4]; omega
  have hl : (f.take m).length = m := by rw [List.length_take]; omega
  rw [unfrAt, if_pos (by omega), hl]
  by_cases h8 : m < 8
  · rw [if_pos (by omega)]
  · have t4 : (f.take m).take 4 = four4 d.length := by
      rw [List.take_take, Nat.min_eq_left (by omega), hf, List.append_assoc]; exact List.take_left' rfl
    have hn : unB (four4 d.length) = d.length := un_four (by omega)
    rw [if_neg (by omega)]
    simp only [Int.toNat_zero, List.drop_zero, t4, hn]
    rw [if_neg (by omega), if_pos (by omega)]
end Go.Proofs.YtjgonfnpfbifjaaGreatDoor
