/- Numbers as bytes are told apart: no program. -/
import Derived.Test.YtekkcbonkjdgeaaCodecNum
namespace Go.Proofs.Ytekkcbonkjdgeaa

def valL : List UInt8 → Nat
  | [] => 0
  | d :: r => d.toNat + 256 * valL r
theorem valL_lowF (f n : Nat) (h : n < 256 ^ f) : valL (lowF f n) = n := by
  induction f generalizing n with
  | zero => simp at h; subst h; rfl
  | succ f ih =>
    by_cases h0 : n = 0
    · subst h0; simp [lowF, valL]
    · have e : lowF (f + 1) n = UInt8.ofNat (n % 256) :: lowF f (n / 256) := by simp [lowF, h0]
      rw [e, valL, ih (n / 256) (by rw [Nat.pow_succ] at h; omega), UInt8.toNat_ofNat']
      omega
theorem low_inj {n m : Nat} (hn : n < 18446744073709551616) (hm : m < 18446744073709551616) (h : low n = low m) : n = m := by
  have h1 := valL_lowF 8 n (by omega)
  have h2 := valL_lowF 8 m (by omega)
  unfold low at h
  rw [h] at h1
  omega

theorem putNum_inj {n m : Nat} {s t : List UInt8} (hn : n < 18446744073709551616) (hm : m < 18446744073709551616) (h : putNum n ++ s <+: putNum m ++ t) : n = m ∧ s <+: t := by
  unfold putNum at h
  simp only [List.cons_append, List.cons_prefix_cons] at h
  obtain ⟨h1, h2⟩ := h
  have l1 := low_len n
  have l2 := low_len m
  have hl : (low n).length = (low m).length := by
    have := congrArg UInt8.toNat h1
    simp only [UInt8.toNat_ofNat'] at this
    omega
  have h3 : (low n).reverse = (low m).reverse := by
    have h4 : (low n).reverse <+: (low m).reverse ++ t := List.IsPrefix.trans (List.prefix_append _ _) h2
    have h5 := List.prefix_of_prefix_length_le h4 (List.prefix_append (low m).reverse t) (by simp [hl])
    exact List.IsPrefix.eq_of_length h5 (by simp [hl])
  have h4 : low n = low m := by simpa using h3
  refine ⟨low_inj hn hm h4, ?_⟩
  rw [h4] at h2
  exact (List.prefix_append_right_inj _).1 h2

def putNums (l : List Int) : List UInt8 := l.flatMap fun z => putNum z.toNat
theorem putNums_snoc (l : List Int) (k : Nat) (h : k < l.length) : putNums (l.take (k + 1)) = putNums (l.take k) ++ putNum l[k].toNat := by
  rw [List.take_succ_eq_append_getElem h]; unfold putNums; rw [List.flatMap_append]; simp
def U64s (l : List Int) : Prop := ∀ z ∈ l, 0 ≤ z ∧ z ≤ 18446744073709551615

theorem putNums_prefix {a b : List Int} (ha : U64s a) (hb : U64s b) : putNums a <+: putNums b ↔ a <+: b := by
  constructor
  · intro h
    induction a generalizing b with
    | nil => exact List.nil_prefix
    | cons x a ih =>
      cases b with
      | nil => simp [putNums, putNum] at h
      | cons y b =>
        obtain ⟨x0, x1⟩ := ha x (by simp)
        obtain ⟨y0, y1⟩ := hb y (by simp)
        have h' : putNum x.toNat ++ putNums a <+: putNum y.toNat ++ putNums b := by simpa [putNums] using h
        obtain ⟨h1, h2⟩ := putNum_inj (by omega) (by omega) h'
        have : x = y := by omega
        subst this
        rw [List.cons_prefix_cons]
        exact ⟨rfl, ih (fun z hz => ha z (by simp [hz])) (fun z hz => hb z (by simp [hz])) h2⟩
  · rintro ⟨t, rfl⟩
    unfold putNums
    rw [List.flatMap_append]
    exact List.prefix_append _ _

/-- Are the first k places of b, as far as a has them, a's? -/
def sameB (a b : List Int) (k : Nat) : Bool := (List.range k).all fun i => decide (a.length ≤ i) || a[i]? == b[i]?
theorem sameB_zero (a b : List Int) : sameB a b 0 = true := rfl
theorem sameB_succ (a b : List Int) (k : Nat) : sameB a b (k + 1) = (sameB a b k && (decide (a.length ≤ k) || a[k]? == b[k]?)) := by
  unfold sameB; rw [List.range_succ, List.all_append]; simp
theorem sameB_prefix (a b : List Int) : (decide (a.length ≤ b.length) && sameB a b b.length) = true ↔ a <+: b := by
  simp only [Bool.and_eq_true, decide_eq_true_eq, sameB, List.all_eq_true, List.mem_range, Bool.or_eq_true, beq_iff_eq]
  constructor
  · rintro ⟨h1, h2⟩
    rw [List.prefix_iff_eq_take]
    apply List.ext_getElem?
    intro i
    rw [List.getElem?_take]
    split
    · rename_i hi
      rcases h2 i (by omega) with h | h
      · omega
      · exact h
    · rename_i hi
      simp; omega
  · rintro ⟨t, rfl⟩
    refine ⟨by simp, fun i hi => ?_⟩
    by_cases h : a.length ≤ i
    · exact .inl h
    · exact .inr (by rw [List.getElem?_append_left (by omega)])
/-- The law's last line. -/
theorem parts_last {a b : List Int} (ha : U64s a) (hb : U64s b) :
    (decide ((putNums a).length ≤ (putNums b).length) && (putNums a == (putNums b).take (putNums a).length)) = (decide (a.length ≤ b.length) && sameB a b b.length) := by
  rw [Bool.eq_iff_iff, sameB_prefix, ← putNums_prefix ha hb]
  simp only [Bool.and_eq_true, decide_eq_true_eq, beq_iff_eq]
  constructor
  · rintro ⟨h1, h2⟩; exact List.prefix_iff_eq_take.2 h2
  · intro h; exact ⟨h.length_le, List.prefix_iff_eq_take.1 h⟩
end Go.Proofs.Ytekkcbonkjdgeaa
