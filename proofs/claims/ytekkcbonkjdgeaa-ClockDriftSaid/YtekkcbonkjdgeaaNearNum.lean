/- Plain: how near the clocks are to the true time since a mark: no program. -/
import Derived.Test.YtekkcbonkjdgeaaWClockB
namespace Go.Proofs.Ytekkcbonkjdgeaa
open Go.RowKit

/-- Three nodes' clocks and two edges', nobody has skewed them. -/
structure Calm3 (s : Clk) (rho : Int) : Prop where
  nodes : s.nodes = 3
  edges : s.edges = 2
  rate : s.rho = rho
  skew : s.skew = false
/-- What the clocks counted since the mark. -/
structure Near (s : Clk) (rho r0 : Int) (A : List Int) (k : Nat) : Prop where
  nonneg : 0 ≤ r0
  low : r0 ≤ s.real
  up : s.real - r0 ≤ (k : Int) * 1000000
  ends : ∀ (j : Nat) (a : Int), A[j]? = some a → 0 ≤ a ∧ a ≤ s.T (endAt 3 j) ∧ s.T (endAt 3 j) - a ≤ (k : Int) * 1500000 ∧ (s.T (endAt 3 j) - a) * 1000000 ≤ (s.real - r0) * (1000000 + rho) ∧ (s.real - r0) * 1000000 ≤ (s.T (endAt 3 j) - a) * (1000000 + rho)
theorem Calm3.new (rho : Int) : Calm3 (clk0 3 2 rho) rho := ⟨rfl, rfl, rfl, rfl⟩
theorem Calm3.inE {s : Clk} {rho : Int} (h : Calm3 s rho) {j : Nat} (hj : j < 5) : inE s.nodes s.edges (endAt 3 j) = true := by
  rw [h.nodes, h.edges]
  match j, hj with
  | 0, _ => decide
  | 1, _ => decide
  | 2, _ => decide
  | 3, _ => decide
  | 4, _ => decide
theorem Calm3.now {s : Clk} {rho : Int} (h : Calm3 s rho) {j : Nat} (hj : j < 5) : nowV s (endAt 3 j) = s.T (endAt 3 j) ∧ nowE s (endAt 3 j) = 0 := by
  rw [nowV, nowE, if_pos (h.inE hj), if_pos (h.inE hj)]; exact ⟨rfl, rfl⟩
theorem Calm3.pass {s : Clk} {rho k : Int} {d : Nat} (h : Calm3 s rho) : Calm3 (passS s k d) rho := by
  unfold passS
  split
  · exact ⟨h.nodes, h.edges, h.rate, h.skew⟩
  · exact h
theorem Near.mono {s : Clk} {rho r0 : Int} {A : List Int} {k k' : Nat} (h : Near s rho r0 A k) (hk : k ≤ k') : Near s rho r0 A k' := by
  refine ⟨h.nonneg, h.low, by have := h.up; omega, fun j a ha => ?_⟩
  obtain ⟨h1, h2, h3, h4, h5⟩ := h.ends j a ha
  exact ⟨h1, h2, by omega, h4, h5⟩
theorem Near.zero {s : Clk} {rho : Int} {A : List Int} (h : s.ok) (hc : Calm3 s rho) (hl : A.length = 5) (hA : ∀ (j : Nat), j < 5 → A[j]? = some (s.T (endAt 3 j))) : Near s rho s.real A 0 := by
  refine ⟨h.2.2.2.1.1, Int.le_refl _, by omega, fun j a ha => ?_⟩
  have hj : j < 5 := by
    rw [← hl]
    exact (List.getElem?_eq_some_iff.1 ha).1
  rw [hA j hj] at ha
  injection ha with ha
  subst ha
  have := h.2.2.2.2 _ (hc.inE hj)
  refine ⟨this.1, Int.le_refl _, by omega, ?_, ?_⟩
  · rw [Int.sub_self, Int.sub_self, Int.zero_mul, Int.zero_mul]; exact Int.le_refl _
  · rw [Int.sub_self, Int.sub_self, Int.zero_mul, Int.zero_mul]; exact Int.le_refl _
theorem Near.pass {s : Clk} {rho r0 k : Int} {A : List Int} {m : Nat} {d : Nat} (h : Near s rho r0 A m) (hrho : s.rho = rho) (hr : 0 ≤ rho) (hr2 : rho ≤ 500000) (hk : k ≤ 1000000) (hp : passE s k d = 0) : Near (passS s k d) rho r0 A (m + 1) := by
  have hk0 := passE_good hp
  have hg : Good k rho := ⟨hk0.1, hk0.2, hr, hr2⟩
  rw [passS, if_pos hp]
  refine ⟨h.nonneg, ?_, ?_, fun j a ha => ?_⟩
  · have := h.low; simp only; omega
  · have := h.up; simp only; omega
  · obtain ⟨h1, h2, h3, h4, h5⟩ := h.ends j a ha
    obtain ⟨d1, d2⟩ := step_drift hg d (endAt 3 j)
    obtain ⟨b1, b2⟩ := step_small hg hk d (endAt 3 j)
    simp only [hrho]
    generalize stepV k rho d (endAt 3 j) = st at *
    generalize s.T (endAt 3 j) = t at *
    have e1 : t + st - a = t - a + st := by omega
    have e2 : s.real + k - r0 = s.real - r0 + k := by omega
    rw [e1, e2, Int.add_mul, Int.add_mul (s.real - r0), Int.add_mul (s.real - r0), Int.add_mul (t - a) st (1000000 + rho)]
    refine ⟨h1, by omega, by omega, by omega, by omega⟩
/-- The products fit. -/
theorem Near.fits {s : Clk} {rho r0 : Int} {A : List Int} {m : Nat} (h : Near s rho r0 A m) (hr : 0 ≤ rho) (hr2 : rho ≤ 500000) (hm : m ≤ 100) {j : Nat} {a : Int} (ha : A[j]? = some a) :
    (0 ≤ (s.T (endAt 3 j) - a) * (1000000 + rho) ∧ (s.T (endAt 3 j) - a) * (1000000 + rho) ≤ 225000000000000) ∧ (0 ≤ (s.real - r0) * (1000000 + rho) ∧ (s.real - r0) * (1000000 + rho) ≤ 150000000000000) := by
  obtain ⟨h1, h2, h3, h4, h5⟩ := h.ends j a ha
  have l := h.low
  have u := h.up
  have p1 : (s.T (endAt 3 j) - a) * (1000000 + rho) ≤ 150000000 * 1500000 := Int.mul_le_mul (by omega) (by omega) (by omega) (by omega)
  have p2 : (s.real - r0) * (1000000 + rho) ≤ 100000000 * 1500000 := Int.mul_le_mul (by omega) (by omega) (by omega) (by omega)
  exact ⟨⟨Int.mul_nonneg (by omega) (by omega), by omega⟩, ⟨Int.mul_nonneg (by omega) (by omega), by omega⟩⟩
/-- The ends, in the law's order. -/
theorem ends_cell {w : World} {g : Nat} {T : TypeId} (h : Blk w g T #[.int .i64 1, .int .i64 2, .int .i64 3, .int .i64 (-1), .int .i64 (-2)]) {j : Nat} (hj : j < 5) : w.cell? ⟨g, j, none⟩ = some (.int .i64 (endAt 3 j)) := by
  match j, hj with
  | 0, _ => exact h.cell 0 rfl
  | 1, _ => exact h.cell 1 rfl
  | 2, _ => exact h.cell 2 rfl
  | 3, _ => exact h.cell 3 rfl
  | 4, _ => exact h.cell 4 rfl
/-- The marks, a variable of five numbers. -/
def Five (w : World) (g : Nat) (A : List Int) : Prop := Blk w g 44 (A.map (Value.int .i64)).toArray ∧ A.length = 5
section
variable {w w' : World} {g : Nat} {A : List Int}
theorem Five.cell (h : Five w g A) {j : Nat} (hj : j < 5) : ∃ a, A[j]? = some a ∧ w.cell? ⟨g, j, none⟩ = some (.int .i64 a) := by
  have hj' : j < A.length := by rw [h.2]; exact hj
  exact ⟨A[j], List.getElem?_eq_getElem hj', h.1.cell j (by simp [hj'])⟩
theorem Five.set (h : Five w g A) (j : Nat) (v : Int) : Five (w.setCell ⟨g, j, none⟩ (.int .i64 v)) g (A.set j v) := by
  refine ⟨?_, by rw [List.length_set]; exact h.2⟩
  have := h.1.setCell j (.int .i64 v)
  rw [List.setIfInBounds_toArray, ← List.map_set] at this
  exact this
theorem Five.kept (h : Five w g A) (hb : Below w.heap.size w w') : Five w' g A := ⟨h.1.kept hb, h.2⟩
theorem Five.tm (h : Five w g A) (t : TM badC w w') : Five w' g A := ⟨h.1.tm t (by simp [badC]), h.2⟩
theorem CI.setFive {n gc : Nat} {s : Clk} (hC : CI n w gc s) (h : Five w g A) (j : Nat) (v : Value) : CI n (w.setCell ⟨g, j, none⟩ v) gc s := by
  obtain ⟨m, es, h1, h2, h3, h4, h5⟩ := hC
  have n1 : gc ≠ g := by
    rintro rfl
    have := h.1
    unfold Blk at this h1
    rw [h1] at this
    injection this with this
    injection this with _ this
    exact absurd this (by decide)
  have n2 : m ≠ g := by
    rintro rfl
    obtain ⟨es0, clock, hm, _⟩ := h2.size
    have := h.1
    unfold Blk at this
    rw [hm] at this
    cases this
  exact ⟨m, es, h1.setCell_other v n1, h2.setCell (p := ⟨g, j, none⟩) n2 v, h3, h4, h5⟩
end
end Go.Proofs.Ytekkcbonkjdgeaa
