/- Contracts of package sum and of its reference: each function of whole numbers returns the number and the error that the plain functions here name; the world stays. No condition but that the arguments are int64. -/
import Derived.Test.YtogcdbodlomgeaaProg
import Derived.Test.YtogcdbodlomgeaaSumNum
import Derived.WalkKit
import Derived.WalkSpells
import Derived.Lib.Hide
import Derived.WalkLawsBesides
namespace Go.Proofs.Ytogcdbodlomgeaa
open Go.RowKit

def Two (v e : Int) (w : World) (x : Ending) (w' : World) : Prop := x = .returned (.tuple #[.int .i64 v, .int .i64 e]) ∧ w = w'
theorem two_mk {v e v' e' : Int} {w : World} (h1 : v' = v) (h2 : e' = e) : Two v e w (.returned (.tuple #[.int .i64 v', .int .i64 e'])) w := by subst h1; subst h2; exact ⟨rfl, rfl⟩

set_option maxHeartbeats 400000 in
theorem sumAdd (a b : Int) (w : World) (ha : I64 a) (hb : I64 b) :
    Calls Try.prog 21 #[.int .i64 a, .int .i64 b] w (Two (cutV (a + b)) (cutE (a + b)) w) := by
  obtain ⟨a1, a2⟩ := ha
  obtain ⟨b1, b2⟩ := hb
  go_enter Try.func21, Try.ntmps21
  go_wp2
  all_goals
    go_ret2
    first
      | exact two_mk (cutV_yes (by omega) (by omega)).symm (cutE_yes (by omega) (by omega)).symm
      | exact two_mk (cutV_no (by omega)).symm (cutE_no (by omega)).symm

set_option maxHeartbeats 400000 in
theorem refAdd (a b : Int) (w : World) (ha : I64 a) (hb : I64 b) :
    Calls Try.prog 22 #[.int .i64 a, .int .i64 b] w (Two (cutV (a + b)) (cutE (a + b)) w) := by
  obtain ⟨a1, a2⟩ := ha
  obtain ⟨b1, b2⟩ := hb
  go_enter Try.func22, Try.ntmps22
  go_wp2
  all_goals
    go_ret2
    first
      | exact two_mk (cutV_yes (by omega) (by omega)).symm (cutE_yes (by omega) (by omega)).symm
      | exact two_mk (cutV_no (by omega)).symm (cutE_no (by omega)).symm

set_option maxHeartbeats 400000 in
theorem sumSub (a b : Int) (w : World) (ha : I64 a) (hb : I64 b) :
    Calls Try.prog 23 #[.int .i64 a, .int .i64 b] w (Two (cutV (a - b)) (cutE (a - b)) w) := by
  obtain ⟨a1, a2⟩ := ha
  obtain ⟨b1, b2⟩ := hb
  go_enter Try.func23, Try.ntmps23
  go_wp2
  all_goals
    go_ret2
    first
      | exact two_mk (cutV_yes (by omega) (by omega)).symm (cutE_yes (by omega) (by omega)).symm
      | exact two_mk (cutV_no (by omega)).symm (cutE_no (by omega)).symm

set_option maxHeartbeats 400000 in
theorem refSub (a b : Int) (w : World) (ha : I64 a) (hb : I64 b) :
    Calls Try.prog 24 #[.int .i64 a, .int .i64 b] w (Two (cutV (a - b)) (cutE (a - b)) w) := by
  obtain ⟨a1, a2⟩ := ha
  obtain ⟨b1, b2⟩ := hb
  go_enter Try.func24, Try.ntmps24
  go_wp2
  all_goals
    go_ret2
    first
      | exact two_mk (cutV_yes (by omega) (by omega)).symm (cutE_yes (by omega) (by omega)).symm
      | exact two_mk (cutV_no (by omega)).symm (cutE_no (by omega)).symm

theorem mulOk {p v : Int} {w : World} (h : I64 p) (e : v = p) : Two (cutV p) (cutE p) w (.returned (.tuple #[.int .i64 (wrap64 v), .int .i64 0])) w := by
  subst e; exact two_mk (by rw [IntWalk.wrap64_in _ h, cutV_yes h.1 h.2]) (by rw [cutE_yes h.1 h.2])
theorem mulBad {p : Int} {w : World} (h : ¬ I64 p) : Two (cutV p) (cutE p) w (.returned (.tuple #[.int .i64 0, .int .i64 3])) w :=
  two_mk (by simp [cutV, fits_not.2 h]) (by simp [cutE, fits_not.2 h])

set_option maxHeartbeats 400000 in
theorem sumMul (a b : Int) (w : World) (ha : I64 a) (hb : I64 b) :
    Calls Try.prog 25 #[.int .i64 a, .int .i64 b] w (Two (cutV (a * b)) (cutE (a * b)) w) := by
  have HA := Lib.hid ha
  have HB := Lib.hid hb
  obtain ⟨a1, a2⟩ := ha
  obtain ⟨b1, b2⟩ := hb
  by_cases ha0 : (a == 0) = true
  · go_enter Try.func25, Try.ntmps25
    go_wp2
    all_goals
      go_ret2
      have : a = 0 := by simpa using ha0
      subst this
      exact two_mk (by simp [cutV]) (by simp [cutE, fits])
  by_cases hb0 : (b == 0) = true
  · go_enter Try.func25, Try.ntmps25
    go_wp2
    all_goals
      go_ret2
      have : b = 0 := by simpa using hb0
      subst this
      exact two_mk (by simp [cutV]) (by simp [cutE, fits])
  have hbn : b ≠ 0 := by simpa using hb0
  have hb1 : ¬ b = 0 := hbn
  have ha0 : (a == 0) = false := by simpa using ha0
  have hb0 : (b == 0) = false := by simpa using hb0
  by_cases hf : I64 (a * b)
  · have hq : (wrap64 ((wrap64 (a * b)).tdiv b) == a) = true := by simpa using mul_fits HA.out hbn hf
    have hx : (a == -1) = true → (b == -9223372036854775808) = false := by
      intro h; have : a = -1 := by simpa using h
      subst this; unfold I64 at hf
      have : ¬ b = -9223372036854775808 := by omega
      simpa using this
    have hy : (b == -1) = true → (a == -9223372036854775808) = false := by
      intro h; have : b = -1 := by simpa using h
      subst this; unfold I64 at hf
      have : ¬ a = -9223372036854775808 := by omega
      simpa using this
    have HF := Lib.hid hf
    clear hf
    go_enter Try.func25, Try.ntmps25
    go_wp2
    all_goals
      first
        | (go_ret2; exact mulOk HF.out (by first | rfl | (rw [‹a = -1›, ‹b = -1›]; omega) | (rw [‹a = -1›]; omega) | (rw [‹b = -1›]; omega)))
        | exact absurd (by simpa using hq) ‹¬ wrap64 _ = a›
  · have HF := Lib.hid hf
    by_cases hb2 : b = -1
    · subst hb2
      obtain rfl : a = -9223372036854775808 := by unfold I64 at hf; omega
      clear hf
      go_enter Try.func25, Try.ntmps25
      go_wp2
      all_goals
        go_ret2
        exact mulBad HF.out
    · have hq : (wrap64 ((wrap64 (a * b)).tdiv b) == a) = false := by simpa using mul_not HA.out HB.out hbn hf hb2
      clear hf
      go_enter Try.func25, Try.ntmps25
      go_wp2
      all_goals
        first
          | (go_ret2; exact mulBad HF.out)
          | exact absurd ‹wrap64 _ = a› (by simpa using hq)

theorem ret_int' {k : IntKind} {a b : Int} (h : a = b) : Ending.returned (.int k a) = .returned (.int k b) := by rw [h]

set_option maxHeartbeats 400000 in
theorem refSize (a : Int) (w : World) (ha : I64 a) :
    Calls Try.prog 42 #[.int .i64 a] w fun e w' => e = .returned (.int .u64 (sz a)) ∧ w = w' := by
  have HA := Lib.hid ha
  obtain ⟨a1, a2⟩ := ha
  go_enter Try.func42, Try.ntmps42
  go_wp2
  all_goals
    go_ret
    first
      | exact ⟨ret_int' (u64_size a HA.out (by omega)), rfl⟩
      | exact ⟨ret_int' rfl, rfl⟩
      | exact ⟨ret_int' (sz_pos (by omega)).symm, rfl⟩

theorem sameOk {a b x y : Int} {w : World} (hp : a * b = x * y) (hx : 0 ≤ x) (hy : 0 ≤ y) (h : x = 0 ∨ y ≤ 9223372036854775807 / x) :
    Two (cutV (a * b)) (cutE (a * b)) w (.returned (.tuple #[.int .i64 (wrap64 (IntKind.u64.wrap (x * y))), .int .i64 0])) w := by
  have h0 : 0 ≤ x * y := Int.mul_nonneg hx hy
  have h1 : x * y ≤ 9223372036854775807 := by
    rcases h with h | h
    · subst h; simp
    · by_cases hz : x = 0
      · subst hz; simp
      · have := (Int.le_ediv_iff_mul_le (by omega : 0 < x)).1 h
        rwa [Int.mul_comm]
  rw [hp, u64_pos _ h0 h1, cutV_yes (by omega) h1, cutE_yes (by omega) h1]
  exact ⟨rfl, rfl⟩
theorem zeroOk {a b : Int} {w : World} (hp : a * b = 0) : Two (cutV (a * b)) (cutE (a * b)) w (.returned (.tuple #[.int .i64 0, .int .i64 0])) w := by
  rw [hp]; exact ⟨rfl, rfl⟩
theorem diffOk {a b x y : Int} {w : World} (hp : a * b = -(x * y)) (hx : 0 ≤ x) (hy : 0 ≤ y) (h : x = 0 ∨ y ≤ 9223372036854775808 / x) :
    Two (cutV (a * b)) (cutE (a * b)) w (.returned (.tuple #[.int .i64 (wrap64 (IntKind.u64.wrap (-(IntKind.u64.wrap (x * y))))), .int .i64 0])) w := by
  have h0 : 0 ≤ x * y := Int.mul_nonneg hx hy
  have h1 : x * y ≤ 9223372036854775808 := by
    rcases h with h | h
    · subst h; simp
    · by_cases hz : x = 0
      · subst hz; simp
      · have := (Int.le_ediv_iff_mul_le (by omega : 0 < x)).1 h
        rwa [Int.mul_comm]
  rw [hp, u64_neg _ h0 h1, cutV_yes (by omega) (by omega), cutE_yes (by omega) (by omega)]
  exact ⟨rfl, rfl⟩
theorem sameBad {a b x y : Int} {w : World} (hp : a * b = x * y) (hx : 0 < x) (h : 9223372036854775807 / x < y) :
    Two (cutV (a * b)) (cutE (a * b)) w (.returned (.tuple #[.int .i64 0, .int .i64 3])) w := by
  have := (Int.ediv_lt_iff_lt_mul hx).1 h
  rw [Int.mul_comm] at this
  exact mulBad (by rw [hp]; unfold I64; omega)
theorem diffBad {a b x y : Int} {w : World} (hp : a * b = -(x * y)) (hx : 0 < x) (h : 9223372036854775808 / x < y) :
    Two (cutV (a * b)) (cutE (a * b)) w (.returned (.tuple #[.int .i64 0, .int .i64 3])) w := by
  have := (Int.ediv_lt_iff_lt_mul hx).1 h
  rw [Int.mul_comm] at this
  exact mulBad (by rw [hp]; unfold I64; omega)

set_option maxHeartbeats 2000000 in
theorem refMul (a b : Int) (w : World) (ha : I64 a) (hb : I64 b) :
    Calls Try.prog 26 #[.int .i64 a, .int .i64 b] w (Two (cutV (a * b)) (cutE (a * b)) w) := by
  have HA := Lib.hid ha
  have HB := Lib.hid hb
  obtain ⟨a1, a2⟩ := ha
  obtain ⟨b1, b2⟩ := hb
  obtain ⟨x1, x2⟩ := sz_bd HA.out
  obtain ⟨y1, y2⟩ := sz_bd HB.out
  obtain ⟨x, hx⟩ : ∃ x, x = sz a := ⟨_, rfl⟩
  obtain ⟨y, hy⟩ : ∃ y, y = sz b := ⟨_, rfl⟩
  have cx := fun w => refSize a w HA.out
  have cy := fun w => refSize b w HB.out
  rw [← hx] at x1 x2 cx
  rw [← hy] at y1 y2 cy
  have CX := Lib.hid cx
  have CY := Lib.hid cy
  clear cx cy
  by_cases sa : a < 0 <;> by_cases sb : b < 0
  · have HP : Hid (a * b = x * y) := Lib.hid (by rw [hx, hy, sz_neg sa, sz_neg sb, Int.neg_mul_neg])
    clear hx hy
    have da : decide (a < 0) = true := by simpa using sa
    have db : decide (b < 0) = true := by simpa using sb
    by_cases hx0 : x = 0
    all_goals
      (try subst hx0)
      go_enter Try.func26, Try.ntmps26
      go_wp2_with fail
      refine (CX.out _).mono ?_
      rintro e w' ⟨rfl, rfl⟩
      go_wp2_with fail
      refine (CY.out _).mono ?_
      rintro e w' ⟨rfl, rfl⟩
      go_wp2_with fail
      all_goals
        go_ret2
        first
          | exact sameBad HP.out (by omega) (by simp_all)
          | exact sameOk HP.out x1 y1 (.inr (by simp_all))
          | exact zeroOk (by rw [HP.out]; simp)
  · have HP : Hid (a * b = -(x * y)) := Lib.hid (by rw [hx, hy, sz_neg sa, sz_pos sb, Int.neg_mul, Int.neg_neg])
    clear hx hy
    have da : decide (a < 0) = true := by simpa using sa
    have db : decide (b < 0) = false := by simpa using sb
    by_cases hx0 : x = 0
    all_goals
      (try subst hx0)
      go_enter Try.func26, Try.ntmps26
      go_wp2_with fail
      refine (CX.out _).mono ?_
      rintro e w' ⟨rfl, rfl⟩
      go_wp2_with fail
      refine (CY.out _).mono ?_
      rintro e w' ⟨rfl, rfl⟩
      go_wp2_with fail
      all_goals
        go_ret2
        first
          | exact diffBad HP.out (by omega) (by simp_all)
          | exact diffOk HP.out x1 y1 (.inr (by simp_all))
          | exact zeroOk (by rw [HP.out]; simp)
  · have HP : Hid (a * b = -(x * y)) := Lib.hid (by rw [hx, hy, sz_pos sa, sz_neg sb, Int.mul_neg, Int.neg_neg])
    clear hx hy
    have da : decide (a < 0) = false := by simpa using sa
    have db : decide (b < 0) = true := by simpa using sb
    by_cases hx0 : x = 0
    all_goals
      (try subst hx0)
      go_enter Try.func26, Try.ntmps26
      go_wp2_with fail
      refine (CX.out _).mono ?_
      rintro e w' ⟨rfl, rfl⟩
      go_wp2_with fail
      refine (CY.out _).mono ?_
      rintro e w' ⟨rfl, rfl⟩
      go_wp2_with fail
      all_goals
        go_ret2
        first
          | exact diffBad HP.out (by omega) (by simp_all)
          | exact diffOk HP.out x1 y1 (.inr (by simp_all))
          | exact zeroOk (by rw [HP.out]; simp)
  · have HP : Hid (a * b = x * y) := Lib.hid (by rw [hx, hy, sz_pos sa, sz_pos sb])
    clear hx hy
    have da : decide (a < 0) = false := by simpa using sa
    have db : decide (b < 0) = false := by simpa using sb
    by_cases hx0 : x = 0
    all_goals
      (try subst hx0)
      go_enter Try.func26, Try.ntmps26
      go_wp2_with fail
      refine (CX.out _).mono ?_
      rintro e w' ⟨rfl, rfl⟩
      go_wp2_with fail
      refine (CY.out _).mono ?_
      rintro e w' ⟨rfl, rfl⟩
      go_wp2_with fail
      all_goals
        go_ret2
        first
          | exact sameBad HP.out (by omega) (by simp_all)
          | exact sameOk HP.out x1 y1 (.inr (by simp_all))
          | exact zeroOk (by rw [HP.out]; simp)
end Go.Proofs.Ytogcdbodlomgeaa
